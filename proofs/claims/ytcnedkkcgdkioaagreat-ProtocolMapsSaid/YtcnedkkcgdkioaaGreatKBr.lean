/- Texts of this claim, put together: UX TU2 TU1 UZ UY RI TU0. -/
import Derived.Test.YtcnedkkcgdkioaaGreatKBq
import Derived.Laws.CopyRow

set_option maxRecDepth 100000
set_option maxHeartbeats 12800000
namespace Go.Proofs.YtcnedkkcgdkioaaGreat
open Go.RowKit
theorem nJ {n:Int}{ss:Jc}(e:∀s∈ss,∀m∈s,m.length=8) (c:BU n ss=0) {s:Jb}(hs:s∈ss) {m:List Int}(b:m∈s):∀x∈rdOf m,0<=x/\x<=31:=by
 obtain⟨_,_,d,_⟩:=PQ c;have h:=NO d s hs;unfold DO at h;split at h
 ·cases h
 ·obtain⟨i,f,rfl⟩:=List.mem_iff_getElem.1 b;have a:=(OR (NH h i (Nat.zero_le _) (by omega))).1;rw[AK f] at a;exact uX (by rw[rdOf,List.length_take,e s hs _ b];rfl) a
theorem RI {n:Int}{ss:Jc}(d:∀s∈ss,∀m∈s,m.length=8) (c:BU n ss=0):∀(k s:Nat) (wd:Jb),wd∈wL ss k s->∀r∈wd,∀x∈r,0<=x/\x<=31
 | 0,_,wd,h,r,a=>by
  rw[wL,List.mem_singleton] at h;subst h;cases a
 | k+1,s,wd,h,r,a=>by
  rw[wL] at h;obtain⟨m,b,h⟩:=List.mem_flatMap.1 h;obtain⟨f,w,rfl⟩:=List.mem_map.1 h;rcases List.mem_cons.1 a with rfl|a
  ·by_cases e:s < ss.length
   ·rw[AK e] at b;exact nJ d c (wG e) b
   ·rw[List.getD_eq_getElem?_getD,List.getElem?_eq_none (by omega)] at b;cases b
  ·exact RI d c k _ f w r a
theorem kU {l:List Int}(h:∀x∈l,0<=x/\x<=31) (j:Nat):0<=l.getD j 0/\l.getD j 0<=31:=by
 rw[List.getD_eq_getElem?_getD];cases e:l[j]? with
 | none=>exact⟨by decide,by decide⟩
 | some x=>exact h x (List.mem_of_getElem? e)
theorem VC {wd:Jb}(h:∀r∈wd,∀x∈r,0<=x/\x<=31) (k j:Nat):0<=(wd.getD k []).getD j 0/\(wd.getD k []).getD j 0<=31:=by
 refine kU (fun x a=>?_) j;rw[List.getD_eq_getElem?_getD] at a;cases e:wd[k]? with
 | none=>rw[e] at a;cases a
 | some r=>rw[e] at a;exact h r (List.mem_of_getElem? e) x a
theorem MF {n i o:Int}{cs:List Cs}(h:FK n i o cs=0):(1<=n/\n<=5)/\∀k,k < cs.length->((cs.getD k BE).1.length:Int)=n/\∀j:Nat,0<=(cs.getD k BE).1.getD j 0/\(cs.getD k BE).1.getD j 0<=1000:=by
 unfold FK at h;split at h
 ·cases h
 next m=>
 split at h
 ·cases h
 next p=>
 refine⟨by omega,fun k q=>?_⟩;have e:=(QA _ _).1 h k (Nat.zero_le _) (by omega);unfold GY at e;split at e
 ·rename_i b;exact absurd e b
 next b=>
 have a:FG (cs.getD k BE).1 n i=0:=Decidable.not_not.1 b;unfold FG at a;split at a
 ·cases a
 next g=>
 split at a
 ·cases a
 next c=>
 refine⟨Decidable.not_not.1 g,fun j=>?_⟩;rw[List.getD_eq_getElem?_getD];cases l:(cs.getD k BE).1[j]? with
 | none=>exact⟨by decide,by decide⟩
 | some x=>
  have d:=List.mem_of_getElem? l;refine⟨?_,?_⟩
  ·show 0<=x;by_cases f:0<=x
   ·exact f
   ·exact absurd ⟨x,d,.inl (by omega)⟩ c
  ·show x<=1000;by_cases f:x < i
   ·omega
   ·exact absurd ⟨x,d,.inr (by omega)⟩ c
theorem YO {cs:List Cs}(h:GS cs=true):∀c∈cs,PH c:=by
 unfold GS at h;rw[Bool.and_eq_true,List.all_eq_true] at h;intro c j;have e:=h.2 c j;unfold LU KP at e;simp only[Bool.and_eq_true,decide_eq_true_eq,List.all_eq_true] at e;obtain⟨a,⟨b,g⟩,d,i⟩:=e;exact⟨by omega,by omega,by omega,fun x f=>by have:=g x f;omega,fun x f=>by have:=i x f;omega⟩
def EC (E:TypeId) (W W':World):Prop:=∀(k:Nat) (c:Array Value),W.heap[k]? = some (.cells c E)->W'.heap[k]? = W.heap[k]?
theorem EC.below {E:TypeId}{W W':World}(h:Below W.heap.size W W'):EC E W W':=fun k _ a=>h.block k (wD.1 a).1
theorem AA.ofE {α:Type}{E:TypeId}{k:Nat}{El:World->List Value->α->Prop}{w w':World}{B n:Nat}{v:Value}{xs:List α}(h:AA E k El w B v n xs) (o:EC E w w') (l:∀cs x,El w cs x->El w' cs x):AA E k El w' B v n xs:=by
 obtain⟨t,a,e,f,i⟩:=h;refine⟨t,⟨a.1,?_⟩,e,f,fun j x m=>l _ _ (i j x m)⟩;rcases a.2 with d|⟨g,p,c,q,r,b,s⟩
 ·exact .inl d
 ·exact .inr ⟨g,p,c,q,r,(o g c b).trans b,s⟩
theorem OI.ofE {w w':World}{B n:Nat}{v:Value}{xs:List Int}(h:OI w B v n xs) (d:EC 3 w w'):OI w' B v n xs:=by
 refine⟨h.1,?_⟩;rcases h.2 with b|⟨g,a,c,e,f,k,i⟩
 ·exact .inl b
 ·exact .inr ⟨g,a,c,e,f,(d g c k).trans k,i⟩
theorem BD.ofE {w w':World}{cs:List Value}{x:List Int}(h:BD w cs x) (k:EC 3 w w'):BD w' cs x:=by
 obtain⟨u,a,b⟩:=h;exact⟨u,a,OI.ofE b k⟩
def CL (w:World) (cs:List Value) (x:Ex):Prop:=∃a c b d,cs = [.int .i64 x.1,.slice a x.2.1.length c,.slice b x.2.2.length d]/\AA 148 7 EI w 0 (.slice a x.2.1.length c) x.2.1.length x.2.1/\AA 48 1 BD w 0 (.slice b x.2.2.length d) x.2.2.length x.2.2
theorem CL.stab {E:TypeId}(f:148 ≠ E) (g:48 ≠ E) (i:3 ≠ E):CP E CL:=fun _w _w' _cs _x ⟨a,c,b,d,e,k,j⟩ h=>⟨a,c,b,d,e,k.other (EI.stab _) f h,j.other (BD.stab i) g h⟩
theorem CL.ofE {w w':World}{cs:List Value}{x:Ex}(h:CL w cs x) (f:EC 148 w w') (g:EC 48 w w') (i:EC 3 w w'):CL w' cs x:=by
 obtain⟨a,c,b,d,e,k,j⟩:=h;exact⟨a,c,b,d,e,k.ofE f fun _ _ h=>h,j.ofE g fun _ _ h=>h.ofE i⟩
theorem XS:EA Tryz.prog 33 80 (.agg #[.int .i64 0,.slice none 0 0,.slice none 0 0]) 3 56:=⟨by kernel_rfl,by kernel_rfl,rfl⟩
structure KR (v:Value) (W W':World):Prop where
 rd:EC 148 W W'
 vi:EC 48 W W'
 it:EC 3 W W'
 ex:∀(k:Nat) (cs:Array Value),W.heap[k]? = some (.cells cs 80)->v.ownBlock ≠ some k->W'.heap[k]? = W.heap[k]?
theorem KR.refl (v:Value) (W:World):KR v W W:=⟨fun _ _ _=>rfl,fun _ _ _=>rfl,fun _ _ _=>rfl,fun _ _ _ _=>rfl⟩
theorem KR.below {v:Value}{W W':World}(h:Below W.heap.size W W'):KR v W W':=⟨EC.below h,EC.below h,EC.below h,fun k _ a _=>h.block k (wD.1 a).1⟩
theorem AA.ofEV {u:Value}{w w':World}{B n:Nat}{v:Value}{xs:Jb}(h:AA 48 1 BD w B v n xs) (r:KR u w w'):AA 48 1 BD w' B v n xs:=h.ofE r.vi fun _ _ h=>h.ofE r.it
theorem BH.toE {bb:Nat}{w w':World}{E:TypeId}(h:BH bb w w') (f:∃cs,w.heap[bb]? = some (.cells cs 140)) (b:E ≠ 114) (d:E ≠ 140):EC E w w':=fun k cs a=>h.cells k cs E a b fun e=>by
 obtain⟨c,g⟩:=f;rw[e,g] at a;injection a with a;injection a with _ a;exact d a.symm
def KX (W W':World):Prop:=∀(k:Nat) (c:Array Value) (t:TypeId),W.heap[k]? = some (.cells c t)->t ≠ 114->t ≠ 140->t ≠ 80->t ≠ 35->W'.heap[k]? = W.heap[k]?
theorem KX.trans {A B C:World}(h:KX A B) (g:KX B C):KX A C:=fun k c t i a b d f=>by
 have e:=h k c t i a b d f;exact(g k c t (e.trans i) a b d f).trans e
theorem KX.below {A B:World}(h:Below A.heap.size A B):KX A B:=fun k _ _ a _ _ _ _=>h.block k (wD.1 a).1
theorem KX.ofB {bb:Nat}{A B:World}(h:BH bb A B) (f:∃cs,A.heap[bb]? = some (.cells cs 140)):KX A B:=fun k cs t a b d _ _=>h.cells k cs t a b fun e=>by
 obtain⟨c,g⟩:=f;rw[e,g] at a;injection a with a;injection a with _ a;exact d a.symm
theorem KX.ofEx {A B:World}(h:AE 80 A B):KX A B:=fun k c t b _ _ a _=>h k c t b a
theorem KX.ofSy {A B:World}(h:AE 35 A B):KX A B:=fun k c t b _ _ _ a=>h k c t b a
theorem II {B b o:Nat}{w W:World}{v:Value}(h:Below B w W) (a:b < B) (c:w.cell? ⟨b,o,none⟩=some v):W.cell? ⟨b,o,none⟩=some v:=(World.cell?_of_block (h.block b a)).trans c
theorem KY {W:World}{j k:Nat}{o a:Obj}(c:W.heap[k]? = some o) (d:Lo o) (h:W.heap[j]? = some a) (b : ¬Lo a):j ≠ k:=fun e=>by
 subst e;rw[c] at h;injection h with h;subst h;exact b d
theorem EC.putObj {E:TypeId}{W:World}{k:Nat}{o o':Obj}(a:W.heap[k]? = some o) (b:Lo o):EC E W (W.putObj k o'):=fun _ _ h=>World.putObj_heap_other (KY a b h id)
theorem KX.putObj {W:World}{k:Nat}{o o':Obj}(a:W.heap[k]? = some o) (b:Lo o):KX W (W.putObj k o'):=fun _ _ _ h _ _ _ _=>World.putObj_heap_other (KY a b h id)
theorem BX.putObj {W:World}{B bb mb k:Nat}{n:Int}{vs:Jb}{o o':Obj}(h:BX W B bb mb n vs) (a:W.heap[k]? = some o) (b:Lo o):BX (W.putObj k o') B bb mb n vs:=by
 obtain⟨v,d,f,e,g⟩:=h;refine⟨v,(World.putObj_heap_other (KY a b d id)).trans d,f.ofE (EC.putObj a b) (fun _ _ h=>h),e.keep (World.putObj_heap_other ?_),g⟩;obtain⟨s,c,m,_⟩:=e;exact KY a b m id
theorem AE.putObjLo {E:TypeId}{W:World}{k:Nat}{o o':Obj}(a:W.heap[k]? = some o) (b:Lo o):AE E W (W.putObj k o'):=fun _ _ _ h _=>World.putObj_heap_other (KY a b h id)
theorem TW (n:Nat) (xs:List Int) (wd:Jb) (vs:Jb):∀k,∀r∈(AQ n xs wd vs k).2,r.length=n
 | 0,r,a=>by
  rw[AQ,List.mem_singleton] at a;subst a;exact HJ n
 | k+1,r,a=>by
  rw[AQ] at a;rcases List.mem_append.1 a with h|h
  ·exact TW n xs wd vs k r h
  ·rw[List.mem_singleton] at h;subst h;exact HJ n
theorem PY (n:Nat):∀(l:List (Int × List Int × Jb)) (vs:Jb),∀x∈(BB n vs l).2,(∃y∈l,x.2.1=y.2.2)/\x.2.2.length=x.2.1.length+1/\∀r∈x.2.2,r.length=n
 | [],vs,x,h=>by cases h
 | (c,xs,wd)::l,vs,x,h=>by
  rw[BB] at h;rcases List.mem_cons.1 h with rfl|h
  ·exact⟨⟨(c,xs,wd),List.mem_cons_self,rfl⟩,IN n xs wd vs wd.length,TW n xs wd vs wd.length⟩
  ·obtain⟨⟨y,b,e⟩,a⟩:=PY n l _ x h;exact⟨⟨y,List.mem_cons_of_mem _ b,e⟩,a⟩
theorem MB {cs:List Cs}{ws:Jc}{x:Int × List Int × Jb}(h:x∈DU cs ws):x.2.2∈ws:=by
 unfold DU at h;obtain⟨c,_,h⟩:=List.mem_flatMap.1 h;obtain⟨w,a,rfl⟩:=List.mem_map.1 h;exact a
theorem AA.exs {w:World}{B n:Nat}{v:Value}{xs:List Ex}(h:AA 80 3 CL w B v n xs) (D:n<=100000) (m:∀x∈xs,x.2.1.length<=100000/\x.2.2.length<=100000/\∀r∈x.2.2,r.length<=100000):IV w v xs:=by
 obtain rfl:=h.length;rcases Nat.eq_zero_or_pos xs.length with d|d
 ·obtain⟨a,c,rfl⟩:=h.shape;obtain rfl:=List.length_eq_zero_iff.1 d;exact⟨a,c,0,0,rfl,by simp,by intro j b;simp at b,by simp⟩
 ·obtain⟨g,p,rfl,_⟩:=h.form d;refine⟨_,p,g,0,rfl,fun _=>rfl,fun j b=>?_,by omega⟩;have i:xs[j]? = some (xs.getD j BJ):=by rw[AK b];exact List.getElem?_eq_some_iff.2 ⟨b,rfl⟩
  obtain⟨A,C,⟨s,y,t,z,e,o,q⟩,f⟩:=h.cells i;obtain⟨u,k,l⟩:=m _ (List.mem_of_getElem? i);subst e;refine⟨_,_,?_,?_,?_,o.ks (by omega),q.intssE k l⟩
  ·have:=f 0 _ rfl;rw[Nat.zero_add];exact this
  ·have:=f 1 _ rfl;rw[Nat.zero_add];exact this
  ·have:=f 2 _ rfl;rw[Nat.zero_add];exact this
structure IT (w0 wL:World) (B b7 b8 bb mb N:Nat) (p:Value->Obj) (l:List (Int × List Int × Jb)) (W:World):Prop where
 bl:Below B w0 W
 kx:KX wL W
 bu:BX W B bb mb (N:Int) (BB N [] l).1
 ex:∃ea ec,AA 80 3 CL W B (.slice ea (BB N [] l).2.length ec) (BB N [] l).2.length (BB N [] l).2/\W.heap[b7]? = some (p (.slice ea (BB N [] l).2.length ec))
 k8:W.heap[b8]? = some (.cells #[.pointer (some ⟨bb,0,none⟩)] 137)
theorem IT.putObj {w0 wL W:World}{B b7 b8 bb mb N k:Nat}{p:Value->Obj}{l:List (Int × List Int × Jb)}{o o':Obj}(q:∀v,¬Lo (p v)) (h:IT w0 wL B b7 b8 bb mb N p l W) (n:B<=k) (a:W.heap[k]? = some o) (b:Lo o):IT w0 wL B b7 b8 bb mb N p l (W.putObj k o'):=by
 obtain⟨g,i,j,⟨e,f,m,c⟩,d⟩:=h;exact⟨IG g n _,i.trans (KX.putObj a b),j.putObj a b,⟨e,f,m.ofE (EC.putObj a b) (fun _ _ h=>h.ofE (EC.putObj a b) (EC.putObj a b) (EC.putObj a b)),(World.putObj_heap_other (KY a b c (q _))).trans c⟩,(World.putObj_heap_other (KY a b d id)).trans d⟩
theorem IT.below {w0 wL W W':World}{B b7 b8 bb mb N:Nat}{p:Value->Obj}{l:List (Int × List Int × Jb)}(k:B<=W.heap.size) (h:IT w0 wL B b7 b8 bb mb N p l W) (b:Below W.heap.size W W'):IT w0 wL B b7 b8 bb mb N p l W':=by
 obtain⟨a,d,f,⟨e,c,g,i⟩,j⟩:=h;exact⟨a.trans (b.mono k),d.trans (KX.below b),f.keep b,⟨e,c,g.keep (CL.stab (by decide) (by decide) (by decide)) b,AN b i⟩,AN b j⟩
theorem vG {P:Program}{α:Type}{g:Operand}{s:Array Tmp}{assign body:Code}{Q:Exit->Act->World->Prop}{a:Act}{w:World}
  {gf:Nat} {lb:Array Value} (u:a.eval g = .func (.func gf) #[] lb) (f:∀args w,(callFunc gf args).run P w = .ok (.enter gf args) w)
  {enc:α->Array Value} {R:List α->α->Prop} {S:List α->Prop} {e:World->Prop} (B:RM P gf lb enc R S e)
  (z:∀x,(enc x).size=s.size)
  (I:List α->World->Prop) (b:Code->List α->World->Prop) (i:∀(r:List α) (W:World) (k:Nat) (o o':Obj),w.heap.size<=k->Lo o'->I r W->W.heap[k]? = some o->Lo o->I r (W.putObj k o')) (m:∀(c:Code) (r:List α) (W:World) (k:Nat) (o o':Obj),w.heap.size<=k->Lo o'->b c r W->W.heap[k]? = some o->Lo o->b c r (W.putObj k o')) (j:∀(W:World) (o:Obj),Lo o->I [] W->I [] (W.alloc o))
  (A:∀r W,I r W->e W) (h:I [] w) (t:α->Array Value->Array Value)
  (n:∀(l:Nat) (x:α) (W:World) (K:Act->World->Prop),K { tmps:=t x a.tmps,defers:=[] } W->
   assign.wpIn (Fence.wide.inRound l) 0 P (Exit.then K (fun _ _ _=>False)) { tmps:=(s.zip (enc x)).foldl (fun t (p,v)=>t.setIfInBounds p v) a.tmps,defers:=[] } W)
  (y:∀(l:Nat) (r:List α) (x:α) (W:World),I r W->R r x->body.wpIn (Fence.wide.inRound l) 0 P (RU I b (r ++ [x]) W) { tmps:=t x a.tmps,defers:=[] } W)
  (q:∀(d:Nat) (xs:List α) (W:World),S xs->I xs W->w.heap.size<=d->W.heap[d]? = some (.deferred (some []))->Q .normal { a with defers:={ target:=.collected d,args:=#[] }::a.defers } W)
  (C:∀(d:Nat) (c:Code) (r:List α) (W:World),b c r W->w.heap.size<=d->W.heap[d]? = some (.deferred (some []))->c.wpIn Fence.wide 0 P Q { a with defers:={ target:=.collected d,args:=#[] }::a.defers } W) :
  (Code.rangeFunc g s assign body).wpIn Fence.wide 0 P Q a w:=
 vF u f B z I b i m j A h _ n y q C
theorem UM {fn:Func}(h:fn.results = #[.cell 2 35,.cell 3 41]) (tmps:Array Value) (w:World) (g a:Nat) (x:Int) {u0 u1 u2 u3 u4 u5 u6 u7 u8 u9:Value}(p:tmps.getD 2 undef = .pointer (some ⟨g,0,none⟩)) (d:tmps.getD 3 undef = .pointer (some ⟨a,0,none⟩))
  (c:w.heap[g]? = some (.cells #[u0,u1,u2,u3,u4,u5,u6,u7,u8,u9] 35)) (j:w.cell? ⟨a,0,none⟩=some (.int .i64 x)) :
  (results fn tmps).run Tryz.prog w = .ok (.tuple #[.agg #[u0,u1,u2,u3,u4,u5,u6,u7,u8,u9],.int .i64 x]) w:=by
 have b:tmps[2]?.getD undef = .pointer (some ⟨g,0,none⟩):=by simpa using p
 have e:tmps[3]?.getD undef = .pointer (some ⟨a,0,none⟩):=by simpa using d
 obtain⟨⟨z,l,m,n,o,q,r⟩,t,u,v⟩:=AW c;have f:=Tryz.isAgg35;have i:=Tryz.isAgg41;have s:=Tryz.sizeOf35;have k:=Tryz.sizeOf41;simp only[results,h];simp[Sem.run_bind,Result.andThen,b,e,asAddr,loadVar]
 go_simp
theorem ME {w:World}{b:Nat}{t:TypeId}{x0 V L K J s g f e x u0 u1 u2 u3 u4 u5 u6 u7 u8 u9:Value}{G:Prop}(h:w.heap[b]? = some (.cells #[x0,V,L,K,J,s,g,f,e,x] t))
  (k:∀W,W=((((((((((w.setCell ⟨b,0,none⟩ u0).setCell ⟨b,1,none⟩ u1).setCell ⟨b,2,none⟩ u2).setCell ⟨b,3,none⟩ u3).setCell ⟨b,4,none⟩ u4).setCell ⟨b,5,none⟩ u5).setCell ⟨b,6,none⟩ u6).setCell ⟨b,7,none⟩ u7).setCell ⟨b,8,none⟩ u8).setCell ⟨b,9,none⟩ u9)->(∀(B:Nat) (w0:World),B<=b->Below B w0 w->Below B w0 W)->AE t w W->W.heap[b]? = some (.cells #[u0,u1,u2,u3,u4,u5,u6,u7,u8,u9] t)->(∀k,k ≠ b->W.heap[k]? = w.heap[k]?)->G):G:=by
 obtain⟨i,v⟩:=AF (w.setCell ⟨b,0,none⟩ u0);have M:i.heap[b]? = some (.cells #[u0,V,L,K,J,s,g,f,e,x] t):=by rw[v];exact heap_setCell_same w b 0 _ t u0 h
 have k0:AE t w i:=by rw[v];exact AE.trans (AE.refl t w) (AE.setCell (p:=⟨b,0,none⟩) h u0)
 have X:∀(B:Nat) (w0:World),B<=b->Below B w0 w->Below B w0 i:=fun B w0 a d=>by rw[v];exact(d).setCell (p:=⟨b,0,none⟩) a _
 have o0:∀k,k ≠ b->i.heap[k]? = w.heap[k]?:=fun k c=>by rw[v];exact(Below.heap_setCell _ ⟨b,0,none⟩ _ k c)
 obtain⟨j,y⟩:=AF (i.setCell ⟨b,1,none⟩ u1);have N:j.heap[b]? = some (.cells #[u0,u1,L,K,J,s,g,f,e,x] t):=by rw[y];exact heap_setCell_same i b 1 _ t u1 M
 have k1:AE t w j:=by rw[y];exact AE.trans k0 (AE.setCell (p:=⟨b,1,none⟩) M u1)
 have Y:∀(B:Nat) (w0:World),B<=b->Below B w0 w->Below B w0 j:=fun B w0 a d=>by rw[y];exact(X B w0 a d).setCell (p:=⟨b,1,none⟩) a _
 have o1:∀k,k ≠ b->j.heap[k]? = w.heap[k]?:=fun k c=>by rw[y];exact(Below.heap_setCell _ ⟨b,1,none⟩ _ k c).trans (o0 k c)
 obtain⟨W2,z⟩:=AF (j.setCell ⟨b,2,none⟩ u2);have O:W2.heap[b]? = some (.cells #[u0,u1,u2,K,J,s,g,f,e,x] t):=by rw[z];exact heap_setCell_same j b 2 _ t u2 N
 have k2:AE t w W2:=by rw[z];exact AE.trans k1 (AE.setCell (p:=⟨b,2,none⟩) N u2)
 have Z:∀(B:Nat) (w0:World),B<=b->Below B w0 w->Below B w0 W2:=fun B w0 a d=>by rw[z];exact(Y B w0 a d).setCell (p:=⟨b,2,none⟩) a _
 have o2:∀k,k ≠ b->W2.heap[k]? = w.heap[k]?:=fun k c=>by rw[z];exact(Below.heap_setCell _ ⟨b,2,none⟩ _ k c).trans (o1 k c)
 obtain⟨l,A⟩:=AF (W2.setCell ⟨b,3,none⟩ u3);have P:l.heap[b]? = some (.cells #[u0,u1,u2,u3,J,s,g,f,e,x] t):=by rw[A];exact heap_setCell_same W2 b 3 _ t u3 O
 have k3:AE t w l:=by rw[A];exact AE.trans k2 (AE.setCell (p:=⟨b,3,none⟩) O u3)
 have b3:∀(B:Nat) (w0:World),B<=b->Below B w0 w->Below B w0 l:=fun B w0 a d=>by rw[A];exact(Z B w0 a d).setCell (p:=⟨b,3,none⟩) a _
 have o3:∀k,k ≠ b->l.heap[k]? = w.heap[k]?:=fun k c=>by rw[A];exact(Below.heap_setCell _ ⟨b,3,none⟩ _ k c).trans (o2 k c)
 obtain⟨m,C⟩:=AF (l.setCell ⟨b,4,none⟩ u4);have Q:m.heap[b]? = some (.cells #[u0,u1,u2,u3,u4,s,g,f,e,x] t):=by rw[C];exact heap_setCell_same l b 4 _ t u4 P
 have k4:AE t w m:=by rw[C];exact AE.trans k3 (AE.setCell (p:=⟨b,4,none⟩) P u4)
 have b4:∀(B:Nat) (w0:World),B<=b->Below B w0 w->Below B w0 m:=fun B w0 a d=>by rw[C];exact(b3 B w0 a d).setCell (p:=⟨b,4,none⟩) a _
 have o4:∀k,k ≠ b->m.heap[k]? = w.heap[k]?:=fun k c=>by rw[C];exact(Below.heap_setCell _ ⟨b,4,none⟩ _ k c).trans (o3 k c)
 obtain⟨n,D⟩:=AF (m.setCell ⟨b,5,none⟩ u5);have R:n.heap[b]? = some (.cells #[u0,u1,u2,u3,u4,u5,g,f,e,x] t):=by rw[D];exact heap_setCell_same m b 5 _ t u5 Q
 have k5:AE t w n:=by rw[D];exact AE.trans k4 (AE.setCell (p:=⟨b,5,none⟩) Q u5)
 have b5:∀(B:Nat) (w0:World),B<=b->Below B w0 w->Below B w0 n:=fun B w0 a d=>by rw[D];exact(b4 B w0 a d).setCell (p:=⟨b,5,none⟩) a _
 have o5:∀k,k ≠ b->n.heap[k]? = w.heap[k]?:=fun k c=>by rw[D];exact(Below.heap_setCell _ ⟨b,5,none⟩ _ k c).trans (o4 k c)
 obtain⟨o,E⟩:=AF (n.setCell ⟨b,6,none⟩ u6);have S:o.heap[b]? = some (.cells #[u0,u1,u2,u3,u4,u5,u6,f,e,x] t):=by rw[E];exact heap_setCell_same n b 6 _ t u6 R
 have k6:AE t w o:=by rw[E];exact AE.trans k5 (AE.setCell (p:=⟨b,6,none⟩) R u6)
 have b6:∀(B:Nat) (w0:World),B<=b->Below B w0 w->Below B w0 o:=fun B w0 a d=>by rw[E];exact(b5 B w0 a d).setCell (p:=⟨b,6,none⟩) a _
 have o6:∀k,k ≠ b->o.heap[k]? = w.heap[k]?:=fun k c=>by rw[E];exact(Below.heap_setCell _ ⟨b,6,none⟩ _ k c).trans (o5 k c)
 obtain⟨q,F⟩:=AF (o.setCell ⟨b,7,none⟩ u7);have T:q.heap[b]? = some (.cells #[u0,u1,u2,u3,u4,u5,u6,u7,e,x] t):=by rw[F];exact heap_setCell_same o b 7 _ t u7 S
 have k7:AE t w q:=by rw[F];exact AE.trans k6 (AE.setCell (p:=⟨b,7,none⟩) S u7)
 have b7:∀(B:Nat) (w0:World),B<=b->Below B w0 w->Below B w0 q:=fun B w0 a d=>by rw[F];exact(b6 B w0 a d).setCell (p:=⟨b,7,none⟩) a _
 have o7:∀k,k ≠ b->q.heap[k]? = w.heap[k]?:=fun k c=>by rw[F];exact(Below.heap_setCell _ ⟨b,7,none⟩ _ k c).trans (o6 k c)
 obtain⟨r,H⟩:=AF (q.setCell ⟨b,8,none⟩ u8);have U:r.heap[b]? = some (.cells #[u0,u1,u2,u3,u4,u5,u6,u7,u8,x] t):=by rw[H];exact heap_setCell_same q b 8 _ t u8 T
 have k8:AE t w r:=by rw[H];exact AE.trans k7 (AE.setCell (p:=⟨b,8,none⟩) T u8)
 have b8:∀(B:Nat) (w0:World),B<=b->Below B w0 w->Below B w0 r:=fun B w0 a d=>by rw[H];exact(b7 B w0 a d).setCell (p:=⟨b,8,none⟩) a _
 have o8:∀k,k ≠ b->r.heap[k]? = w.heap[k]?:=fun k c=>by rw[H];exact(Below.heap_setCell _ ⟨b,8,none⟩ _ k c).trans (o7 k c)
 obtain⟨u,I⟩:=AF (r.setCell ⟨b,9,none⟩ u9);have h9:u.heap[b]? = some (.cells #[u0,u1,u2,u3,u4,u5,u6,u7,u8,u9] t):=by rw[I];exact heap_setCell_same r b 9 _ t u9 U
 have k9:AE t w u:=by rw[I];exact AE.trans k8 (AE.setCell (p:=⟨b,9,none⟩) U u9)
 have b9:∀(B:Nat) (w0:World),B<=b->Below B w0 w->Below B w0 u:=fun B w0 a d=>by rw[I];exact(b8 B w0 a d).setCell (p:=⟨b,9,none⟩) a _
 have o9:∀k,k ≠ b->u.heap[k]? = w.heap[k]?:=fun k c=>by rw[I];exact(Below.heap_setCell _ ⟨b,9,none⟩ _ k c).trans (o8 k c)
 exact k u (by rw[I,H,F,E,D,C,A,z,y,v]) b9 k9 h9 o9
theorem dW {w:World}{b:Nat}{t:TypeId}{x i j l m n o F u q u7 u8:Value}{G:Prop}(h:w.heap[b]? = some (.cells #[x,i,j,l,m,n,o,F,u,q] t))
  (k:∀W,W=((w.setCell ⟨b,7,none⟩ u7).setCell ⟨b,8,none⟩ u8)->(∀(B:Nat) (w0:World),B<=b->Below B w0 w->Below B w0 W)->AE t w W->W.heap[b]? = some (.cells #[x,i,j,l,m,n,o,u7,u8,q] t)->(∀k,k ≠ b->W.heap[k]? = w.heap[k]?)->G):G:=by
 obtain⟨a,e⟩:=AF (w.setCell ⟨b,7,none⟩ u7);have s:a.heap[b]? = some (.cells #[x,i,j,l,m,n,o,u7,u,q] t):=by rw[e];exact heap_setCell_same w b 7 _ t u7 h
 have A:AE t w a:=by rw[e];exact AE.trans (AE.refl t w) (AE.setCell (p:=⟨b,7,none⟩) h u7)
 have v:∀(B:Nat) (w0:World),B<=b->Below B w0 w->Below B w0 a:=fun B w0 f r=>by rw[e];exact(r).setCell (p:=⟨b,7,none⟩) f _
 have D:∀k,k ≠ b->a.heap[k]? = w.heap[k]?:=fun k g=>by rw[e];exact(Below.heap_setCell _ ⟨b,7,none⟩ _ k g)
 obtain⟨c,d⟩:=AF (a.setCell ⟨b,8,none⟩ u8);have z:c.heap[b]? = some (.cells #[x,i,j,l,m,n,o,u7,u8,q] t):=by rw[d];exact heap_setCell_same a b 8 _ t u8 s
 have C:AE t w c:=by rw[d];exact AE.trans A (AE.setCell (p:=⟨b,8,none⟩) s u8)
 have y:∀(B:Nat) (w0:World),B<=b->Below B w0 w->Below B w0 c:=fun B w0 f r=>by rw[d];exact(v B w0 f r).setCell (p:=⟨b,8,none⟩) f _
 have E:∀k,k ≠ b->c.heap[k]? = w.heap[k]?:=fun k g=>by rw[d];exact(Below.heap_setCell _ ⟨b,8,none⟩ _ k g).trans (D k g)
 exact k c (by rw[d,e]) y C z E
theorem vD {P:Program}{id l0:Nat}{Q:Exit->Act->World->Prop}{w:World}{l:List Oper}{F:(Nat->Value)->Act}{Φ:List (World->Value->Prop)}{R:World->World->Prop}{G:(Nat->Bool)->(Nat->Value)->World->Prop}(S:LO P l.toArray F Φ R G Q l 0) (ys:Nat->Value) (m:P.follows .mixedOrders=true) (f:TR l=true) (d : ¬LetsOut Q)
  (k:NV l=true) (e:LM R Φ) (b:G (fun _=>false) ys (w.drewN 1)) (x:∀D a ys W,(∀i,i < l.length->D i=a i)->G D ys W->G a ys W)
  (n:∀ys W,G (fun i=>decide (i < l.length)) ys W->(∀i,i < l.length->DE Φ i W (ys i))->Q .normal (F ys) W) :
  (Code.region id l.toArray true).wpIn (Fence.wide.inRound l0) 0 P Q (F ys) w:=by
 refine wpIn_region_any m (NU (aI f) d _ _ _ _ ?_);refine VV k e S n x _ _ (fun _=>false) ys _ (by simp) (fun i h=>?_) (fun _ _=>rfl) (fun i h=>by cases h) b (fun j o g=>by cases g) ?_
 ·rw[Array.getD_eq_getD_getElem?,List.size_toArray,Array.getElem?_replicate,if_pos h];rfl
 ·have c:((List.range l.length).filter fun _=>!false)=List.range l.length:=List.filter_eq_self.2 (fun _ _=>rfl);rw[c,List.length_range,List.size_toArray]
def aT:List Oper:=[⟨some 49,.fieldAddr 35 (.tmp 7) 2,0,"execution.go:147",#[],none⟩,⟨some 50,.load 33 (.tmp 49),33,"execution.go:147",#[⟨0,.data⟩],none⟩,⟨some 51,.move (.tmp 9),3,"execution.go:147",#[],none⟩,⟨some 52,.move (.tmp 10),77,"execution.go:147",#[],none⟩,⟨some 53,.call { callee:=.value (.func 76),args:=#[.tmp 52],argTypes:=#[77] },77,"execution.go:147",#[⟨3,.data⟩],none⟩,⟨some 54,.load 137 (.tmp 8),137,"execution.go:147",#[],none⟩,⟨some 55,.fieldAddr 29 (.tmp 1) 0,0,"execution.go:147",#[],none⟩,⟨some 56,.fieldAddr 24 (.tmp 55) 3,0,"execution.go:147",#[⟨6,.data⟩],none⟩,⟨some 57,.load 22 (.tmp 56),22,"execution.go:147",#[⟨7,.data⟩],none⟩,⟨some 58,.move (.tmp 9),3,"execution.go:147",#[],none⟩,⟨some 59,.indexAddr 22 (.tmp 57) (.tmp 58),0,"execution.go:147",#[⟨8,.data⟩,⟨9,.data⟩],none⟩,⟨some 60,.fieldAddr 95 (.tmp 59) 0,0,"execution.go:147",#[⟨10,.data⟩],none⟩,⟨some 61,.load 48 (.tmp 60),48,"execution.go:147",#[⟨11,.data⟩],none⟩,⟨some 62,.move (.tmp 10),77,"execution.go:147",#[],none⟩,⟨some 63,.call { callee:=.value (.func 77),args:=#[.tmp 54,.tmp 61,.tmp 62],argTypes:=#[137,48,77] },78,"execution.go:147",#[⟨5,.data⟩,⟨12,.data⟩,⟨13,.data⟩,⟨4,.chain⟩],none⟩,⟨some 64,.build 80 #[(0,.tmp 51),(1,.tmp 53),(2,.tmp 63)],80,"execution.go:147",#[⟨2,.data⟩,⟨4,.data⟩,⟨14,.data⟩],none⟩,⟨some 65,.buildSlice 33 1 #[(0,.tmp 64)],33,"execution.go:147",#[⟨15,.data⟩],none⟩,⟨some 66,.call { callee:=.builtin .append,args:=#[.tmp 50,.tmp 65],argTypes:=#[33,33] },33,"execution.go:147",#[⟨1,.data⟩,⟨16,.data⟩,⟨14,.chain⟩],none⟩,⟨some 67,.fieldAddr 35 (.tmp 7) 2,0,"execution.go:147",#[⟨0,.phase⟩,⟨1,.phase⟩,⟨2,.phase⟩,⟨3,.phase⟩,⟨4,.phase⟩,⟨5,.phase⟩,⟨6,.phase⟩,⟨7,.phase⟩,⟨8,.phase⟩,⟨9,.phase⟩,⟨10,.phase⟩,⟨11,.phase⟩,⟨12,.phase⟩,⟨13,.phase⟩,⟨14,.phase⟩,⟨15,.phase⟩,⟨16,.phase⟩,⟨17,.phase⟩],none⟩,⟨none,.store 33 (.tmp 67) (.tmp 66),0,"execution.go:147",#[⟨18,.data⟩,⟨17,.data⟩,⟨17,.chain⟩,⟨0,.phase⟩,⟨1,.phase⟩,⟨2,.phase⟩,⟨3,.phase⟩,⟨4,.phase⟩,⟨5,.phase⟩,⟨6,.phase⟩,⟨7,.phase⟩,⟨8,.phase⟩,⟨9,.phase⟩,⟨10,.phase⟩,⟨11,.phase⟩,⟨12,.phase⟩,⟨13,.phase⟩,⟨14,.phase⟩,⟨15,.phase⟩,⟨16,.phase⟩,⟨17,.phase⟩],none⟩]
theorem rJ {w:World}{x0 x2 x3 x4 x5 x6 f0 f1 f2 f3 f4 f5 f6 f7 f8 f' g1 g2 g3 g4 g5 g6 g7 g8 g9 h1 h3 h4 h5 h6 h7 h8 h' i0 i1 i3 i4 i5 i6 i7 i8 i9 i' j0 m9 m' n0 n1 n2 n3 n4 n5 n6 n7 n8 n9 n' o0 o1 o2 o3 o4 o5 j3 j4 j5 j6 j7 j8 j9 j' k0 k9 k' l1 l2 l3 l4 l5 l6 l7:Value}{d':Exit->Act->World->Prop}{l0 b1 b7 b8 bb mb B cb co cn cc u Y xc wc N i:Nat}{X xa wa:Option Addr}{w0:World}{vs:Jb}{xi:List Int}{wd:Jb}{xs:List Ex}{p0 p1 p2 p3 p4 p5 p6 p7 p8:Value}(hQ : ¬LetsOut d')
  (e1:Below w0.heap.size w0 w) (d6:w0.heap.size=B) (hU:BX w B bb mb (N:Int) vs) (hx:AR w0 (.slice xa xi.length xc) xi) (e4:xi.length=N) (r4:∀j,j < N->0<=xi.getD j 0/\xi.getD j 0<=1000) (hw:KS 7 w0 (.slice wa wd.length wc) wd) (r2:wd.length<=6) (r1:∀k,k < wd.length->∀p:Nat,p < 5->0<=(wd.getD k []).getD (1+p) 0/\(wd.getD k []).getD (1+p) 0<=31) (hN:1<=N/\N<=5) (r0:vs.length<=5000)
  (c3:w.cell? ⟨b1,3,none⟩=some (.slice (some ⟨cb,co,none⟩) cn cc)) (ci:w.cell? ⟨cb,co+i * 3,none⟩=some (.slice xa xi.length xc)) (q5:b1 < B) (q7:cb < B) (hi:i < cn)
  (k7:w.heap[b7]? = some (.cells #[p0,p1,p2,p3,p4,p5,p6,p7,p8,(.slice X u Y)] 35)) (k8:w.heap[b8]? = some (.cells #[.pointer (some ⟨bb,0,none⟩)] 137)) (ho:AA 80 3 CL w B (.slice X u Y) u xs) (t2:u<=1000000) (q1:B<=b7)
  (q8:∀(y4 d4 l8 l9 U _y19:Value) (W:World),(Below B w W/\BR w W/\((fun i=>decide (i < 20)) 14=false->Below w.heap.size w W)/\((fun i=>decide (i < 20)) 14=true->BX W B bb mb (N:Int) (AQ N xi wd vs wd.length).1)/\((fun i=>decide (i < 20)) 17=false->AA 80 3 CL W B (.slice X u Y) u xs)/\((fun i=>decide (i < 20)) 17=true->(∃a c,U = .slice a (u+1) c)/\AA 80 3 CL W B U (u+1) (xs ++ [((i:Int),wd,(AQ N xi wd vs wd.length).2)]))/\((fun i=>decide (i < 20)) 19=false->W.heap[b7]? = some (.cells #[p0,p1,p2,p3,p4,p5,p6,p7,p8,(.slice X u Y)] 35))/\((fun i=>decide (i < 20)) 19=true->W.heap[b7]? = some (.cells #[p0,p1,p2,p3,p4,p5,p6,p7,p8,U] 35))/\W.heap[b8]? = some (.cells #[.pointer (some ⟨bb,0,none⟩)] 137)/\KX w W)->(∃b f,y4 = .slice b wd.length f/\AA 148 7 EI W 0 (.slice b wd.length f) wd.length wd)->(∃d m,d4 = .slice d (wd.length+1) m/\AA 48 1 BD W 0 (.slice d (wd.length+1) m) (wd.length+1) (AQ N xi wd vs wd.length).2)->(∃b f d m,l8 = .agg #[.int .i64 (i:Int),.slice b wd.length f,.slice d (wd.length+1) m]/\AA 148 7 EI W 0 (.slice b wd.length f) wd.length wd/\AA 48 1 BD W 0 (.slice d (wd.length+1) m) (wd.length+1) (AQ N xi wd vs wd.length).2)->(∃g b f d m,l9 = .slice (some ⟨g,0,none⟩) 1 1/\(Value.slice X u Y).ownBlock ≠ some g/\W.heap[g]? = some (.cells #[.int .i64 (i:Int),.slice b wd.length f,.slice d (wd.length+1) m] 80)/\AA 148 7 EI W 0 (.slice b wd.length f) wd.length wd/\AA 48 1 BD W 0 (.slice d (wd.length+1) m) (wd.length+1) (AQ N xi wd vs wd.length).2)->(True)->(True)->d' .normal ⟨#[x0,.pointer (some ⟨b1,0,none⟩),x2,x3,x4,x5,x6,.pointer (some ⟨b7,0,none⟩),.pointer (some ⟨b8,0,none⟩),.int .i64 (i:Int),.slice wa wd.length wc,f0,f1,f2,f3,f4,f5,f6,f7,f8,f',g1,g2,g3,g4,g5,g6,g7,g8,g9,h1,h3,h4,h5,h6,h7,h8,h',i0,i1,i3,i4,i5,i6,i7,i8,i9,i',j0,.pointer (some ⟨b7,9,none⟩),.slice X u Y,.int .i64 (i:Int),.slice wa wd.length wc,y4,.pointer (some ⟨bb,0,none⟩),.pointer (some ⟨b1,0,none⟩),.pointer (some ⟨b1,3,none⟩),.slice (some ⟨cb,co,none⟩) cn cc,.int .i64 (i:Int),.pointer (some ⟨cb,co+i * 3,none⟩),.pointer (some ⟨cb,co+i * 3,none⟩),.slice xa xi.length xc,.slice wa wd.length wc,d4,l8,l9,U,.pointer (some ⟨b7,9,none⟩),j3,j4,j5,j6,j7,j8,j9,j',k0,k9,k',l1,l2,l3,l4,l5,l6,l7],[]⟩ W) :
  (Code.region 14 aT.toArray true).wpIn (Fence.wide.inRound l0) 0 Tryz.prog d' ⟨#[x0,.pointer (some ⟨b1,0,none⟩),x2,x3,x4,x5,x6,.pointer (some ⟨b7,0,none⟩),.pointer (some ⟨b8,0,none⟩),.int .i64 (i:Int),.slice wa wd.length wc,f0,f1,f2,f3,f4,f5,f6,f7,f8,f',g1,g2,g3,g4,g5,g6,g7,g8,g9,h1,h3,h4,h5,h6,h7,h8,h',i0,i1,i3,i4,i5,i6,i7,i8,i9,i',j0,m9,m',n0,n1,n2,n3,n4,n5,n6,n7,n8,n9,n',o0,o1,o2,o3,o4,o5,j3,j4,j5,j6,j7,j8,j9,j',k0,k9,k',l1,l2,l3,l4,l5,l6,l7],[]⟩ w:=by
 replace e4:=qH e4;have t4:(i:Int) < (cn:Int):=by omega
 have d7:B<=w.heap.size:=by rw[<-d6];exact e1.size
 have m4:(AQ N xi wd vs wd.length).2.length=wd.length+1:=IN N xi wd vs wd.length
 have q6:∀ {b d:Option Addr} {f m:Nat},∀m8∈([.int .i64 (i:Int),.slice b wd.length f,.slice d (wd.length+1) m]:List Value),m8.oneCell'=true:=fun m8 hu=>by
  simp only[List.mem_cons,List.not_mem_nil,or_false] at hu;rcases hu with rfl|rfl|rfl<;>rfl
 refine vD (l0:=l0) (l:=aT) (F:=(fun y=>⟨#[x0,.pointer (some ⟨b1,0,none⟩),x2,x3,x4,x5,x6,.pointer (some ⟨b7,0,none⟩),.pointer (some ⟨b8,0,none⟩),.int .i64 (i:Int),.slice wa wd.length wc,f0,f1,f2,f3,f4,f5,f6,f7,f8,f',g1,g2,g3,g4,g5,g6,g7,g8,g9,h1,h3,h4,h5,h6,h7,h8,h',i0,i1,i3,i4,i5,i6,i7,i8,i9,i',j0,y 0,y 1,y 2,y 3,y 4,y 5,y 6,y 7,y 8,y 9,y 10,y 11,y 12,y 13,y 14,y 15,y 16,y 17,y 18,j3,j4,j5,j6,j7,j8,j9,j',k0,k9,k',l1,l2,l3,l4,l5,l6,l7],[]⟩)) (Φ:=[AI (.pointer (some ⟨b7,9,none⟩)),AI (.slice X u Y),AI (.int .i64 (i:Int)),AI (.slice wa wd.length wc),fun W b3=>∃b f,b3 = .slice b wd.length f/\AA 148 7 EI W 0 (.slice b wd.length f) wd.length wd,AI (.pointer (some ⟨bb,0,none⟩)),AI (.pointer (some ⟨b1,0,none⟩)),AI (.pointer (some ⟨b1,3,none⟩)),AI (.slice (some ⟨cb,co,none⟩) cn cc),AI (.int .i64 (i:Int)),AI (.pointer (some ⟨cb,co+i * 3,none⟩)),AI (.pointer (some ⟨cb,co+i * 3,none⟩)),AI (.slice xa xi.length xc),AI (.slice wa wd.length wc),fun W b3=>∃d m,b3 = .slice d (wd.length+1) m/\AA 48 1 BD W 0 (.slice d (wd.length+1) m) (wd.length+1) (AQ N xi wd vs wd.length).2,fun W b3=>∃b f d m,b3 = .agg #[.int .i64 (i:Int),.slice b wd.length f,.slice d (wd.length+1) m]/\AA 148 7 EI W 0 (.slice b wd.length f) wd.length wd/\AA 48 1 BD W 0 (.slice d (wd.length+1) m) (wd.length+1) (AQ N xi wd vs wd.length).2,fun W b3=>∃g b f d m,b3 = .slice (some ⟨g,0,none⟩) 1 1/\(Value.slice X u Y).ownBlock ≠ some g/\W.heap[g]? = some (.cells #[.int .i64 (i:Int),.slice b wd.length f,.slice d (wd.length+1) m] 80)/\AA 148 7 EI W 0 (.slice b wd.length f) wd.length wd/\AA 48 1 BD W 0 (.slice d (wd.length+1) m) (wd.length+1) (AQ N xi wd vs wd.length).2,CM,AI (.pointer (some ⟨b7,9,none⟩)),CM]) (R:=(fun W W'=>KR (.slice X u Y) W W')) (G:=(fun D y W=>Below B w W/\BR w W/\(D 14=false->Below w.heap.size w W)/\(D 14=true->BX W B bb mb (N:Int) (AQ N xi wd vs wd.length).1)/\(D 17=false->AA 80 3 CL W B (.slice X u Y) u xs)/\(D 17=true->(∃a c,(y 17) = .slice a (u+1) c)/\AA 80 3 CL W B (y 17) (u+1) (xs ++ [((i:Int),wd,(AQ N xi wd vs wd.length).2)]))/\(D 19=false->W.heap[b7]? = some (.cells #[p0,p1,p2,p3,p4,p5,p6,p7,p8,(.slice X u Y)] 35))/\(D 19=true->W.heap[b7]? = some (.cells #[p0,p1,p2,p3,p4,p5,p6,p7,p8,(y 17)] 35))/\W.heap[b8]? = some (.cells #[.pointer (some ⟨bb,0,none⟩)] 137)/\KX w W)) ⟨?s0,?s1,?s2,?s3,?s4,?s5,?s6,?s7,?s8,?s9,?s10,?s11,?s12,?s13,?s14,?s15,?s16,?s17,?s18,?s19,trivial⟩ (fun i=>([m9,m',n0,n1,n2,n3,n4,n5,n6,n7,n8,n9,n',o0,o1,o2,o3,o4,o5,undef]:List Value).getD i undef) (by kernel_rfl) (by kernel_rfl) hQ (by kernel_rfl) ⟨sE,sE,sE,sE,fun _ _ _ ⟨b,f,h0,Q⟩ a3=>⟨b,f,h0,Q.ofE a3.rd fun _ _ h=>h⟩,sE,sE,sE,sE,sE,sE,sE,sE,sE,fun _ _ _ ⟨d,m,h0,Q⟩ a3=>⟨d,m,h0,Q.ofEV a3⟩,fun _ _ _ ⟨b,f,d,m,h0,Q,h2⟩ a3=>⟨b,f,d,m,h0,Q.ofE a3.rd fun _ _ h=>h,h2.ofEV a3⟩,fun _ _ _ ⟨g,b,f,d,m,h0,m1,m2,Q,h2⟩ a3=>⟨g,b,f,d,m,h0,m1,(a3.ex g _ m2 m1).trans m2,Q.ofE a3.rd fun _ _ h=>h,h2.ofEV a3⟩,fun _ _ _ h _=>h,sE,fun _ _ _ h _=>h,trivial⟩ ?g0 ?gx ?fin
 case s0|s2|s3|s6|s9|s13|s18=>
  refine .q0 (CE rfl) (fun _=>KR.refl _ _) (fun _ _ _ h=>h) (fun _=>rfl) fun y W K q=>?_;go_simp;exact q
 case s1=>
  refine AL.mk rfl (AD 0 fun y0=>AD 17 fun U=>fun y D W K J T r n q=>?_);obtain rfl:=(r.get 0 rfl).2;dsimp [AJ] at n|-
  have M:=T.no (j:=19) (i:=1) rfl (by kernel_rfl) J;obtain⟨o,H,O,I,A,P,v,S,t,E⟩:=n;obtain⟨-,-,-,q9⟩:=AW (v M);go_simp;exact q _ _ (KR.refl _ _) ⟨o,H,O,I,A,P,v,S,t,E⟩ rfl
 case s4=>
  refine AL.mk rfl (AD 3 fun y3=>AD 17 fun U=>fun y D W K J T r n q=>?_);obtain rfl:=(r.get 3 rfl).2;dsimp [AJ] at n|-
  have V:=T.no (j:=14) (i:=4) rfl (by kernel_rfl) J;have Z:=T.no (j:=17) (i:=14) rfl (by kernel_rfl) V;have M:=T.no (j:=19) (i:=4) rfl (by kernel_rfl) J;obtain⟨o,H,O,I,A,P,v,S,t,E⟩:=n;have hb:=O V;go_simp;refine(WT (hw.keep (e1.trans (by rw[d6];exact o))) (by omega)).mono ?_;rintro e W9 ⟨u9,rfl,h9,z⟩;obtain⟨b,f,rfl⟩:=h9.shape;exact q _ _ (KR.below z) ⟨o.trans (z.mono (wI d7 hb.size)),H.trans (BR.below z),fun _=>btt hb z,fun h=>(by rw[show AP D 4 14=D 14 from rfl,V] at h;cases h),fun _=>(A Z).keep (CL.stab (by decide) (by decide) (by decide)) z,fun h=>(by rw[show AP D 4 17=D 17 from rfl,Z] at h;cases h),fun _=>AN z (v M),fun h=>(by rw[show AP D 4 19=D 19 from rfl,M] at h;cases h),AN z t,E.trans (KX.below z)⟩ ⟨b,f,rfl,h9.base (Nat.zero_le _)⟩
 case s5=>
  refine AL.mk rfl (AD 17 fun U=>fun y D W K _ _ _ n q=>?_);dsimp [AJ] at n|-
  obtain⟨o,H,O,I,A,P,v,S,t,E⟩:=n;have c:=cell_of_row _ b8 0 _ _ _ t;simp only[List.getElem?_toArray,List.getElem?_cons_zero] at c;go_simp;exact q _ _ (KR.refl _ _) ⟨o,H,O,I,A,P,v,S,t,E⟩ rfl
 case s7|s11=>
  refine .q1 (CE rfl) (fun _=>KR.refl _ _) (fun _ _ _ h=>h) (fun _=>rfl) rfl (fun _ _ h=>h) fun y W K q=>?_;dsimp [AJ]
  go_simp;exact q
 case s8=>
  refine AL.mk rfl (AD 7 fun y7=>AD 17 fun U=>fun y D W K _ _ r n q=>?_);obtain rfl:=(r.get 7 rfl).2;dsimp [AJ] at n|-
  obtain⟨o,H,O,I,A,P,v,S,t,E⟩:=n;have c:=II o q5 c3;go_simp;exact q _ _ (KR.refl _ _) ⟨o,H,O,I,A,P,v,S,t,E⟩ rfl
 case s10=>
  refine .q2 (CE rfl) (fun _=>KR.refl _ _) (fun _ _ _ h=>h) (fun _=>rfl) rfl (fun _ _ h=>h) (fun _ _ h=>h) fun y W K q=>?_;dsimp [AJ]
  go_simp;exact q
 case s12=>
  refine AL.mk rfl (AD 11 fun t'=>AD 17 fun U=>fun y D W K _ _ r n q=>?_);obtain rfl:=(r.get 11 rfl).2;dsimp [AJ] at n|-
  obtain⟨o,H,O,I,A,P,v,S,t,E⟩:=n;have c:=II o q7 ci;go_simp;exact q _ _ (KR.refl _ _) ⟨o,H,O,I,A,P,v,S,t,E⟩ rfl
 case s14=>
  refine AL.mk rfl (AD 5 fun y5=>AD 12 fun v0=>AD 13 fun v1=>AD 17 fun U=>fun y D W K J T r n q=>?_);obtain rfl:=(r.get 5 rfl).2;obtain rfl:=(r.get 12 rfl).2;obtain rfl:=(r.get 13 rfl).2;dsimp [AJ] at n|-
  skip
  have Z:=T.no (j:=17) (i:=14) rfl (by kernel_rfl) J;have M:=T.no (j:=19) (i:=14) rfl (by kernel_rfl) J;obtain⟨o,H,O,I,A,P,v,S,t,E⟩:=n;have hb:=O J;go_simp;refine(oH (w0:=w0) (e1.trans (by rw[d6];exact o)) d6 (hU.keep hb) hx e4.out r4 hw r2 r1 hN r0).mono ?_;rintro e W9 ⟨u9,rfl,h9,c2,c1,q2⟩;obtain⟨d,m,rfl⟩:=h9.shape;have d9:=(hU.keep hb).box;have hE:∀d5,d5 ≠ 114->d5 ≠ 140->EC d5 W W9:=fun d5 Q h2=>c1.toE d9 Q h2;have r6:b7 ≠ bb:=fun e=>by obtain⟨s,hc⟩:=d9;have h:=v M;rw[e,hc] at h;injection h with h;injection h with _ h;exact absurd h (by decide)
  have r7:b8 ≠ bb:=fun e=>by obtain⟨s,hc⟩:=d9;have h:=t;rw[e,hc] at h;injection h with h;injection h with _ h;exact absurd h (by decide)
  exact q _ _ ⟨hE _ (by decide) (by decide),hE _ (by decide) (by decide),hE _ (by decide) (by decide),fun k s L _=>hE 80 (by decide) (by decide) k s L⟩ ⟨o.trans q2,H.trans c1.lo,fun h=>(by cases h),fun _=>c2,fun _=>(A Z).ofE (hE _ (by decide) (by decide)) (fun s t7 h=>h.ofE (hE _ (by decide) (by decide)) (hE _ (by decide) (by decide)) (hE _ (by decide) (by decide))),fun h=>(by rw[show AP D 14 17=D 17 from rfl,Z] at h;cases h),fun _=>(c1.cells b7 _ _ (v M) (by decide) r6).trans (v M),fun h=>(by rw[show AP D 14 19=D 19 from rfl,M] at h;cases h),(c1.cells b8 _ _ t (by decide) r7).trans t,E.trans (KX.ofB c1 d9)⟩ ⟨d,m,rfl,h9.base (Nat.zero_le _)⟩
 case s15=>
  refine AL.mk rfl (AD 2 fun y2=>AD 4 fun y4=>AD 14 fun d4=>AD 17 fun U=>fun y D W K _ _ r n q=>?_);obtain rfl:=(r.get 2 rfl).2;have ⟨t0,p'⟩:=r.get 4 rfl;have ⟨V,e0⟩:=r.get 14 rfl;dsimp [AJ] at n|-
  obtain⟨b,f,rfl,Q⟩:=p';obtain⟨d,m,rfl,h2⟩:=e0;go_simp;exact q _ _ (KR.refl _ _) n ⟨b,f,d,m,rfl,Q,h2⟩
 case s16=>
  refine AL.mk rfl (AD 15 fun l8=>AD 17 fun U=>fun y D W K J T r n q=>?_);have ⟨o9,o'⟩:=r.get 15 rfl;dsimp [AJ] at n|-
  obtain⟨b,f,d,m,rfl,Q,h2⟩:=o';have Z:=T.no (j:=17) (i:=16) rfl (by kernel_rfl) J;have M:=T.no (j:=19) (i:=16) rfl (by kernel_rfl) J;have V:D 14=true:=T 15 _ o9 rfl 14 (List.mem_of_elem_eq_true (by kernel_rfl));obtain⟨o,H,O,I,A,P,v,S,t,E⟩:=n;have z:Below W.heap.size W (W.alloc (.cells #[.int .i64 (i:Int),.slice b wd.length f,.slice d (wd.length+1) m] 80)):=(wB _ W).alloc (wC _) _;have m3:(Value.slice X u Y).ownBlock ≠ some W.heap.size:=fun e=>by obtain⟨vs,k1,_⟩:=A Z;obtain⟨s,hc⟩:=EY k1 _ e;have:=(wD.1 hc).1;omega
  go_simp;exact q _ _ (KR.below z) ⟨o.trans (z.mono (wI d7 o.size)),H.trans (BR.below z),fun h=>(by rw[show AP D 16 14=D 14 from rfl,V] at h;cases h),fun _=>(I V).keep z,fun _=>(A Z).keep (CL.stab (by decide) (by decide) (by decide)) z,fun h=>(by rw[show AP D 16 17=D 17 from rfl,Z] at h;cases h),fun _=>AN z (v M),fun h=>(by rw[show AP D 16 19=D 19 from rfl,M] at h;cases h),AN z t,E.trans (KX.below z)⟩ ⟨W.heap.size,b,f,d,m,rfl,m3,wE W _,Q.keep (EI.stab _) z,h2.keep (BD.stab (by decide)) z⟩
 case s17=>
  refine AL.mk rfl (AD 1 fun y1=>AD 16 fun l9=>AD 14 fun d4=>AD 17 fun U=>fun y D W K J T r n q=>?_);obtain rfl:=(r.get 1 rfl).2;have ⟨s',p9⟩:=r.get 16 rfl;have ⟨V,e0⟩:=r.get 14 rfl;dsimp [AJ] at n|-
  obtain⟨g,b,f,d,m,rfl,m3,hg,Q,h2⟩:=p9;have M:=T.no (j:=19) (i:=17) rfl (by kernel_rfl) J;obtain⟨o,H,O,I,A,P,v,S,t,E⟩:=n;refine KF (B:=B) (cs:=[.int .i64 (i:Int),.slice b wd.length f,.slice d (wd.length+1) m]) (x:=((i:Int),wd,(AQ N xi wd vs wd.length).2)) XS (by decide) (by decide) (CL.stab (by decide) (by decide) (by decide)) _ _ (by rfl) (by rfl) (A J) ⟨g,0,none⟩ 1 (by rfl) rfl (World.news_of_block hg) q6 ⟨b,f,d,m,by rw[m4],Q,by rw[m4];exact h2⟩ (by omega) (wI d7 o.size) ?_;intro v9 w9 d8 e3 t5 z a';obtain⟨a9,c9,rfl⟩:=d8.shape;have hU:=I V;have m5:∀g,(Value.slice X u Y).ownBlock=some g->∃s,W.heap[g]? = some (.cells s 80):=by obtain⟨vs,k1,_⟩:=A J;exact EY k1
  have c2:BX w9 B bb mb (N:Int) (AQ N xi wd vs wd.length).1:=by
   obtain⟨vv,k1,k2,k3,k4,k5,k6,k7⟩:=hU;refine⟨vv,(a' bb _ _ k1 (by decide)).trans k1,k2.other (E':=80) (EI.stab _) (by decide) a',k3.keep (e3.block mb k3.lt fun e=>?_),k4,k5,k6,k7⟩;obtain⟨s,hc⟩:=m5 mb e.symm;obtain⟨es,c,hm,_⟩:=k3;rw[hc] at hm;cases hm
  go_simp;exact q _ _ ⟨fun k s L=>a' k s _ L (by decide),fun k s L=>a' k s _ L (by decide),fun k s L=>a' k s _ L (by decide),fun k s L hn=>e3.block k (wD.1 L).1 fun e=>hn e.symm⟩ ⟨o.trans z,H.trans (BR.grown e3 fun g hg=>by obtain⟨s,hc⟩:=m5 g hg;exact⟨s,_,hc⟩),fun h=>(by rw[show AP D 17 14=D 14 from rfl,V] at h;cases h),fun _=>c2,fun h=>(by cases h),fun _=>⟨⟨a9,c9,rfl⟩,d8⟩,fun _=>(a' b7 _ _ (v M) (by decide)).trans (v M),fun h=>(by rw[show AP D 17 19=D 19 from rfl,M] at h;cases h),(a' b8 _ _ t (by decide)).trans t,E.trans (KX.ofEx a')⟩ trivial
 case s19=>
  refine AL.mk rfl (AD 18 fun v2=>AD 14 fun d4=>AD 17 fun U=>fun y D W K J _ r n q=>?_);obtain rfl:=(r.get 18 rfl).2;have Z:=(r.get 17 rfl).1;have ⟨V,e0⟩:=r.get 14 rfl;dsimp [AJ] at n|-
  obtain⟨o,H,O,I,A,P,v,S,t,E⟩:=n;obtain⟨⟨a9,c9,rfl⟩,d8⟩:=P Z;have k7:=v J;obtain⟨-,-,-,q9⟩:=AW k7;have fz:=BG k7;have hU:=I V;have hX:=AE.setCell (p:=⟨b7,9,none⟩) k7 (.slice a9 (u+1) c9)
  have c2:BX (W.setCell ⟨b7,9,none⟩ (.slice a9 (u+1) c9)) B bb mb (N:Int) (AQ N xi wd vs wd.length).1:=by
   obtain⟨vv,k1,k2,k3,k4,k5,k6,r5⟩:=hU;refine⟨vv,(hX bb _ _ k1 (by decide)).trans k1,k2.other (E':=35) (EI.stab _) (by decide) hX,k3.keep (Below.heap_setCell W ⟨b7,9,none⟩ _ mb fun e=>?_),k4,k5,k6,r5⟩;have e:mb=b7:=e;obtain⟨es,c,hm,_⟩:=k3;rw[e,k7] at hm;cases hm
  go_simp;exact q undef _ ⟨fun k s L=>hX k s _ L (by decide),fun k s L=>hX k s _ L (by decide),fun k s L=>hX k s _ L (by decide),fun k s L _=>hX k s _ L (by decide)⟩ ⟨o.setCell (p:=⟨b7,9,none⟩) q1 _,H.trans (BR.setCell (p:=⟨b7,9,none⟩) k7 _),fun h=>(by rw[show AP D 19 14=D 14 from rfl,V] at h;cases h),fun _=>c2,fun h=>(by rw[show AP D 19 17=D 17 from rfl,Z] at h;cases h),fun _=>⟨⟨a9,c9,rfl⟩,d8.other (CL.stab (by decide) (by decide) (by decide)) (by decide) hX⟩,fun h=>(by cases h),fun _=>heap_setCell_same W b7 9 _ _ _ k7,(hX b8 _ _ t (by decide)).trans t,E.trans (KX.ofSy hX)⟩ trivial
 case g0=>exact⟨(wH (wB _ w) 1).mono d7,BR.below (wH (wB _ w) 1),fun _=>wH (wB _ w) 1,fun h=>(by cases h),fun _=>ho.keep (CL.stab (by decide) (by decide) (by decide)) (wH (wB _ w) 1),fun h=>(by cases h),fun _=>k7,fun h=>(by cases h),k8,KX.below (wH (wB _ w) 1)⟩
 case gx=>exact fun D D' y W h ⟨o,H,O,I,A,P,v,S,t,E⟩=>⟨o,H,fun a1=>O ((h 14 (by decide)).trans a1),fun a1=>I ((h 14 (by decide)).trans a1),fun a1=>A ((h 17 (by decide)).trans a1),fun a1=>P ((h 17 (by decide)).trans a1),fun a1=>v ((h 19 (by decide)).trans a1),fun a1=>S ((h 19 (by decide)).trans a1),t,E⟩
 case fin=>
  intro y W n C;try dsimp only
  rw[(AG C 0:y 0=_),(AG C 1:y 1=_),(AG C 2:y 2=_),(AG C 3:y 3=_),(AG C 5:y 5=_),(AG C 6:y 6=_),(AG C 7:y 7=_),(AG C 8:y 8=_),(AG C 9:y 9=_),(AG C 10:y 10=_),(AG C 11:y 11=_),(AG C 12:y 12=_),(AG C 13:y 13=_),(AG C 18:y 18=_)];exact q8 (y 4) (y 14) (y 15) (y 16) (y 17) (y 19) W n (AG C 4) (AG C 14) (AG C 15) (AG C 16) (AG C 17) (AG C 19)
end Go.Proofs.YtcnedkkcgdkioaaGreat
