/- Texts of this claim, put together: UX TU2 TU1 UZ UY RI TU0. -/
import Derived.Test.YtcnedkkcgdkioaaGreatKSq
import Derived.Laws.CopyRow

set_option maxRecDepth 100000
set_option maxHeartbeats 12800000
namespace Go.Proofs.YtcnedkkcgdkioaaGreat
open Go.RowKit
theorem mv_bd {n:Int}{ss:Jc}(h8:∀s∈ss,∀m∈s,m.length=8) (h0:chkA n ss=0) {s:Jb}(hs:s∈ss) {m:List Int}(hm:m∈s):∀x∈rdOf m,0<=x/\x<=31:=by
 obtain⟨_,_,h1,_⟩:=chkA_facts h0;have h2:=ssGo_zero h1 s hs;unfold stErr at h2;split at h2
 ·cases h2
 ·obtain⟨i,hi,rfl⟩:=List.mem_iff_getElem.1 hm;have h3:=(mvErr_zero (mvGo_zero h2 i (Nat.zero_le _) (by omega))).1;rw[getD_eq hi] at h3;exact wf31 (by rw[rdOf,List.length_take,h8 s hs _ hm];rfl) h3
theorem wL_bd {n:Int}{ss:Jc}(h8:∀s∈ss,∀m∈s,m.length=8) (h0:chkA n ss=0):∀(k s:Nat) (wd:Jb),wd∈wL ss k s->∀r∈wd,∀x∈r,0<=x/\x<=31
 | 0,_,wd,h,r,hr=>by
  rw[wL,List.mem_singleton] at h;subst h;cases hr
 | k+1,s,wd,h,r,hr=>by
  rw[wL] at h;obtain⟨m,hm,h⟩:=List.mem_flatMap.1 h;obtain⟨w',hw',rfl⟩:=List.mem_map.1 h;rcases List.mem_cons.1 hr with rfl|hr
  ·by_cases hs:s < ss.length
   ·rw[getD_eq hs] at hm;exact mv_bd h8 h0 (List.getElem_mem hs) hm
   ·rw[List.getD_eq_getElem?_getD,List.getElem?_eq_none (by omega)] at hm;cases hm
  ·exact wL_bd h8 h0 k _ w' hw' r hr
theorem getD_bd {l:List Int}(h:∀x∈l,0<=x/\x<=31) (j:Nat):0<=l.getD j 0/\l.getD j 0<=31:=by
 rw[List.getD_eq_getElem?_getD];cases e:l[j]? with
 | none=>exact⟨by decide,by decide⟩
 | some x=>exact h x (List.mem_of_getElem? e)
theorem wd_bd {wd:Jb}(h:∀r∈wd,∀x∈r,0<=x/\x<=31) (k j:Nat):0<=(wd.getD k []).getD j 0/\(wd.getD k []).getD j 0<=31:=by
 refine getD_bd (fun x hx=>?_) j;rw[List.getD_eq_getElem?_getD] at hx;cases e:wd[k]? with
 | none=>rw[e] at hx;cases hx
 | some r=>rw[e] at hx;exact h r (List.mem_of_getElem? e) x hx
theorem task_in {n ins outs:Int}{cs:List Cs}(h:chkT n ins outs cs=0):(1<=n/\n<=5)/\∀k,k < cs.length->((cs.getD k csNil).1.length:Int)=n/\∀j:Nat,0<=(cs.getD k csNil).1.getD j 0/\(cs.getD k csNil).1.getD j 0<=1000:=by
 unfold chkT at h;split at h
 ·cases h
 next h1=>
 split at h
 ·cases h
 next h2=>
 refine⟨by omega,fun k hk=>?_⟩;have e:=(firstE_zero _ _).1 h k (Nat.zero_le _) (by omega);unfold caseE at e;split at e
 ·rename_i e1;exact absurd e e1
 next e1=>
 have e2:vecE (cs.getD k csNil).1 n ins=0:=Decidable.not_not.1 e1;unfold vecE at e2;split at e2
 ·cases e2
 next e3=>
 split at e2
 ·cases e2
 next e4=>
 refine⟨Decidable.not_not.1 e3,fun j=>?_⟩;rw[List.getD_eq_getElem?_getD];cases e5:(cs.getD k csNil).1[j]? with
 | none=>exact⟨by decide,by decide⟩
 | some x=>
  have hx:=List.mem_of_getElem? e5;refine⟨?_,?_⟩
  ·show 0<=x;by_cases hx0:0<=x
   ·exact hx0
   ·exact absurd ⟨x,hx,.inl (by omega)⟩ e4
  ·show x<=1000;by_cases hx0:x < ins
   ·omega
   ·exact absurd ⟨x,hx,.inr (by omega)⟩ e4
theorem few_sm {cs:List Cs}(h:fewT cs=true):∀c∈cs,SmC c:=by
 unfold fewT at h;rw[Bool.and_eq_true,List.all_eq_true] at h;intro c hc;have h1:=h.2 c hc;unfold fewC fewV at h1;simp only[Bool.and_eq_true,decide_eq_true_eq,List.all_eq_true] at h1;obtain⟨a,⟨b,b2⟩,d,d2⟩:=h1;exact⟨by omega,by omega,by omega,fun x hx=>by have:=b2 x hx;omega,fun x hx=>by have:=d2 x hx;omega⟩
def KeepE (E:TypeId) (W W':World):Prop:=∀(k:Nat) (cs:Array Value),W.heap[k]? = some (.cells cs E)->W'.heap[k]? = W.heap[k]?
theorem KeepE.below {E:TypeId}{W W':World}(h:Below W.heap.size W W'):KeepE E W W':=fun k _ hk=>h.block k (Array.getElem?_eq_some_iff.1 hk).1
theorem OwX.ofE {α:Type}{E:TypeId}{k:Nat}{El:World->List Value->α->Prop}{w w':World}{B n:Nat}{v:Value}{xs:List α}(h:OwX E k El w B v n xs) (hk:KeepE E w w') (hEl:∀cs x,El w cs x->El w' cs x):OwX E k El w' B v n xs:=by
 obtain⟨vs,h1,h2,h3,h4⟩:=h;refine⟨vs,⟨h1.1,?_⟩,h2,h3,fun j x hj=>hEl _ _ (h4 j x hj)⟩;rcases h1.2 with h'|⟨g,cap,cur,k1,k2,k3,k4⟩
 ·exact .inl h'
 ·exact .inr ⟨g,cap,cur,k1,k2,(hk g cur k3).trans k3,k4⟩
theorem OI.ofE {w w':World}{B n:Nat}{v:Value}{xs:List Int}(h:OI w B v n xs) (hk:KeepE 3 w w'):OI w' B v n xs:=by
 refine⟨h.1,?_⟩;rcases h.2 with h'|⟨g,cap,cur,k1,k2,k3,k4⟩
 ·exact .inl h'
 ·exact .inr ⟨g,cap,cur,k1,k2,(hk g cur k3).trans k3,k4⟩
theorem EVi.ofE {w w':World}{cs:List Value}{x:List Int}(h:EVi w cs x) (hk:KeepE 3 w w'):EVi w' cs x:=by
 obtain⟨u,h1,h2⟩:=h;exact⟨u,h1,OI.ofE h2 hk⟩
def EEx (w:World) (cs:List Value) (x:Ex):Prop:=∃a1 c1 a2 c2,cs = [.int .i64 x.1,.slice a1 x.2.1.length c1,.slice a2 x.2.2.length c2]/\OwX 148 7 EI w 0 (.slice a1 x.2.1.length c1) x.2.1.length x.2.1/\OwX 48 1 EVi w 0 (.slice a2 x.2.2.length c2) x.2.2.length x.2.2
theorem EEx.stab {E:TypeId}(h1:148 ≠ E) (h2:48 ≠ E) (h3:3 ≠ E):Stab E EEx:=fun _w _w' _cs _x ⟨a1,c1,a2,c2,e,k1,k2⟩ hx=>⟨a1,c1,a2,c2,e,k1.other (EI.stab _) h1 hx,k2.other (EVi.stab h3) h2 hx⟩
theorem EEx.ofE {w w':World}{cs:List Value}{x:Ex}(h:EEx w cs x) (h1:KeepE 148 w w') (h2:KeepE 48 w w') (h3:KeepE 3 w w'):EEx w' cs x:=by
 obtain⟨a1,c1,a2,c2,e,k1,k2⟩:=h;exact⟨a1,c1,a2,c2,e,k1.ofE h1 fun _ _ h=>h,k2.ofE h2 fun _ _ h=>h.ofE h3⟩
theorem elemEx:ElemK Tryz.prog 33 80 (.agg #[.int .i64 0,.slice none 0 0,.slice none 0 0]) 3 56:=⟨by kernel_rfl,by kernel_rfl,rfl⟩
structure KR (v:Value) (W W':World):Prop where
 rd:KeepE 148 W W'
 vi:KeepE 48 W W'
 it:KeepE 3 W W'
 ex:∀(k:Nat) (cs:Array Value),W.heap[k]? = some (.cells cs 80)->v.ownBlock ≠ some k->W'.heap[k]? = W.heap[k]?
theorem KR.refl (v:Value) (W:World):KR v W W:=⟨fun _ _ _=>rfl,fun _ _ _=>rfl,fun _ _ _=>rfl,fun _ _ _ _=>rfl⟩
theorem KR.below {v:Value}{W W':World}(h:Below W.heap.size W W'):KR v W W':=⟨KeepE.below h,KeepE.below h,KeepE.below h,fun k _ hk _=>h.block k (Array.getElem?_eq_some_iff.1 hk).1⟩
theorem OwX.ofEV {u:Value}{w w':World}{B n:Nat}{v:Value}{xs:Jb}(h:OwX 48 1 EVi w B v n xs) (r:KR u w w'):OwX 48 1 EVi w' B v n xs:=h.ofE r.vi fun _ _ h=>h.ofE r.it
theorem KeepB.toE {bb:Nat}{w w':World}{E:TypeId}(h:KeepB bb w w') (hb:∃cs,w.heap[bb]? = some (.cells cs 140)) (h1:E ≠ 114) (h2:E ≠ 140):KeepE E w w':=fun k cs hk=>h.cells k cs E hk h1 fun e=>by
 obtain⟨c,hc⟩:=hb;rw[e,hc] at hk;injection hk with hk;injection hk with _ hk;exact h2 hk.symm
def KX (W W':World):Prop:=∀(k:Nat) (cs:Array Value) (t:TypeId),W.heap[k]? = some (.cells cs t)->t ≠ 114->t ≠ 140->t ≠ 80->t ≠ 35->W'.heap[k]? = W.heap[k]?
theorem KX.trans {A B C:World}(h:KX A B) (g:KX B C):KX A C:=fun k cs t hk h1 h2 h3 h4=>by
 have e:=h k cs t hk h1 h2 h3 h4;exact(g k cs t (e.trans hk) h1 h2 h3 h4).trans e
theorem KX.below {A B:World}(h:Below A.heap.size A B):KX A B:=fun k _ _ hk _ _ _ _=>h.block k (Array.getElem?_eq_some_iff.1 hk).1
theorem KX.ofB {bb:Nat}{A B:World}(h:KeepB bb A B) (hb:∃cs,A.heap[bb]? = some (.cells cs 140)):KX A B:=fun k cs t hk h1 h2 _ _=>h.cells k cs t hk h1 fun e=>by
 obtain⟨c,hc⟩:=hb;rw[e,hc] at hk;injection hk with hk;injection hk with _ hk;exact h2 hk.symm
theorem KX.ofEx {A B:World}(h:KeepX 80 A B):KX A B:=fun k cs t hk _ _ h3 _=>h k cs t hk h3
theorem KX.ofSy {A B:World}(h:KeepX 35 A B):KX A B:=fun k cs t hk _ _ _ h4=>h k cs t hk h4
theorem cellB {B b o:Nat}{w W:World}{v:Value}(h:Below B w W) (hb:b < B) (hc:w.cell? ⟨b,o,none⟩=some v):W.cell? ⟨b,o,none⟩=some v:=(World.cell?_of_block (h.block b hb)).trans hc
theorem ne_of_lo {W:World}{j k:Nat}{o o1:Obj}(hk:W.heap[k]? = some o) (ho:Lo o) (hj:W.heap[j]? = some o1) (h1 : ¬Lo o1):j ≠ k:=fun e=>by
 subst e;rw[hk] at hj;injection hj with hj;subst hj;exact h1 ho
theorem KeepE.putObj {E:TypeId}{W:World}{k:Nat}{o o':Obj}(hk:W.heap[k]? = some o) (ho:Lo o):KeepE E W (W.putObj k o'):=fun _ _ hj=>World.putObj_heap_other (ne_of_lo hk ho hj id)
theorem KX.putObj {W:World}{k:Nat}{o o':Obj}(hk:W.heap[k]? = some o) (ho:Lo o):KX W (W.putObj k o'):=fun _ _ _ hj _ _ _ _=>World.putObj_heap_other (ne_of_lo hk ho hj id)
theorem BuV.putObj {W:World}{B bb mb k:Nat}{n:Int}{vs:Jb}{o o':Obj}(h:BuV W B bb mb n vs) (hk:W.heap[k]? = some o) (ho:Lo o):BuV (W.putObj k o') B bb mb n vs:=by
 obtain⟨v,h1,h2,h3,h4⟩:=h;refine⟨v,(World.putObj_heap_other (ne_of_lo hk ho h1 id)).trans h1,h2.ofE (KeepE.putObj hk ho) (fun _ _ h=>h),h3.keep (World.putObj_heap_other ?_),h4⟩;obtain⟨es,c,hm,_⟩:=h3;exact ne_of_lo hk ho hm id
theorem KeepX.putObjLo {E:TypeId}{W:World}{k:Nat}{o o':Obj}(hk:W.heap[k]? = some o) (ho:Lo o):KeepX E W (W.putObj k o'):=fun _ _ _ hj _=>World.putObj_heap_other (ne_of_lo hk ho hj id)
theorem plN_rows (n:Nat) (xs:List Int) (wd:Jb) (vs:Jb):∀k,∀r∈(plN n xs wd vs k).2,r.length=n
 | 0,r,hr=>by
  rw[plN,List.mem_singleton] at hr;subst hr;exact idN_len n
 | k+1,r,hr=>by
  rw[plN] at hr;rcases List.mem_append.1 hr with h|h
  ·exact plN_rows n xs wd vs k r h
  ·rw[List.mem_singleton] at h;subst h;exact idN_len n
theorem exeL_bd (n:Nat):∀(l:List (Int × List Int × Jb)) (vs:Jb),∀x∈(exeL n vs l).2,(∃y∈l,x.2.1=y.2.2)/\x.2.2.length=x.2.1.length+1/\∀r∈x.2.2,r.length=n
 | [],vs,x,hx=>by cases hx
 | (c,xs,wd)::l,vs,x,hx=>by
  rw[exeL] at hx;rcases List.mem_cons.1 hx with rfl|hx
  ·exact⟨⟨(c,xs,wd),List.mem_cons_self,rfl⟩,plN_len n xs wd vs wd.length,plN_rows n xs wd vs wd.length⟩
  ·obtain⟨⟨y,hy,e⟩,h2⟩:=exeL_bd n l _ x hx;exact⟨⟨y,List.mem_cons_of_mem _ hy,e⟩,h2⟩
theorem pairsP_word {cs:List Cs}{ws:Jc}{x:Int × List Int × Jb}(h:x∈pairsP cs ws):x.2.2∈ws:=by
 unfold pairsP at h;obtain⟨c,_,h⟩:=List.mem_flatMap.1 h;obtain⟨w,hw,rfl⟩:=List.mem_map.1 h;exact hw
theorem OwX.exs {w:World}{B n:Nat}{v:Value}{xs:List Ex}(h:OwX 80 3 EEx w B v n xs) (hn:n<=100000) (hb:∀x∈xs,x.2.1.length<=100000/\x.2.2.length<=100000/\∀r∈x.2.2,r.length<=100000):ExS w v xs:=by
 obtain rfl:=h.length;rcases Nat.eq_zero_or_pos xs.length with h0|h0
 ·obtain⟨a,c,rfl⟩:=h.shape;obtain rfl:=List.length_eq_zero_iff.1 h0;exact⟨a,c,0,0,rfl,by simp,by intro j hj;simp at hj,by simp⟩
 ·obtain⟨g,cap,rfl,_⟩:=h.form h0;refine⟨_,cap,g,0,rfl,fun _=>rfl,fun j hj=>?_,by omega⟩;have hx:xs[j]? = some (xs.getD j exNil):=by rw[getD_eq hj];exact List.getElem?_eq_some_iff.2 ⟨hj,rfl⟩
  obtain⟨cs,h1,⟨a1,c1,a2,c2,e,k1,k2⟩,h4⟩:=h.cells hx;obtain⟨b1,b2,b3⟩:=hb _ (List.mem_of_getElem? hx);subst e;refine⟨_,_,?_,?_,?_,k1.ks (by omega),k2.intssE b2 b3⟩
  ·have:=h4 0 _ rfl;rw[Nat.zero_add];exact this
  ·have:=h4 1 _ rfl;rw[Nat.zero_add];exact this
  ·have:=h4 2 _ rfl;rw[Nat.zero_add];exact this
structure BdI (w0 wL:World) (B b7 b8 bb mb N:Nat) (p:Value->Obj) (l:List (Int × List Int × Jb)) (W:World):Prop where
 bl:Below B w0 W
 kx:KX wL W
 bu:BuV W B bb mb (N:Int) (exeL N [] l).1
 ex:∃ea ec,OwX 80 3 EEx W B (.slice ea (exeL N [] l).2.length ec) (exeL N [] l).2.length (exeL N [] l).2/\W.heap[b7]? = some (p (.slice ea (exeL N [] l).2.length ec))
 k8:W.heap[b8]? = some (.cells #[.pointer (some ⟨bb,0,none⟩)] 137)
theorem BdI.putObj {w0 wL W:World}{B b7 b8 bb mb N k:Nat}{p:Value->Obj}{l:List (Int × List Int × Jb)}{o o':Obj}(hp:∀v,¬Lo (p v)) (h:BdI w0 wL B b7 b8 bb mb N p l W) (hB:B<=k) (hk:W.heap[k]? = some o) (ho:Lo o):BdI w0 wL B b7 b8 bb mb N p l (W.putObj k o'):=by
 obtain⟨h1,h2,h3,⟨ea,ec,h4,h5⟩,h6⟩:=h;exact⟨below_putObj h1 hB _,h2.trans (KX.putObj hk ho),h3.putObj hk ho,⟨ea,ec,h4.ofE (KeepE.putObj hk ho) (fun _ _ h=>h.ofE (KeepE.putObj hk ho) (KeepE.putObj hk ho) (KeepE.putObj hk ho)),(World.putObj_heap_other (ne_of_lo hk ho h5 (hp _))).trans h5⟩,(World.putObj_heap_other (ne_of_lo hk ho h6 id)).trans h6⟩
theorem BdI.below {w0 wL W W':World}{B b7 b8 bb mb N:Nat}{p:Value->Obj}{l:List (Int × List Int × Jb)}(hB:B<=W.heap.size) (h:BdI w0 wL B b7 b8 bb mb N p l W) (hb:Below W.heap.size W W'):BdI w0 wL B b7 b8 bb mb N p l W':=by
 obtain⟨h1,h2,h3,⟨ea,ec,h4,h5⟩,h6⟩:=h;exact⟨h1.trans (hb.mono hB),h2.trans (KX.below hb),h3.keep hb,⟨ea,ec,h4.keep (EEx.stab (by decide) (by decide) (by decide)) hb,keptO hb h5⟩,keptO hb h6⟩
theorem wpIn_rfN2 {P:Program}{α:Type}{g:Operand}{ps:Array Tmp}{assign body:Code}{Q:Exit->Act->World->Prop}{a:Act}{w:World}
  {gf:Nat} {lb:Array Value} (hg:a.eval g = .func (.func gf) #[] lb) (eg:∀args w,(callFunc gf args).run P w = .ok (.enter gf args) w)
  {enc:α->Array Value} {R:List α->α->Prop} {S:List α->Prop} {Rd:World->Prop} (hseq:SeqN P gf lb enc R S Rd)
  (hps:∀x,(enc x).size=ps.size)
  (I:List α->World->Prop) (Ix:Code->List α->World->Prop) (hI:∀(pre:List α) (W:World) (k:Nat) (o o':Obj),w.heap.size<=k->Lo o'->I pre W->W.heap[k]? = some o->Lo o->I pre (W.putObj k o')) (hIx:∀(c:Code) (pre:List α) (W:World) (k:Nat) (o o':Obj),w.heap.size<=k->Lo o'->Ix c pre W->W.heap[k]? = some o->Lo o->Ix c pre (W.putObj k o')) (hIa:∀(W:World) (o:Obj),Lo o->I [] W->I [] (W.alloc o))
  (hrd:∀pre W,I pre W->Rd W) (h0:I [] w) (t:α->Array Value->Array Value)
  (hassign:∀(l:Nat) (x:α) (W:World) (K:Act->World->Prop),K { tmps:=t x a.tmps,defers:=[] } W->
   assign.wpIn (Fence.wide.inRound l) 0 P (Exit.then K (fun _ _ _=>False)) { tmps:=(ps.zip (enc x)).foldl (fun t (p,v)=>t.setIfInBounds p v) a.tmps,defers:=[] } W)
  (hbody:∀(l:Nat) (pre:List α) (x:α) (W:World),I pre W->R pre x->body.wpIn (Fence.wide.inRound l) 0 P (bodyN I Ix (pre ++ [x]) W) { tmps:=t x a.tmps,defers:=[] } W)
  (hdone:∀(d:Nat) (xs:List α) (W:World),S xs->I xs W->w.heap.size<=d->W.heap[d]? = some (.deferred (some []))->Q .normal { a with defers:={ target:=.collected d,args:=#[] }::a.defers } W)
  (hstop:∀(d:Nat) (c:Code) (pre:List α) (W:World),Ix c pre W->w.heap.size<=d->W.heap[d]? = some (.deferred (some []))->c.wpIn Fence.wide 0 P Q { a with defers:={ target:=.collected d,args:=#[] }::a.defers } W) :
  (Code.rangeFunc g ps assign body).wpIn Fence.wide 0 P Q a w:=
 wpIn_rfN hg eg hseq hps I Ix hI hIx hIa hrd h0 _ hassign hbody hdone hstop
theorem results_sys {fn:Func}(h:fn.results = #[.cell 2 35,.cell 3 41]) (tmps:Array Value) (w:World) (g1 g2:Nat) (x:Int) {u0 u1 u2 u3 u4 u5 u6 u7 u8 u9:Value}(hp1:tmps.getD 2 undef = .pointer (some ⟨g1,0,none⟩)) (hp2:tmps.getD 3 undef = .pointer (some ⟨g2,0,none⟩))
  (hc1:w.heap[g1]? = some (.cells #[u0,u1,u2,u3,u4,u5,u6,u7,u8,u9] 35)) (hc2:w.cell? ⟨g2,0,none⟩=some (.int .i64 x)) :
  (results fn tmps).run Tryz.prog w = .ok (.tuple #[.agg #[u0,u1,u2,u3,u4,u5,u6,u7,u8,u9],.int .i64 x]) w:=by
 have hp1':tmps[2]?.getD undef = .pointer (some ⟨g1,0,none⟩):=by simpa using hp1
 have hp2':tmps[3]?.getD undef = .pointer (some ⟨g2,0,none⟩):=by simpa using hp2
 obtain⟨⟨z0,z1,z2,z3,z4,z5,z6⟩,z7,z8,z9⟩:=box10' hc1;have a1:=Tryz.isAgg35;have a2:=Tryz.isAgg41;have s1:=Tryz.sizeOf35;have s2:=Tryz.sizeOf41;simp only[results,h];simp[Sem.run_bind,Result.andThen,hp1',hp2',asAddr,loadVar]
 go_simp
theorem storeEnd10 {w:World}{b:Nat}{t:TypeId}{x0 x1 x2 x3 x4 x5 x6 x7 x8 x9 u0 u1 u2 u3 u4 u5 u6 u7 u8 u9:Value}{G:Prop}(h:w.heap[b]? = some (.cells #[x0,x1,x2,x3,x4,x5,x6,x7,x8,x9] t))
  (k:∀W,W=((((((((((w.setCell ⟨b,0,none⟩ u0).setCell ⟨b,1,none⟩ u1).setCell ⟨b,2,none⟩ u2).setCell ⟨b,3,none⟩ u3).setCell ⟨b,4,none⟩ u4).setCell ⟨b,5,none⟩ u5).setCell ⟨b,6,none⟩ u6).setCell ⟨b,7,none⟩ u7).setCell ⟨b,8,none⟩ u8).setCell ⟨b,9,none⟩ u9)->(∀(B:Nat) (w0:World),B<=b->Below B w0 w->Below B w0 W)->KeepX t w W->W.heap[b]? = some (.cells #[u0,u1,u2,u3,u4,u5,u6,u7,u8,u9] t)->(∀k,k ≠ b->W.heap[k]? = w.heap[k]?)->G):G:=by
 obtain⟨W0,e0⟩:=exF (w.setCell ⟨b,0,none⟩ u0);have h0:W0.heap[b]? = some (.cells #[u0,x1,x2,x3,x4,x5,x6,x7,x8,x9] t):=by rw[e0];exact heap_setCell_same w b 0 _ t u0 h
 have k0:KeepX t w W0:=by rw[e0];exact KeepX.trans (KeepX.refl t w) (KeepX.setCell (p:=⟨b,0,none⟩) h u0)
 have b0:∀(B:Nat) (w0:World),B<=b->Below B w0 w->Below B w0 W0:=fun B w0 hB hw=>by rw[e0];exact(hw).setCell (p:=⟨b,0,none⟩) hB _
 have o0:∀k,k ≠ b->W0.heap[k]? = w.heap[k]?:=fun k hk=>by rw[e0];exact(Below.heap_setCell _ ⟨b,0,none⟩ _ k hk)
 obtain⟨W1,e1⟩:=exF (W0.setCell ⟨b,1,none⟩ u1);have h1:W1.heap[b]? = some (.cells #[u0,u1,x2,x3,x4,x5,x6,x7,x8,x9] t):=by rw[e1];exact heap_setCell_same W0 b 1 _ t u1 h0
 have k1:KeepX t w W1:=by rw[e1];exact KeepX.trans k0 (KeepX.setCell (p:=⟨b,1,none⟩) h0 u1)
 have b1:∀(B:Nat) (w0:World),B<=b->Below B w0 w->Below B w0 W1:=fun B w0 hB hw=>by rw[e1];exact(b0 B w0 hB hw).setCell (p:=⟨b,1,none⟩) hB _
 have o1:∀k,k ≠ b->W1.heap[k]? = w.heap[k]?:=fun k hk=>by rw[e1];exact(Below.heap_setCell _ ⟨b,1,none⟩ _ k hk).trans (o0 k hk)
 obtain⟨W2,e2⟩:=exF (W1.setCell ⟨b,2,none⟩ u2);have h2:W2.heap[b]? = some (.cells #[u0,u1,u2,x3,x4,x5,x6,x7,x8,x9] t):=by rw[e2];exact heap_setCell_same W1 b 2 _ t u2 h1
 have k2:KeepX t w W2:=by rw[e2];exact KeepX.trans k1 (KeepX.setCell (p:=⟨b,2,none⟩) h1 u2)
 have b2:∀(B:Nat) (w0:World),B<=b->Below B w0 w->Below B w0 W2:=fun B w0 hB hw=>by rw[e2];exact(b1 B w0 hB hw).setCell (p:=⟨b,2,none⟩) hB _
 have o2:∀k,k ≠ b->W2.heap[k]? = w.heap[k]?:=fun k hk=>by rw[e2];exact(Below.heap_setCell _ ⟨b,2,none⟩ _ k hk).trans (o1 k hk)
 obtain⟨W3,e3⟩:=exF (W2.setCell ⟨b,3,none⟩ u3);have h3:W3.heap[b]? = some (.cells #[u0,u1,u2,u3,x4,x5,x6,x7,x8,x9] t):=by rw[e3];exact heap_setCell_same W2 b 3 _ t u3 h2
 have k3:KeepX t w W3:=by rw[e3];exact KeepX.trans k2 (KeepX.setCell (p:=⟨b,3,none⟩) h2 u3)
 have b3:∀(B:Nat) (w0:World),B<=b->Below B w0 w->Below B w0 W3:=fun B w0 hB hw=>by rw[e3];exact(b2 B w0 hB hw).setCell (p:=⟨b,3,none⟩) hB _
 have o3:∀k,k ≠ b->W3.heap[k]? = w.heap[k]?:=fun k hk=>by rw[e3];exact(Below.heap_setCell _ ⟨b,3,none⟩ _ k hk).trans (o2 k hk)
 obtain⟨W4,e4⟩:=exF (W3.setCell ⟨b,4,none⟩ u4);have h4:W4.heap[b]? = some (.cells #[u0,u1,u2,u3,u4,x5,x6,x7,x8,x9] t):=by rw[e4];exact heap_setCell_same W3 b 4 _ t u4 h3
 have k4:KeepX t w W4:=by rw[e4];exact KeepX.trans k3 (KeepX.setCell (p:=⟨b,4,none⟩) h3 u4)
 have b4:∀(B:Nat) (w0:World),B<=b->Below B w0 w->Below B w0 W4:=fun B w0 hB hw=>by rw[e4];exact(b3 B w0 hB hw).setCell (p:=⟨b,4,none⟩) hB _
 have o4:∀k,k ≠ b->W4.heap[k]? = w.heap[k]?:=fun k hk=>by rw[e4];exact(Below.heap_setCell _ ⟨b,4,none⟩ _ k hk).trans (o3 k hk)
 obtain⟨W5,e5⟩:=exF (W4.setCell ⟨b,5,none⟩ u5);have h5:W5.heap[b]? = some (.cells #[u0,u1,u2,u3,u4,u5,x6,x7,x8,x9] t):=by rw[e5];exact heap_setCell_same W4 b 5 _ t u5 h4
 have k5:KeepX t w W5:=by rw[e5];exact KeepX.trans k4 (KeepX.setCell (p:=⟨b,5,none⟩) h4 u5)
 have b5:∀(B:Nat) (w0:World),B<=b->Below B w0 w->Below B w0 W5:=fun B w0 hB hw=>by rw[e5];exact(b4 B w0 hB hw).setCell (p:=⟨b,5,none⟩) hB _
 have o5:∀k,k ≠ b->W5.heap[k]? = w.heap[k]?:=fun k hk=>by rw[e5];exact(Below.heap_setCell _ ⟨b,5,none⟩ _ k hk).trans (o4 k hk)
 obtain⟨W6,e6⟩:=exF (W5.setCell ⟨b,6,none⟩ u6);have h6:W6.heap[b]? = some (.cells #[u0,u1,u2,u3,u4,u5,u6,x7,x8,x9] t):=by rw[e6];exact heap_setCell_same W5 b 6 _ t u6 h5
 have k6:KeepX t w W6:=by rw[e6];exact KeepX.trans k5 (KeepX.setCell (p:=⟨b,6,none⟩) h5 u6)
 have b6:∀(B:Nat) (w0:World),B<=b->Below B w0 w->Below B w0 W6:=fun B w0 hB hw=>by rw[e6];exact(b5 B w0 hB hw).setCell (p:=⟨b,6,none⟩) hB _
 have o6:∀k,k ≠ b->W6.heap[k]? = w.heap[k]?:=fun k hk=>by rw[e6];exact(Below.heap_setCell _ ⟨b,6,none⟩ _ k hk).trans (o5 k hk)
 obtain⟨W7,e7⟩:=exF (W6.setCell ⟨b,7,none⟩ u7);have h7:W7.heap[b]? = some (.cells #[u0,u1,u2,u3,u4,u5,u6,u7,x8,x9] t):=by rw[e7];exact heap_setCell_same W6 b 7 _ t u7 h6
 have k7:KeepX t w W7:=by rw[e7];exact KeepX.trans k6 (KeepX.setCell (p:=⟨b,7,none⟩) h6 u7)
 have b7:∀(B:Nat) (w0:World),B<=b->Below B w0 w->Below B w0 W7:=fun B w0 hB hw=>by rw[e7];exact(b6 B w0 hB hw).setCell (p:=⟨b,7,none⟩) hB _
 have o7:∀k,k ≠ b->W7.heap[k]? = w.heap[k]?:=fun k hk=>by rw[e7];exact(Below.heap_setCell _ ⟨b,7,none⟩ _ k hk).trans (o6 k hk)
 obtain⟨W8,e8⟩:=exF (W7.setCell ⟨b,8,none⟩ u8);have h8:W8.heap[b]? = some (.cells #[u0,u1,u2,u3,u4,u5,u6,u7,u8,x9] t):=by rw[e8];exact heap_setCell_same W7 b 8 _ t u8 h7
 have k8:KeepX t w W8:=by rw[e8];exact KeepX.trans k7 (KeepX.setCell (p:=⟨b,8,none⟩) h7 u8)
 have b8:∀(B:Nat) (w0:World),B<=b->Below B w0 w->Below B w0 W8:=fun B w0 hB hw=>by rw[e8];exact(b7 B w0 hB hw).setCell (p:=⟨b,8,none⟩) hB _
 have o8:∀k,k ≠ b->W8.heap[k]? = w.heap[k]?:=fun k hk=>by rw[e8];exact(Below.heap_setCell _ ⟨b,8,none⟩ _ k hk).trans (o7 k hk)
 obtain⟨W9,e9⟩:=exF (W8.setCell ⟨b,9,none⟩ u9);have h9:W9.heap[b]? = some (.cells #[u0,u1,u2,u3,u4,u5,u6,u7,u8,u9] t):=by rw[e9];exact heap_setCell_same W8 b 9 _ t u9 h8
 have k9:KeepX t w W9:=by rw[e9];exact KeepX.trans k8 (KeepX.setCell (p:=⟨b,9,none⟩) h8 u9)
 have b9:∀(B:Nat) (w0:World),B<=b->Below B w0 w->Below B w0 W9:=fun B w0 hB hw=>by rw[e9];exact(b8 B w0 hB hw).setCell (p:=⟨b,9,none⟩) hB _
 have o9:∀k,k ≠ b->W9.heap[k]? = w.heap[k]?:=fun k hk=>by rw[e9];exact(Below.heap_setCell _ ⟨b,9,none⟩ _ k hk).trans (o8 k hk)
 exact k W9 (by rw[e9,e8,e7,e6,e5,e4,e3,e2,e1,e0]) b9 k9 h9 o9
theorem storeMid10 {w:World}{b:Nat}{t:TypeId}{x0 x1 x2 x3 x4 x5 x6 x7 x8 x9 u7 u8:Value}{G:Prop}(h:w.heap[b]? = some (.cells #[x0,x1,x2,x3,x4,x5,x6,x7,x8,x9] t))
  (k:∀W,W=((w.setCell ⟨b,7,none⟩ u7).setCell ⟨b,8,none⟩ u8)->(∀(B:Nat) (w0:World),B<=b->Below B w0 w->Below B w0 W)->KeepX t w W->W.heap[b]? = some (.cells #[x0,x1,x2,x3,x4,x5,x6,u7,u8,x9] t)->(∀k,k ≠ b->W.heap[k]? = w.heap[k]?)->G):G:=by
 obtain⟨W7,e7⟩:=exF (w.setCell ⟨b,7,none⟩ u7);have h7:W7.heap[b]? = some (.cells #[x0,x1,x2,x3,x4,x5,x6,u7,x8,x9] t):=by rw[e7];exact heap_setCell_same w b 7 _ t u7 h
 have k7:KeepX t w W7:=by rw[e7];exact KeepX.trans (KeepX.refl t w) (KeepX.setCell (p:=⟨b,7,none⟩) h u7)
 have b7:∀(B:Nat) (w0:World),B<=b->Below B w0 w->Below B w0 W7:=fun B w0 hB hw=>by rw[e7];exact(hw).setCell (p:=⟨b,7,none⟩) hB _
 have o7:∀k,k ≠ b->W7.heap[k]? = w.heap[k]?:=fun k hk=>by rw[e7];exact(Below.heap_setCell _ ⟨b,7,none⟩ _ k hk)
 obtain⟨W8,e8⟩:=exF (W7.setCell ⟨b,8,none⟩ u8);have h8:W8.heap[b]? = some (.cells #[x0,x1,x2,x3,x4,x5,x6,u7,u8,x9] t):=by rw[e8];exact heap_setCell_same W7 b 8 _ t u8 h7
 have k8:KeepX t w W8:=by rw[e8];exact KeepX.trans k7 (KeepX.setCell (p:=⟨b,8,none⟩) h7 u8)
 have b8:∀(B:Nat) (w0:World),B<=b->Below B w0 w->Below B w0 W8:=fun B w0 hB hw=>by rw[e8];exact(b7 B w0 hB hw).setCell (p:=⟨b,8,none⟩) hB _
 have o8:∀k,k ≠ b->W8.heap[k]? = w.heap[k]?:=fun k hk=>by rw[e8];exact(Below.heap_setCell _ ⟨b,8,none⟩ _ k hk).trans (o7 k hk)
 exact k W8 (by rw[e8,e7]) b8 k8 h8 o8
theorem wpIn_region_s2 {P:Program}{id l0:Nat}{Q:Exit->Act->World->Prop}{w:World}{l:List Oper}{F:(Nat->Value)->Act}{Φ:List (World->Value->Prop)}{R:World->World->Prop}{G:(Nat->Bool)->(Nat->Value)->World->Prop}(hS:StepsG P l.toArray F Φ R G Q l 0) (ys:Nat->Value) (hm:P.follows .mixedOrders=true) (hd:noDefer l=true) (hQ : ¬LetsOut Q)
  (hback:backG l=true) (hR:StabG R Φ) (h0:G (fun _=>false) ys (w.drewN 1)) (hGx:∀D D' ys W,(∀i,i < l.length->D i=D' i)->G D ys W->G D' ys W)
  (hend:∀ys W,G (fun i=>decide (i < l.length)) ys W->(∀i,i < l.length->phiG Φ i W (ys i))->Q .normal (F ys) W) :
  (Code.region id l.toArray true).wpIn (Fence.wide.inRound l0) 0 P Q (F ys) w:=by
 refine wpIn_region_any hm (anyIn_of_any (noDefer_get hd) hQ _ _ _ _ ?_);refine any_rg hback hR hS hend hGx _ _ (fun _=>false) ys _ (by simp) (fun i hi=>?_) (fun _ _=>rfl) (fun i hi=>by cases hi) h0 (fun j o hj=>by cases hj) ?_
 ·rw[Array.getD_eq_getD_getElem?,List.size_toArray,Array.getElem?_replicate,if_pos hi];rfl
 ·have h1:((List.range l.length).filter fun _=>!false)=List.range l.length:=List.filter_eq_self.2 (fun _ _=>rfl);rw[h1,List.length_range,List.size_toArray]
def opsBuild14:List Oper:=[⟨some 49,.fieldAddr 35 (.tmp 7) 2,0,"execution.go:147",#[],none⟩,⟨some 50,.load 33 (.tmp 49),33,"execution.go:147",#[⟨0,.data⟩],none⟩,⟨some 51,.move (.tmp 9),3,"execution.go:147",#[],none⟩,⟨some 52,.move (.tmp 10),77,"execution.go:147",#[],none⟩,⟨some 53,.call { callee:=.value (.func 76),args:=#[.tmp 52],argTypes:=#[77] },77,"execution.go:147",#[⟨3,.data⟩],none⟩,⟨some 54,.load 137 (.tmp 8),137,"execution.go:147",#[],none⟩,⟨some 55,.fieldAddr 29 (.tmp 1) 0,0,"execution.go:147",#[],none⟩,⟨some 56,.fieldAddr 24 (.tmp 55) 3,0,"execution.go:147",#[⟨6,.data⟩],none⟩,⟨some 57,.load 22 (.tmp 56),22,"execution.go:147",#[⟨7,.data⟩],none⟩,⟨some 58,.move (.tmp 9),3,"execution.go:147",#[],none⟩,⟨some 59,.indexAddr 22 (.tmp 57) (.tmp 58),0,"execution.go:147",#[⟨8,.data⟩,⟨9,.data⟩],none⟩,⟨some 60,.fieldAddr 95 (.tmp 59) 0,0,"execution.go:147",#[⟨10,.data⟩],none⟩,⟨some 61,.load 48 (.tmp 60),48,"execution.go:147",#[⟨11,.data⟩],none⟩,⟨some 62,.move (.tmp 10),77,"execution.go:147",#[],none⟩,⟨some 63,.call { callee:=.value (.func 77),args:=#[.tmp 54,.tmp 61,.tmp 62],argTypes:=#[137,48,77] },78,"execution.go:147",#[⟨5,.data⟩,⟨12,.data⟩,⟨13,.data⟩,⟨4,.chain⟩],none⟩,⟨some 64,.build 80 #[(0,.tmp 51),(1,.tmp 53),(2,.tmp 63)],80,"execution.go:147",#[⟨2,.data⟩,⟨4,.data⟩,⟨14,.data⟩],none⟩,⟨some 65,.buildSlice 33 1 #[(0,.tmp 64)],33,"execution.go:147",#[⟨15,.data⟩],none⟩,⟨some 66,.call { callee:=.builtin .append,args:=#[.tmp 50,.tmp 65],argTypes:=#[33,33] },33,"execution.go:147",#[⟨1,.data⟩,⟨16,.data⟩,⟨14,.chain⟩],none⟩,⟨some 67,.fieldAddr 35 (.tmp 7) 2,0,"execution.go:147",#[⟨0,.phase⟩,⟨1,.phase⟩,⟨2,.phase⟩,⟨3,.phase⟩,⟨4,.phase⟩,⟨5,.phase⟩,⟨6,.phase⟩,⟨7,.phase⟩,⟨8,.phase⟩,⟨9,.phase⟩,⟨10,.phase⟩,⟨11,.phase⟩,⟨12,.phase⟩,⟨13,.phase⟩,⟨14,.phase⟩,⟨15,.phase⟩,⟨16,.phase⟩,⟨17,.phase⟩],none⟩,⟨none,.store 33 (.tmp 67) (.tmp 66),0,"execution.go:147",#[⟨18,.data⟩,⟨17,.data⟩,⟨17,.chain⟩,⟨0,.phase⟩,⟨1,.phase⟩,⟨2,.phase⟩,⟨3,.phase⟩,⟨4,.phase⟩,⟨5,.phase⟩,⟨6,.phase⟩,⟨7,.phase⟩,⟨8,.phase⟩,⟨9,.phase⟩,⟨10,.phase⟩,⟨11,.phase⟩,⟨12,.phase⟩,⟨13,.phase⟩,⟨14,.phase⟩,⟨15,.phase⟩,⟨16,.phase⟩,⟨17,.phase⟩],none⟩]
theorem regBuild14 {w:World}{x0 x2 x3 x4 x5 x6 x11 x12 x13 x14 x15 x16 x17 x18 x19 x20 x21 x22 x23 x24 x25 x26 x27 x28 x29 x30 x31 x32 x33 x34 x35 x36 x37 x38 x39 x40 x41 x42 x43 x44 x45 x46 x47 x48 x49 x50 x51 x52 x53 x54 x55 x56 x57 x58 x59 x60 x61 x62 x63 x64 x65 x66 x67 x68 x69 x70 x71 x72 x73 x74 x75 x76 x77 x78 x79 x80 x81 x82 x83 x84 x85:Value}{Q:Exit->Act->World->Prop}{l0 b1 b7 b8 bb mb B cb co cn cc en ec xc wc N i:Nat}{ea xa wa:Option Addr}{w0:World}{vs:Jb}{xi:List Int}{wd:Jb}{xs:List Ex}{p0 p1 p2 p3 p4 p5 p6 p7 p8:Value}(hQ : ¬LetsOut Q)
  (hb0:Below w0.heap.size w0 w) (hBe:w0.heap.size=B) (hU:BuV w B bb mb (N:Int) vs) (hx:Ints w0 (.slice xa xi.length xc) xi) (hxl:xi.length=N) (hxs:∀j,j < N->0<=xi.getD j 0/\xi.getD j 0<=1000) (hw:KS 7 w0 (.slice wa wd.length wc) wd) (hwl:wd.length<=6) (hwb:∀k,k < wd.length->∀p:Nat,p < 5->0<=(wd.getD k []).getD (1+p) 0/\(wd.getD k []).getD (1+p) 0<=31) (hN:1<=N/\N<=5) (hvl:vs.length<=5000)
  (c3:w.cell? ⟨b1,3,none⟩=some (.slice (some ⟨cb,co,none⟩) cn cc)) (ci:w.cell? ⟨cb,co+i * 3,none⟩=some (.slice xa xi.length xc)) (hb1B:b1 < B) (hcbB:cb < B) (hi:i < cn)
  (k7:w.heap[b7]? = some (.cells #[p0,p1,p2,p3,p4,p5,p6,p7,p8,(.slice ea en ec)] 35)) (k8:w.heap[b8]? = some (.cells #[.pointer (some ⟨bb,0,none⟩)] 137)) (ho:OwX 80 3 EEx w B (.slice ea en ec) en xs) (hen:en<=1000000) (hB7:B<=b7)
  (hfin:∀(y4 y14 y15 y16 y17 _y19:Value) (W:World),(Below B w W/\KeepL w W/\((fun i=>decide (i < 20)) 14=false->Below w.heap.size w W)/\((fun i=>decide (i < 20)) 14=true->BuV W B bb mb (N:Int) (plN N xi wd vs wd.length).1)/\((fun i=>decide (i < 20)) 17=false->OwX 80 3 EEx W B (.slice ea en ec) en xs)/\((fun i=>decide (i < 20)) 17=true->(∃a c,y17 = .slice a (en+1) c)/\OwX 80 3 EEx W B y17 (en+1) (xs ++ [((i:Int),wd,(plN N xi wd vs wd.length).2)]))/\((fun i=>decide (i < 20)) 19=false->W.heap[b7]? = some (.cells #[p0,p1,p2,p3,p4,p5,p6,p7,p8,(.slice ea en ec)] 35))/\((fun i=>decide (i < 20)) 19=true->W.heap[b7]? = some (.cells #[p0,p1,p2,p3,p4,p5,p6,p7,p8,y17] 35))/\W.heap[b8]? = some (.cells #[.pointer (some ⟨bb,0,none⟩)] 137)/\KX w W)->(∃a1 c1,y4 = .slice a1 wd.length c1/\OwX 148 7 EI W 0 (.slice a1 wd.length c1) wd.length wd)->(∃a2 c2,y14 = .slice a2 (wd.length+1) c2/\OwX 48 1 EVi W 0 (.slice a2 (wd.length+1) c2) (wd.length+1) (plN N xi wd vs wd.length).2)->(∃a1 c1 a2 c2,y15 = .agg #[.int .i64 (i:Int),.slice a1 wd.length c1,.slice a2 (wd.length+1) c2]/\OwX 148 7 EI W 0 (.slice a1 wd.length c1) wd.length wd/\OwX 48 1 EVi W 0 (.slice a2 (wd.length+1) c2) (wd.length+1) (plN N xi wd vs wd.length).2)->(∃g a1 c1 a2 c2,y16 = .slice (some ⟨g,0,none⟩) 1 1/\(Value.slice ea en ec).ownBlock ≠ some g/\W.heap[g]? = some (.cells #[.int .i64 (i:Int),.slice a1 wd.length c1,.slice a2 (wd.length+1) c2] 80)/\OwX 148 7 EI W 0 (.slice a1 wd.length c1) wd.length wd/\OwX 48 1 EVi W 0 (.slice a2 (wd.length+1) c2) (wd.length+1) (plN N xi wd vs wd.length).2)->(True)->(True)->Q .normal ⟨#[x0,.pointer (some ⟨b1,0,none⟩),x2,x3,x4,x5,x6,.pointer (some ⟨b7,0,none⟩),.pointer (some ⟨b8,0,none⟩),.int .i64 (i:Int),.slice wa wd.length wc,x11,x12,x13,x14,x15,x16,x17,x18,x19,x20,x21,x22,x23,x24,x25,x26,x27,x28,x29,x30,x31,x32,x33,x34,x35,x36,x37,x38,x39,x40,x41,x42,x43,x44,x45,x46,x47,x48,.pointer (some ⟨b7,9,none⟩),.slice ea en ec,.int .i64 (i:Int),.slice wa wd.length wc,y4,.pointer (some ⟨bb,0,none⟩),.pointer (some ⟨b1,0,none⟩),.pointer (some ⟨b1,3,none⟩),.slice (some ⟨cb,co,none⟩) cn cc,.int .i64 (i:Int),.pointer (some ⟨cb,co+i * 3,none⟩),.pointer (some ⟨cb,co+i * 3,none⟩),.slice xa xi.length xc,.slice wa wd.length wc,y14,y15,y16,y17,.pointer (some ⟨b7,9,none⟩),x68,x69,x70,x71,x72,x73,x74,x75,x76,x77,x78,x79,x80,x81,x82,x83,x84,x85],[]⟩ W) :
  (Code.region 14 opsBuild14.toArray true).wpIn (Fence.wide.inRound l0) 0 Tryz.prog Q ⟨#[x0,.pointer (some ⟨b1,0,none⟩),x2,x3,x4,x5,x6,.pointer (some ⟨b7,0,none⟩),.pointer (some ⟨b8,0,none⟩),.int .i64 (i:Int),.slice wa wd.length wc,x11,x12,x13,x14,x15,x16,x17,x18,x19,x20,x21,x22,x23,x24,x25,x26,x27,x28,x29,x30,x31,x32,x33,x34,x35,x36,x37,x38,x39,x40,x41,x42,x43,x44,x45,x46,x47,x48,x49,x50,x51,x52,x53,x54,x55,x56,x57,x58,x59,x60,x61,x62,x63,x64,x65,x66,x67,x68,x69,x70,x71,x72,x73,x74,x75,x76,x77,x78,x79,x80,x81,x82,x83,x84,x85],[]⟩ w:=by
 replace hxl:=qH hxl;have hii:(i:Int) < (cn:Int):=by omega
 have hBw:B<=w.heap.size:=by rw[<-hBe];exact hb0.size
 have hol:(plN N xi wd vs wd.length).2.length=wd.length+1:=plN_len N xi wd vs wd.length
 have hc1:∀ {a1 a2:Option Addr} {c1 c2:Nat},∀u∈([.int .i64 (i:Int),.slice a1 wd.length c1,.slice a2 (wd.length+1) c2]:List Value),u.oneCell'=true:=fun u hu=>by
  simp only[List.mem_cons,List.not_mem_nil,or_false] at hu;rcases hu with rfl|rfl|rfl<;>rfl
 refine wpIn_region_s2 (l0:=l0) (l:=opsBuild14) (F:=(fun ys=>⟨#[x0,.pointer (some ⟨b1,0,none⟩),x2,x3,x4,x5,x6,.pointer (some ⟨b7,0,none⟩),.pointer (some ⟨b8,0,none⟩),.int .i64 (i:Int),.slice wa wd.length wc,x11,x12,x13,x14,x15,x16,x17,x18,x19,x20,x21,x22,x23,x24,x25,x26,x27,x28,x29,x30,x31,x32,x33,x34,x35,x36,x37,x38,x39,x40,x41,x42,x43,x44,x45,x46,x47,x48,ys 0,ys 1,ys 2,ys 3,ys 4,ys 5,ys 6,ys 7,ys 8,ys 9,ys 10,ys 11,ys 12,ys 13,ys 14,ys 15,ys 16,ys 17,ys 18,x68,x69,x70,x71,x72,x73,x74,x75,x76,x77,x78,x79,x80,x81,x82,x83,x84,x85],[]⟩)) (Φ:=[eqV (.pointer (some ⟨b7,9,none⟩)),eqV (.slice ea en ec),eqV (.int .i64 (i:Int)),eqV (.slice wa wd.length wc),fun W v=>∃a1 c1,v = .slice a1 wd.length c1/\OwX 148 7 EI W 0 (.slice a1 wd.length c1) wd.length wd,eqV (.pointer (some ⟨bb,0,none⟩)),eqV (.pointer (some ⟨b1,0,none⟩)),eqV (.pointer (some ⟨b1,3,none⟩)),eqV (.slice (some ⟨cb,co,none⟩) cn cc),eqV (.int .i64 (i:Int)),eqV (.pointer (some ⟨cb,co+i * 3,none⟩)),eqV (.pointer (some ⟨cb,co+i * 3,none⟩)),eqV (.slice xa xi.length xc),eqV (.slice wa wd.length wc),fun W v=>∃a2 c2,v = .slice a2 (wd.length+1) c2/\OwX 48 1 EVi W 0 (.slice a2 (wd.length+1) c2) (wd.length+1) (plN N xi wd vs wd.length).2,fun W v=>∃a1 c1 a2 c2,v = .agg #[.int .i64 (i:Int),.slice a1 wd.length c1,.slice a2 (wd.length+1) c2]/\OwX 148 7 EI W 0 (.slice a1 wd.length c1) wd.length wd/\OwX 48 1 EVi W 0 (.slice a2 (wd.length+1) c2) (wd.length+1) (plN N xi wd vs wd.length).2,fun W v=>∃g a1 c1 a2 c2,v = .slice (some ⟨g,0,none⟩) 1 1/\(Value.slice ea en ec).ownBlock ≠ some g/\W.heap[g]? = some (.cells #[.int .i64 (i:Int),.slice a1 wd.length c1,.slice a2 (wd.length+1) c2] 80)/\OwX 148 7 EI W 0 (.slice a1 wd.length c1) wd.length wd/\OwX 48 1 EVi W 0 (.slice a2 (wd.length+1) c2) (wd.length+1) (plN N xi wd vs wd.length).2,anyV,eqV (.pointer (some ⟨b7,9,none⟩)),anyV]) (R:=(fun W W'=>KR (.slice ea en ec) W W')) (G:=(fun D ys W=>Below B w W/\KeepL w W/\(D 14=false->Below w.heap.size w W)/\(D 14=true->BuV W B bb mb (N:Int) (plN N xi wd vs wd.length).1)/\(D 17=false->OwX 80 3 EEx W B (.slice ea en ec) en xs)/\(D 17=true->(∃a c,(ys 17) = .slice a (en+1) c)/\OwX 80 3 EEx W B (ys 17) (en+1) (xs ++ [((i:Int),wd,(plN N xi wd vs wd.length).2)]))/\(D 19=false->W.heap[b7]? = some (.cells #[p0,p1,p2,p3,p4,p5,p6,p7,p8,(.slice ea en ec)] 35))/\(D 19=true->W.heap[b7]? = some (.cells #[p0,p1,p2,p3,p4,p5,p6,p7,p8,(ys 17)] 35))/\W.heap[b8]? = some (.cells #[.pointer (some ⟨bb,0,none⟩)] 137)/\KX w W)) ⟨?s0,?s1,?s2,?s3,?s4,?s5,?s6,?s7,?s8,?s9,?s10,?s11,?s12,?s13,?s14,?s15,?s16,?s17,?s18,?s19,trivial⟩ (fun i=>([x49,x50,x51,x52,x53,x54,x55,x56,x57,x58,x59,x60,x61,x62,x63,x64,x65,x66,x67,undef]:List Value).getD i undef) (by kernel_rfl) (by kernel_rfl) hQ (by kernel_rfl) ⟨sE,sE,sE,sE,fun _ _ _ ⟨a1,c1,h0,h1⟩ r=>⟨a1,c1,h0,h1.ofE r.rd fun _ _ h=>h⟩,sE,sE,sE,sE,sE,sE,sE,sE,sE,fun _ _ _ ⟨a2,c2,h0,h1⟩ r=>⟨a2,c2,h0,h1.ofEV r⟩,fun _ _ _ ⟨a1,c1,a2,c2,h0,h1,h2⟩ r=>⟨a1,c1,a2,c2,h0,h1.ofE r.rd fun _ _ h=>h,h2.ofEV r⟩,fun _ _ _ ⟨g,a1,c1,a2,c2,h0,h3,h4,h1,h2⟩ r=>⟨g,a1,c1,a2,c2,h0,h3,(r.ex g _ h4 h3).trans h4,h1.ofE r.rd fun _ _ h=>h,h2.ofEV r⟩,fun _ _ _ h _=>h,sE,fun _ _ _ h _=>h,trivial⟩ ?g0 ?gx ?fin
 case s0|s2|s3|s6|s9|s13|s18=>
  refine .q0 (wantU rfl) (fun _=>KR.refl _ _) (fun _ _ _ h=>h) (fun _=>rfl) fun ys W K hK=>?_;go_simp;exact hK
 case s1=>
  refine StepG.mk rfl (openY 0 fun y0=>openY 17 fun y17=>fun ys D W K hD hcl hd hG hK=>?_);obtain rfl:=(hd.get 0 rfl).2;dsimp [updG] at hG|-
  have d19:=hcl.no (j:=19) (i:=1) rfl (by kernel_rfl) hD;obtain⟨g1,g2,g3,g4,g5,g6,g7,g8,g9,g10⟩:=hG;obtain⟨-,-,-,q9⟩:=box10' (g7 d19);go_simp;exact hK _ _ (KR.refl _ _) ⟨g1,g2,g3,g4,g5,g6,g7,g8,g9,g10⟩ rfl
 case s4=>
  refine StepG.mk rfl (openY 3 fun y3=>openY 17 fun y17=>fun ys D W K hD hcl hd hG hK=>?_);obtain rfl:=(hd.get 3 rfl).2;dsimp [updG] at hG|-
  have d14:=hcl.no (j:=14) (i:=4) rfl (by kernel_rfl) hD;have d17:=hcl.no (j:=17) (i:=14) rfl (by kernel_rfl) d14;have d19:=hcl.no (j:=19) (i:=4) rfl (by kernel_rfl) hD;obtain⟨g1,g2,g3,g4,g5,g6,g7,g8,g9,g10⟩:=hG;have hb:=g3 d14;go_simp;refine(cloneRdK (hw.keep (hb0.trans (by rw[hBe];exact g1))) (by omega)).mono ?_;rintro e W9 ⟨u9,rfl,h9,hb9⟩;obtain⟨a1,c1,rfl⟩:=h9.shape;exact hK _ _ (KR.below hb9) ⟨g1.trans (hb9.mono (Nat.le_trans hBw hb.size)),g2.trans (KeepL.below hb9),fun _=>btt hb hb9,fun h=>(by rw[show addG D 4 14=D 14 from rfl,d14] at h;cases h),fun _=>(g5 d17).keep (EEx.stab (by decide) (by decide) (by decide)) hb9,fun h=>(by rw[show addG D 4 17=D 17 from rfl,d17] at h;cases h),fun _=>keptO hb9 (g7 d19),fun h=>(by rw[show addG D 4 19=D 19 from rfl,d19] at h;cases h),keptO hb9 g9,g10.trans (KX.below hb9)⟩ ⟨a1,c1,rfl,h9.base (Nat.zero_le _)⟩
 case s5=>
  refine StepG.mk rfl (openY 17 fun y17=>fun ys D W K _ _ _ hG hK=>?_);dsimp [updG] at hG|-
  obtain⟨g1,g2,g3,g4,g5,g6,g7,g8,g9,g10⟩:=hG;have c:=cell_of_row _ b8 0 _ _ _ g9;simp only[List.getElem?_toArray,List.getElem?_cons_zero] at c;go_simp;exact hK _ _ (KR.refl _ _) ⟨g1,g2,g3,g4,g5,g6,g7,g8,g9,g10⟩ rfl
 case s7|s11=>
  refine .q1 (wantU rfl) (fun _=>KR.refl _ _) (fun _ _ _ h=>h) (fun _=>rfl) rfl (fun _ _ h=>h) fun ys W K hK=>?_;dsimp [updG]
  go_simp;exact hK
 case s8=>
  refine StepG.mk rfl (openY 7 fun y7=>openY 17 fun y17=>fun ys D W K _ _ hd hG hK=>?_);obtain rfl:=(hd.get 7 rfl).2;dsimp [updG] at hG|-
  obtain⟨g1,g2,g3,g4,g5,g6,g7,g8,g9,g10⟩:=hG;have c:=cellB g1 hb1B c3;go_simp;exact hK _ _ (KR.refl _ _) ⟨g1,g2,g3,g4,g5,g6,g7,g8,g9,g10⟩ rfl
 case s10=>
  refine .q2 (wantU rfl) (fun _=>KR.refl _ _) (fun _ _ _ h=>h) (fun _=>rfl) rfl (fun _ _ h=>h) (fun _ _ h=>h) fun ys W K hK=>?_;dsimp [updG]
  go_simp;exact hK
 case s12=>
  refine StepG.mk rfl (openY 11 fun y11=>openY 17 fun y17=>fun ys D W K _ _ hd hG hK=>?_);obtain rfl:=(hd.get 11 rfl).2;dsimp [updG] at hG|-
  obtain⟨g1,g2,g3,g4,g5,g6,g7,g8,g9,g10⟩:=hG;have c:=cellB g1 hcbB ci;go_simp;exact hK _ _ (KR.refl _ _) ⟨g1,g2,g3,g4,g5,g6,g7,g8,g9,g10⟩ rfl
 case s14=>
  refine StepG.mk rfl (openY 5 fun y5=>openY 12 fun y12=>openY 13 fun y13=>openY 17 fun y17=>fun ys D W K hD hcl hd hG hK=>?_);obtain rfl:=(hd.get 5 rfl).2;obtain rfl:=(hd.get 12 rfl).2;obtain rfl:=(hd.get 13 rfl).2;dsimp [updG] at hG|-
  skip
  have d17:=hcl.no (j:=17) (i:=14) rfl (by kernel_rfl) hD;have d19:=hcl.no (j:=19) (i:=14) rfl (by kernel_rfl) hD;obtain⟨g1,g2,g3,g4,g5,g6,g7,g8,g9,g10⟩:=hG;have hb:=g3 hD;go_simp;refine(playRow (w0:=w0) (hb0.trans (by rw[hBe];exact g1)) hBe (hU.keep hb) hx hxl.out hxs hw hwl hwb hN hvl).mono ?_;rintro e W9 ⟨u9,rfl,h9,hU9,hK9,hB9⟩;obtain⟨a2,c2,rfl⟩:=h9.shape;have hbx:=(hU.keep hb).box;have hE:∀E,E ≠ 114->E ≠ 140->KeepE E W W9:=fun E h1 h2=>hK9.toE hbx h1 h2;have n7:b7 ≠ bb:=fun e=>by obtain⟨cs,hc⟩:=hbx;have h:=g7 d19;rw[e,hc] at h;injection h with h;injection h with _ h;exact absurd h (by decide)
  have n8:b8 ≠ bb:=fun e=>by obtain⟨cs,hc⟩:=hbx;have h:=g9;rw[e,hc] at h;injection h with h;injection h with _ h;exact absurd h (by decide)
  exact hK _ _ ⟨hE _ (by decide) (by decide),hE _ (by decide) (by decide),hE _ (by decide) (by decide),fun k cs hk _=>hE 80 (by decide) (by decide) k cs hk⟩ ⟨g1.trans hB9,g2.trans hK9.lo,fun h=>(by cases h),fun _=>hU9,fun _=>(g5 d17).ofE (hE _ (by decide) (by decide)) (fun cs x h=>h.ofE (hE _ (by decide) (by decide)) (hE _ (by decide) (by decide)) (hE _ (by decide) (by decide))),fun h=>(by rw[show addG D 14 17=D 17 from rfl,d17] at h;cases h),fun _=>(hK9.cells b7 _ _ (g7 d19) (by decide) n7).trans (g7 d19),fun h=>(by rw[show addG D 14 19=D 19 from rfl,d19] at h;cases h),(hK9.cells b8 _ _ g9 (by decide) n8).trans g9,g10.trans (KX.ofB hK9 hbx)⟩ ⟨a2,c2,rfl,h9.base (Nat.zero_le _)⟩
 case s15=>
  refine StepG.mk rfl (openY 2 fun y2=>openY 4 fun y4=>openY 14 fun y14=>openY 17 fun y17=>fun ys D W K _ _ hd hG hK=>?_);obtain rfl:=(hd.get 2 rfl).2;have ⟨d4,e4⟩:=hd.get 4 rfl;have ⟨d14,e14⟩:=hd.get 14 rfl;dsimp [updG] at hG|-
  obtain⟨a1,c1,rfl,h1⟩:=e4;obtain⟨a2,c2,rfl,h2⟩:=e14;go_simp;exact hK _ _ (KR.refl _ _) hG ⟨a1,c1,a2,c2,rfl,h1,h2⟩
 case s16=>
  refine StepG.mk rfl (openY 15 fun y15=>openY 17 fun y17=>fun ys D W K hD hcl hd hG hK=>?_);have ⟨d15,e15⟩:=hd.get 15 rfl;dsimp [updG] at hG|-
  obtain⟨a1,c1,a2,c2,rfl,h1,h2⟩:=e15;have d17:=hcl.no (j:=17) (i:=16) rfl (by kernel_rfl) hD;have d19:=hcl.no (j:=19) (i:=16) rfl (by kernel_rfl) hD;have d14:D 14=true:=hcl 15 _ d15 rfl 14 (List.mem_of_elem_eq_true (by kernel_rfl));obtain⟨g1,g2,g3,g4,g5,g6,g7,g8,g9,g10⟩:=hG;have hb9:Below W.heap.size W (W.alloc (.cells #[.int .i64 (i:Int),.slice a1 wd.length c1,.slice a2 (wd.length+1) c2] 80)):=(Below.refl _ W).alloc (Nat.le_refl _) _;have hnb:(Value.slice ea en ec).ownBlock ≠ some W.heap.size:=fun e=>by obtain⟨vs,k1,_⟩:=g5 d17;obtain⟨cs,hc⟩:=ownsRow_ty k1 _ e;have:=(Array.getElem?_eq_some_iff.1 hc).1;omega
  go_simp;exact hK _ _ (KR.below hb9) ⟨g1.trans (hb9.mono (Nat.le_trans hBw g1.size)),g2.trans (KeepL.below hb9),fun h=>(by rw[show addG D 16 14=D 14 from rfl,d14] at h;cases h),fun _=>(g4 d14).keep hb9,fun _=>(g5 d17).keep (EEx.stab (by decide) (by decide) (by decide)) hb9,fun h=>(by rw[show addG D 16 17=D 17 from rfl,d17] at h;cases h),fun _=>keptO hb9 (g7 d19),fun h=>(by rw[show addG D 16 19=D 19 from rfl,d19] at h;cases h),keptO hb9 g9,g10.trans (KX.below hb9)⟩ ⟨W.heap.size,a1,c1,a2,c2,rfl,hnb,heap_alloc_new W _,h1.keep (EI.stab _) hb9,h2.keep (EVi.stab (by decide)) hb9⟩
 case s17=>
  refine StepG.mk rfl (openY 1 fun y1=>openY 16 fun y16=>openY 14 fun y14=>openY 17 fun y17=>fun ys D W K hD hcl hd hG hK=>?_);obtain rfl:=(hd.get 1 rfl).2;have ⟨d16,e16⟩:=hd.get 16 rfl;have ⟨d14,e14⟩:=hd.get 14 rfl;dsimp [updG] at hG|-
  obtain⟨g,a1,c1,a2,c2,rfl,hnb,hg,h1,h2⟩:=e16;have d19:=hcl.no (j:=19) (i:=17) rfl (by kernel_rfl) hD;obtain⟨g1,g2,g3,g4,g5,g6,g7,g8,g9,g10⟩:=hG;refine wp_appX (B:=B) (cs:=[.int .i64 (i:Int),.slice a1 wd.length c1,.slice a2 (wd.length+1) c2]) (x:=((i:Int),wd,(plN N xi wd vs wd.length).2)) elemEx (by decide) (by decide) (EEx.stab (by decide) (by decide) (by decide)) _ _ (by rfl) (by rfl) (g5 hD) ⟨g,0,none⟩ 1 (by rfl) rfl (World.news_of_block hg) hc1 ⟨a1,c1,a2,c2,by rw[hol],h1,by rw[hol];exact h2⟩ (by omega) (Nat.le_trans hBw g1.size) ?_;intro v9 w9 hO9 hg9 hn9 hb9 hx9;obtain⟨a9,c9,rfl⟩:=hO9.shape;have hU:=g4 d14;have hrt:∀g,(Value.slice ea en ec).ownBlock=some g->∃cs,W.heap[g]? = some (.cells cs 80):=by obtain⟨vs,k1,_⟩:=g5 hD;exact ownsRow_ty k1
  have hU9:BuV w9 B bb mb (N:Int) (plN N xi wd vs wd.length).1:=by
   obtain⟨vv,k1,k2,k3,k4,k5,k6,k7⟩:=hU;refine⟨vv,(hx9 bb _ _ k1 (by decide)).trans k1,k2.other (E':=80) (EI.stab _) (by decide) hx9,k3.keep (hg9.block mb k3.lt fun e=>?_),k4,k5,k6,k7⟩;obtain⟨cs,hc⟩:=hrt mb e.symm;obtain⟨es,c,hm,_⟩:=k3;rw[hc] at hm;cases hm
  go_simp;exact hK _ _ ⟨fun k cs hk=>hx9 k cs _ hk (by decide),fun k cs hk=>hx9 k cs _ hk (by decide),fun k cs hk=>hx9 k cs _ hk (by decide),fun k cs hk hn=>hg9.block k (Array.getElem?_eq_some_iff.1 hk).1 fun e=>hn e.symm⟩ ⟨g1.trans hb9,g2.trans (KeepL.grown hg9 fun g hg=>by obtain⟨cs,hc⟩:=hrt g hg;exact⟨cs,_,hc⟩),fun h=>(by rw[show addG D 17 14=D 14 from rfl,d14] at h;cases h),fun _=>hU9,fun h=>(by cases h),fun _=>⟨⟨a9,c9,rfl⟩,hO9⟩,fun _=>(hx9 b7 _ _ (g7 d19) (by decide)).trans (g7 d19),fun h=>(by rw[show addG D 17 19=D 19 from rfl,d19] at h;cases h),(hx9 b8 _ _ g9 (by decide)).trans g9,g10.trans (KX.ofEx hx9)⟩ trivial
 case s19=>
  refine StepG.mk rfl (openY 18 fun y18=>openY 14 fun y14=>openY 17 fun y17=>fun ys D W K hD _ hd hG hK=>?_);obtain rfl:=(hd.get 18 rfl).2;have d17:=(hd.get 17 rfl).1;have ⟨d14,e14⟩:=hd.get 14 rfl;dsimp [updG] at hG|-
  obtain⟨g1,g2,g3,g4,g5,g6,g7,g8,g9,g10⟩:=hG;obtain⟨⟨a9,c9,rfl⟩,hO9⟩:=g6 d17;have k7:=g7 hD;obtain⟨-,-,-,q9⟩:=box10' k7;have fz:=row_free k7;have hU:=g4 d14;have hX:=KeepX.setCell (p:=⟨b7,9,none⟩) k7 (.slice a9 (en+1) c9)
  have hU9:BuV (W.setCell ⟨b7,9,none⟩ (.slice a9 (en+1) c9)) B bb mb (N:Int) (plN N xi wd vs wd.length).1:=by
   obtain⟨vv,k1,k2,k3,k4,k5,k6,k7'⟩:=hU;refine⟨vv,(hX bb _ _ k1 (by decide)).trans k1,k2.other (E':=35) (EI.stab _) (by decide) hX,k3.keep (Below.heap_setCell W ⟨b7,9,none⟩ _ mb fun e=>?_),k4,k5,k6,k7'⟩;have e:mb=b7:=e;obtain⟨es,c,hm,_⟩:=k3;rw[e,k7] at hm;cases hm
  go_simp;exact hK undef _ ⟨fun k cs hk=>hX k cs _ hk (by decide),fun k cs hk=>hX k cs _ hk (by decide),fun k cs hk=>hX k cs _ hk (by decide),fun k cs hk _=>hX k cs _ hk (by decide)⟩ ⟨g1.setCell (p:=⟨b7,9,none⟩) hB7 _,g2.trans (KeepL.setCell (p:=⟨b7,9,none⟩) k7 _),fun h=>(by rw[show addG D 19 14=D 14 from rfl,d14] at h;cases h),fun _=>hU9,fun h=>(by rw[show addG D 19 17=D 17 from rfl,d17] at h;cases h),fun _=>⟨⟨a9,c9,rfl⟩,hO9.other (EEx.stab (by decide) (by decide) (by decide)) (by decide) hX⟩,fun h=>(by cases h),fun _=>heap_setCell_same W b7 9 _ _ _ k7,(hX b8 _ _ g9 (by decide)).trans g9,g10.trans (KX.ofSy hX)⟩ trivial
 case g0=>exact⟨(below_drewN (Below.refl _ w) 1).mono hBw,KeepL.below (below_drewN (Below.refl _ w) 1),fun _=>below_drewN (Below.refl _ w) 1,fun h=>(by cases h),fun _=>ho.keep (EEx.stab (by decide) (by decide) (by decide)) (below_drewN (Below.refl _ w) 1),fun h=>(by cases h),fun _=>k7,fun h=>(by cases h),k8,KX.below (below_drewN (Below.refl _ w) 1)⟩
 case gx=>exact fun D D' ys W h ⟨g1,g2,g3,g4,g5,g6,g7,g8,g9,g10⟩=>⟨g1,g2,fun q=>g3 ((h 14 (by decide)).trans q),fun q=>g4 ((h 14 (by decide)).trans q),fun q=>g5 ((h 17 (by decide)).trans q),fun q=>g6 ((h 17 (by decide)).trans q),fun q=>g7 ((h 19 (by decide)).trans q),fun q=>g8 ((h 19 (by decide)).trans q),g9,g10⟩
 case fin=>
  intro ys W hG hp;try dsimp only
  rw[(hpE hp 0:ys 0=_),(hpE hp 1:ys 1=_),(hpE hp 2:ys 2=_),(hpE hp 3:ys 3=_),(hpE hp 5:ys 5=_),(hpE hp 6:ys 6=_),(hpE hp 7:ys 7=_),(hpE hp 8:ys 8=_),(hpE hp 9:ys 9=_),(hpE hp 10:ys 10=_),(hpE hp 11:ys 11=_),(hpE hp 12:ys 12=_),(hpE hp 13:ys 13=_),(hpE hp 18:ys 18=_)];exact hfin (ys 4) (ys 14) (ys 15) (ys 16) (ys 17) (ys 19) W hG (hpE hp 4) (hpE hp 14) (hpE hp 15) (hpE hp 16) (hpE hp 17) (hpE hp 19)
end Go.Proofs.YtcnedkkcgdkioaaGreat
