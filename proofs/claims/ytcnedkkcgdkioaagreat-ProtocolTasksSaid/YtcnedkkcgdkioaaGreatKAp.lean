/- Texts of this claim, put together: UX TU2 TU1 UZ UY RH RI. -/
import Derived.Test.YtcnedkkcgdkioaaGreatKAo
import Derived.Laws.CopyRow

set_option maxRecDepth 100000
set_option maxHeartbeats 12800000
namespace Go.Proofs.YtcnedkkcgdkioaaGreat
open Go.RowKit
theorem mv_bd {n:Int}{ss:List (List (List Int))}(h8:∀s∈ss,∀m∈s,m.length=8) (h0:chkA n ss=0) {s:List (List Int)}(hs:s∈ss) {m:List Int}(hm:m∈s):∀x∈rdOf m,0≤x∧x≤31:=by
 obtain⟨_,_,h1,_⟩:=chkA_facts h0;have h2:=ssGo_zero h1 s hs;unfold stErr at h2;split at h2
 ·cases h2
 ·obtain⟨i,hi,rfl⟩:=List.mem_iff_getElem.1 hm;have h3:=(mvErr_zero (mvGo_zero h2 i (Nat.zero_le _) (by omega))).1;rw[getD_eq hi] at h3;exact wf31 (by rw[rdOf,List.length_take,h8 s hs _ hm];rfl) h3
theorem wL_bd {n:Int}{ss:List (List (List Int))}(h8:∀s∈ss,∀m∈s,m.length=8) (h0:chkA n ss=0):∀(k s:Nat) (wd:List (List Int)),wd∈wL ss k s→∀r∈wd,∀x∈r,0≤x∧x≤31
 | 0,_,wd,h,r,hr=>by
  rw[wL,List.mem_singleton] at h;subst h;cases hr
 | k+1,s,wd,h,r,hr=>by
  rw[wL] at h;obtain⟨m,hm,h⟩:=List.mem_flatMap.1 h;obtain⟨w',hw',rfl⟩:=List.mem_map.1 h;rcases List.mem_cons.1 hr with rfl|hr
  ·by_cases hs:s < ss.length
   ·rw[getD_eq hs] at hm;exact mv_bd h8 h0 (List.getElem_mem hs) hm
   ·rw[List.getD_eq_getElem?_getD,List.getElem?_eq_none (by omega)] at hm;cases hm
  ·exact wL_bd h8 h0 k _ w' hw' r hr
theorem getD_bd {l:List Int}(h:∀x∈l,0≤x∧x≤31) (j:Nat):0≤l.getD j 0∧l.getD j 0≤31:=by
 rw[List.getD_eq_getElem?_getD];cases e:l[j]? with
 | none=>exact⟨by decide,by decide⟩
 | some x=>exact h x (List.mem_of_getElem? e)
theorem wd_bd {wd:List (List Int)}(h:∀r∈wd,∀x∈r,0≤x∧x≤31) (k j:Nat):0≤(wd.getD k []).getD j 0∧(wd.getD k []).getD j 0≤31:=by
 refine getD_bd (fun x hx=>?_) j;rw[List.getD_eq_getElem?_getD] at hx;cases e:wd[k]? with
 | none=>rw[e] at hx;cases hx
 | some r=>rw[e] at hx;exact h r (List.mem_of_getElem? e) x hx
theorem task_in {n ins outs:Int}{cs:List Cs}(h:chkT n ins outs cs=0):(1≤n∧n≤5)∧∀k,k < cs.length→((cs.getD k csNil).1.length:Int)=n∧∀j:Nat,0≤(cs.getD k csNil).1.getD j 0∧(cs.getD k csNil).1.getD j 0≤1000:=by
 unfold chkT at h;split at h
 ·cases h
 next h1=>
 split at h
 ·cases h
 next h2=>
 refine⟨by omega,fun k hk=>?_⟩;have e:=(firstE_zero _ _).1 h k (Nat.zero_le _) (by omega);unfold caseE at e;split at e
 ·rename_i e1;exact absurd e e1
 next e1=>
 have e2:vecE (cs.getD k csNil).1 n ins=0:=Decidable.not_not.1 e1;unfold vecE at e2;split at e2
 ·cases e2
 next e3=>
 split at e2
 ·cases e2
 next e4=>
 refine⟨Decidable.not_not.1 e3,fun j=>?_⟩;rw[List.getD_eq_getElem?_getD];cases e5:(cs.getD k csNil).1[j]? with
 | none=>exact⟨by decide,by decide⟩
 | some x=>
  have hx:=List.mem_of_getElem? e5;refine⟨?_,?_⟩
  ·show 0≤x;by_cases hx0:0≤x
   ·exact hx0
   ·exact absurd ⟨x,hx,.inl (by omega)⟩ e4
  ·show x≤1000;by_cases hx0:x < ins
   ·omega
   ·exact absurd ⟨x,hx,.inr (by omega)⟩ e4
theorem few_sm {cs:List Cs}(h:fewT cs=true):∀c∈cs,SmC c:=by
 unfold fewT at h;rw[Bool.and_eq_true,List.all_eq_true] at h;intro c hc;have h1:=h.2 c hc;unfold fewC fewV at h1;simp only[Bool.and_eq_true,decide_eq_true_eq,List.all_eq_true] at h1;obtain⟨a,⟨b,b2⟩,d,d2⟩:=h1;exact⟨by omega,by omega,by omega,fun x hx=>by have:=b2 x hx;omega,fun x hx=>by have:=d2 x hx;omega⟩
def KeepE (E:TypeId) (W W':World):Prop:=∀(k:Nat) (cs:Array Value),W.heap[k]? = some (.cells cs E)→W'.heap[k]? = W.heap[k]?
theorem KeepE.below {E:TypeId}{W W':World}(h:Below W.heap.size W W'):KeepE E W W':=fun k _ hk=>h.block k (Array.getElem?_eq_some_iff.1 hk).1
theorem OwX.ofE {α:Type}{E:TypeId}{k:Nat}{El:World→List Value→α→Prop}{w w':World}{B n:Nat}{v:Value}{xs:List α}(h:OwX E k El w B v n xs) (hk:KeepE E w w') (hEl:∀cs x,El w cs x→El w' cs x):OwX E k El w' B v n xs:=by
 obtain⟨vs,h1,h2,h3,h4⟩:=h;refine⟨vs,⟨h1.1,?_⟩,h2,h3,fun j x hj=>hEl _ _ (h4 j x hj)⟩;rcases h1.2 with h'|⟨g,cap,cur,k1,k2,k3,k4⟩
 ·exact .inl h'
 ·exact .inr ⟨g,cap,cur,k1,k2,(hk g cur k3).trans k3,k4⟩
theorem OI.ofE {w w':World}{B n:Nat}{v:Value}{xs:List Int}(h:OI w B v n xs) (hk:KeepE 3 w w'):OI w' B v n xs:=by
 refine⟨h.1,?_⟩;rcases h.2 with h'|⟨g,cap,cur,k1,k2,k3,k4⟩
 ·exact .inl h'
 ·exact .inr ⟨g,cap,cur,k1,k2,(hk g cur k3).trans k3,k4⟩
theorem EVi.ofE {w w':World}{cs:List Value}{x:List Int}(h:EVi w cs x) (hk:KeepE 3 w w'):EVi w' cs x:=by
 obtain⟨u,h1,h2⟩:=h;exact⟨u,h1,OI.ofE h2 hk⟩
def EEx (w:World) (cs:List Value) (x:Ex):Prop:=∃a1 c1 a2 c2,cs = [.int .i64 x.1,.slice a1 x.2.1.length c1,.slice a2 x.2.2.length c2]∧OwX 148 7 EI w 0 (.slice a1 x.2.1.length c1) x.2.1.length x.2.1∧OwX 48 1 EVi w 0 (.slice a2 x.2.2.length c2) x.2.2.length x.2.2
theorem EEx.stab {E:TypeId}(h1:148 ≠ E) (h2:48 ≠ E) (h3:3 ≠ E):Stab E EEx:=fun _w _w' _cs _x ⟨a1,c1,a2,c2,e,k1,k2⟩ hx=>⟨a1,c1,a2,c2,e,k1.other (EI.stab _) h1 hx,k2.other (EVi.stab h3) h2 hx⟩
theorem EEx.ofE {w w':World}{cs:List Value}{x:Ex}(h:EEx w cs x) (h1:KeepE 148 w w') (h2:KeepE 48 w w') (h3:KeepE 3 w w'):EEx w' cs x:=by
 obtain⟨a1,c1,a2,c2,e,k1,k2⟩:=h;exact⟨a1,c1,a2,c2,e,k1.ofE h1 fun _ _ h=>h,k2.ofE h2 fun _ _ h=>h.ofE h3⟩
theorem elemEx:ElemK Tryz.prog 33 80 (.agg #[.int .i64 0,.slice none 0 0,.slice none 0 0]) 3 56:=⟨by kernel_rfl,by kernel_rfl,rfl⟩
structure KR (v:Value) (W W':World):Prop where
 rd:KeepE 148 W W'
 vi:KeepE 48 W W'
 it:KeepE 3 W W'
 ex:∀(k:Nat) (cs:Array Value),W.heap[k]? = some (.cells cs 80)→v.ownBlock ≠ some k→W'.heap[k]? = W.heap[k]?
theorem KR.refl (v:Value) (W:World):KR v W W:=⟨fun _ _ _=>rfl,fun _ _ _=>rfl,fun _ _ _=>rfl,fun _ _ _ _=>rfl⟩
theorem KR.below {v:Value}{W W':World}(h:Below W.heap.size W W'):KR v W W':=⟨KeepE.below h,KeepE.below h,KeepE.below h,fun k _ hk _=>h.block k (Array.getElem?_eq_some_iff.1 hk).1⟩
theorem OwX.ofEV {u:Value}{w w':World}{B n:Nat}{v:Value}{xs:List (List Int)}(h:OwX 48 1 EVi w B v n xs) (r:KR u w w'):OwX 48 1 EVi w' B v n xs:=h.ofE r.vi fun _ _ h=>h.ofE r.it
theorem KeepB.toE {bb:Nat}{w w':World}{E:TypeId}(h:KeepB bb w w') (hb:∃cs,w.heap[bb]? = some (.cells cs 140)) (h1:E ≠ 114) (h2:E ≠ 140):KeepE E w w':=fun k cs hk=>h.cells k cs E hk h1 fun e=>by
 obtain⟨c,hc⟩:=hb;rw[e,hc] at hk;injection hk with hk;injection hk with _ hk;exact h2 hk.symm
def KX (W W':World):Prop:=∀(k:Nat) (cs:Array Value) (t:TypeId),W.heap[k]? = some (.cells cs t)→t ≠ 114→t ≠ 140→t ≠ 80→t ≠ 35→W'.heap[k]? = W.heap[k]?
theorem KX.trans {A B C:World}(h:KX A B) (g:KX B C):KX A C:=fun k cs t hk h1 h2 h3 h4=>by
 have e:=h k cs t hk h1 h2 h3 h4;exact(g k cs t (e.trans hk) h1 h2 h3 h4).trans e
theorem KX.below {A B:World}(h:Below A.heap.size A B):KX A B:=fun k _ _ hk _ _ _ _=>h.block k (Array.getElem?_eq_some_iff.1 hk).1
theorem KX.ofB {bb:Nat}{A B:World}(h:KeepB bb A B) (hb:∃cs,A.heap[bb]? = some (.cells cs 140)):KX A B:=fun k cs t hk h1 h2 _ _=>h.cells k cs t hk h1 fun e=>by
 obtain⟨c,hc⟩:=hb;rw[e,hc] at hk;injection hk with hk;injection hk with _ hk;exact h2 hk.symm
theorem KX.ofEx {A B:World}(h:KeepX 80 A B):KX A B:=fun k cs t hk _ _ h3 _=>h k cs t hk h3
theorem KX.ofSy {A B:World}(h:KeepX 35 A B):KX A B:=fun k cs t hk _ _ _ h4=>h k cs t hk h4
theorem cellB {B b o:Nat}{w W:World}{v:Value}(h:Below B w W) (hb:b < B) (hc:w.cell? ⟨b,o,none⟩=some v):W.cell? ⟨b,o,none⟩=some v:=(World.cell?_of_block (h.block b hb)).trans hc
theorem ne_of_lo {W:World}{j k:Nat}{o o1:Obj}(hk:W.heap[k]? = some o) (ho:Lo o) (hj:W.heap[j]? = some o1) (h1 : ¬Lo o1):j ≠ k:=fun e=>by
 subst e;rw[hk] at hj;injection hj with hj;subst hj;exact h1 ho
theorem KeepE.putObj {E:TypeId}{W:World}{k:Nat}{o o':Obj}(hk:W.heap[k]? = some o) (ho:Lo o):KeepE E W (W.putObj k o'):=fun _ _ hj=>World.putObj_heap_other (ne_of_lo hk ho hj id)
theorem KX.putObj {W:World}{k:Nat}{o o':Obj}(hk:W.heap[k]? = some o) (ho:Lo o):KX W (W.putObj k o'):=fun _ _ _ hj _ _ _ _=>World.putObj_heap_other (ne_of_lo hk ho hj id)
theorem BuV.putObj {W:World}{B bb mb k:Nat}{n:Int}{vs:List (List Int)}{o o':Obj}(h:BuV W B bb mb n vs) (hk:W.heap[k]? = some o) (ho:Lo o):BuV (W.putObj k o') B bb mb n vs:=by
 obtain⟨v,h1,h2,h3,h4⟩:=h;refine⟨v,(World.putObj_heap_other (ne_of_lo hk ho h1 id)).trans h1,h2.ofE (KeepE.putObj hk ho) (fun _ _ h=>h),h3.keep (World.putObj_heap_other ?_),h4⟩;obtain⟨es,c,hm,_⟩:=h3;exact ne_of_lo hk ho hm id
theorem KeepX.putObjLo {E:TypeId}{W:World}{k:Nat}{o o':Obj}(hk:W.heap[k]? = some o) (ho:Lo o):KeepX E W (W.putObj k o'):=fun _ _ _ hj _=>World.putObj_heap_other (ne_of_lo hk ho hj id)
theorem plN_rows (n:Nat) (xs:List Int) (wd:List (List Int)) (vs:List (List Int)):∀k,∀r∈(plN n xs wd vs k).2,r.length=n
 | 0,r,hr=>by
  rw[plN,List.mem_singleton] at hr;subst hr;exact idN_len n
 | k+1,r,hr=>by
  rw[plN] at hr;rcases List.mem_append.1 hr with h|h
  ·exact plN_rows n xs wd vs k r h
  ·rw[List.mem_singleton] at h;subst h;exact idN_len n
theorem exeL_bd (n:Nat):∀(l:List (Int × List Int × List (List Int))) (vs:List (List Int)),∀x∈(exeL n vs l).2,(∃y∈l,x.2.1=y.2.2)∧x.2.2.length=x.2.1.length+1∧∀r∈x.2.2,r.length=n
 | [],vs,x,hx=>by cases hx
 | (c,xs,wd)::l,vs,x,hx=>by
  rw[exeL] at hx;rcases List.mem_cons.1 hx with rfl|hx
  ·exact⟨⟨(c,xs,wd),List.mem_cons_self,rfl⟩,plN_len n xs wd vs wd.length,plN_rows n xs wd vs wd.length⟩
  ·obtain⟨⟨y,hy,e⟩,h2⟩:=exeL_bd n l _ x hx;exact⟨⟨y,List.mem_cons_of_mem _ hy,e⟩,h2⟩
theorem pairsP_word {cs:List Cs}{ws:List (List (List Int))}{x:Int × List Int × List (List Int)}(h:x∈pairsP cs ws):x.2.2∈ws:=by
 unfold pairsP at h;obtain⟨c,_,h⟩:=List.mem_flatMap.1 h;obtain⟨w,hw,rfl⟩:=List.mem_map.1 h;exact hw
theorem OwX.exs {w:World}{B n:Nat}{v:Value}{xs:List Ex}(h:OwX 80 3 EEx w B v n xs) (hn:n≤100000) (hb:∀x∈xs,x.2.1.length≤100000∧x.2.2.length≤100000∧∀r∈x.2.2,r.length≤100000):ExS w v xs:=by
 obtain rfl:=h.length;rcases Nat.eq_zero_or_pos xs.length with h0|h0
 ·obtain⟨a,c,rfl⟩:=h.shape;obtain rfl:=List.length_eq_zero_iff.1 h0;exact⟨a,c,0,0,rfl,by simp,by intro j hj;simp at hj,by simp⟩
 ·obtain⟨g,cap,rfl,_⟩:=h.form h0;refine⟨_,cap,g,0,rfl,fun _=>rfl,fun j hj=>?_,by omega⟩;have hx:xs[j]? = some (xs.getD j exNil):=by rw[getD_eq hj];exact List.getElem?_eq_some_iff.2 ⟨hj,rfl⟩
  obtain⟨cs,h1,⟨a1,c1,a2,c2,e,k1,k2⟩,h4⟩:=h.cells hx;obtain⟨b1,b2,b3⟩:=hb _ (List.mem_of_getElem? hx);subst e;refine⟨_,_,?_,?_,?_,k1.ks (by omega),k2.intssE b2 b3⟩
  ·have:=h4 0 _ rfl;rw[Nat.zero_add];exact this
  ·have:=h4 1 _ rfl;rw[Nat.zero_add];exact this
  ·have:=h4 2 _ rfl;rw[Nat.zero_add];exact this
structure BdI (w0 wL:World) (B b7 b8 bb mb N:Nat) (p:Value→Obj) (l:List (Int × List Int × List (List Int))) (W:World):Prop where
 bl:Below B w0 W
 kx:KX wL W
 bu:BuV W B bb mb (N:Int) (exeL N [] l).1
 ex:∃ea ec,OwX 80 3 EEx W B (.slice ea (exeL N [] l).2.length ec) (exeL N [] l).2.length (exeL N [] l).2∧W.heap[b7]? = some (p (.slice ea (exeL N [] l).2.length ec))
 k8:W.heap[b8]? = some (.cells #[.pointer (some ⟨bb,0,none⟩)] 137)
theorem BdI.putObj {w0 wL W:World}{B b7 b8 bb mb N k:Nat}{p:Value→Obj}{l:List (Int × List Int × List (List Int))}{o o':Obj}(hp:∀v,¬Lo (p v)) (h:BdI w0 wL B b7 b8 bb mb N p l W) (hB:B≤k) (hk:W.heap[k]? = some o) (ho:Lo o):BdI w0 wL B b7 b8 bb mb N p l (W.putObj k o'):=by
 obtain⟨h1,h2,h3,⟨ea,ec,h4,h5⟩,h6⟩:=h;exact⟨below_putObj h1 hB _,h2.trans (KX.putObj hk ho),h3.putObj hk ho,⟨ea,ec,h4.ofE (KeepE.putObj hk ho) (fun _ _ h=>h.ofE (KeepE.putObj hk ho) (KeepE.putObj hk ho) (KeepE.putObj hk ho)),(World.putObj_heap_other (ne_of_lo hk ho h5 (hp _))).trans h5⟩,(World.putObj_heap_other (ne_of_lo hk ho h6 id)).trans h6⟩
theorem BdI.below {w0 wL W W':World}{B b7 b8 bb mb N:Nat}{p:Value→Obj}{l:List (Int × List Int × List (List Int))}(hB:B≤W.heap.size) (h:BdI w0 wL B b7 b8 bb mb N p l W) (hb:Below W.heap.size W W'):BdI w0 wL B b7 b8 bb mb N p l W':=by
 obtain⟨h1,h2,h3,⟨ea,ec,h4,h5⟩,h6⟩:=h;exact⟨h1.trans (hb.mono hB),h2.trans (KX.below hb),h3.keep hb,⟨ea,ec,h4.keep (EEx.stab (by decide) (by decide) (by decide)) hb,keptO hb h5⟩,keptO hb h6⟩
theorem wpIn_rfN2 {P:Program}{α:Type}{g:Operand}{ps:Array Tmp}{assign body:Code}{Q:Exit→Act→World→Prop}{a:Act}{w:World}
  {gf:Nat} {lb:Array Value} (hg:a.eval g = .func (.func gf) #[] lb) (eg:∀args w,(callFunc gf args).run P w = .ok (.enter gf args) w)
  {enc:α→Array Value} {R:List α→α→Prop} {S:List α→Prop} {Rd:World→Prop} (hseq:SeqN P gf lb enc R S Rd)
  (hps:∀x,(enc x).size=ps.size)
  (I:List α→World→Prop) (Ix:Code→List α→World→Prop) (hI:∀(pre:List α) (W:World) (k:Nat) (o o':Obj),w.heap.size≤k→Lo o'→I pre W→W.heap[k]? = some o→Lo o→I pre (W.putObj k o')) (hIx:∀(c:Code) (pre:List α) (W:World) (k:Nat) (o o':Obj),w.heap.size≤k→Lo o'→Ix c pre W→W.heap[k]? = some o→Lo o→Ix c pre (W.putObj k o')) (hIa:∀(W:World) (o:Obj),Lo o→I [] W→I [] (W.alloc o))
  (hrd:∀pre W,I pre W→Rd W) (h0:I [] w) (t:α→Array Value→Array Value)
  (hassign:∀(l:Nat) (x:α) (W:World) (K:Act→World→Prop),K { tmps:=t x a.tmps,defers:=[] } W→
   assign.wpIn (Fence.wide.inRound l) 0 P (Exit.then K (fun _ _ _=>False)) { tmps:=(ps.zip (enc x)).foldl (fun t (p,v)=>t.setIfInBounds p v) a.tmps,defers:=[] } W)
  (hbody:∀(l:Nat) (pre:List α) (x:α) (W:World),I pre W→R pre x→body.wpIn (Fence.wide.inRound l) 0 P (bodyN I Ix (pre ++ [x]) W) { tmps:=t x a.tmps,defers:=[] } W)
  (hdone:∀(d:Nat) (xs:List α) (W:World),S xs→I xs W→w.heap.size≤d→W.heap[d]? = some (.deferred (some []))→Q .normal { a with defers:={ target:=.collected d,args:=#[] }::a.defers } W)
  (hstop:∀(d:Nat) (c:Code) (pre:List α) (W:World),Ix c pre W→w.heap.size≤d→W.heap[d]? = some (.deferred (some []))→c.wpIn Fence.wide 0 P Q { a with defers:={ target:=.collected d,args:=#[] }::a.defers } W) :
  (Code.rangeFunc g ps assign body).wpIn Fence.wide 0 P Q a w:=
 wpIn_rfN hg eg hseq hps I Ix hI hIx hIa hrd h0 _ hassign hbody hdone hstop
theorem results_sys {fn:Func}(h:fn.results = #[.cell 2 35,.cell 3 41]) (tmps:Array Value) (w:World) (g1 g2:Nat) (x:Int) {u0 u1 u2 u3 u4 u5 u6 u7 u8 u9:Value}(hp1:tmps.getD 2 undef = .pointer (some ⟨g1,0,none⟩)) (hp2:tmps.getD 3 undef = .pointer (some ⟨g2,0,none⟩))
  (hc1:w.heap[g1]? = some (.cells #[u0,u1,u2,u3,u4,u5,u6,u7,u8,u9] 35)) (hc2:w.cell? ⟨g2,0,none⟩=some (.int .i64 x)) :
  (results fn tmps).run Tryz.prog w = .ok (.tuple #[.agg #[u0,u1,u2,u3,u4,u5,u6,u7,u8,u9],.int .i64 x]) w:=by
 have hp1':tmps[2]?.getD undef = .pointer (some ⟨g1,0,none⟩):=by simpa using hp1
 have hp2':tmps[3]?.getD undef = .pointer (some ⟨g2,0,none⟩):=by simpa using hp2
 obtain⟨⟨z0,z1,z2,z3,z4,z5,z6⟩,z7,z8,z9⟩:=box10' hc1;have a1:=Tryz.isAgg35;have a2:=Tryz.isAgg41;have s1:=Tryz.sizeOf35;have s2:=Tryz.sizeOf41;simp only[results,h];simp[Sem.run_bind,Result.andThen,hp1',hp2',asAddr,loadVar]
 go_simp
theorem storeEnd10 {w:World}{b:Nat}{t:TypeId}{x0 x1 x2 x3 x4 x5 x6 x7 x8 x9 u0 u1 u2 u3 u4 u5 u6 u7 u8 u9:Value}{G:Prop}(h:w.heap[b]? = some (.cells #[x0,x1,x2,x3,x4,x5,x6,x7,x8,x9] t))
  (k:∀W,W=((((((((((w.setCell ⟨b,0,none⟩ u0).setCell ⟨b,1,none⟩ u1).setCell ⟨b,2,none⟩ u2).setCell ⟨b,3,none⟩ u3).setCell ⟨b,4,none⟩ u4).setCell ⟨b,5,none⟩ u5).setCell ⟨b,6,none⟩ u6).setCell ⟨b,7,none⟩ u7).setCell ⟨b,8,none⟩ u8).setCell ⟨b,9,none⟩ u9)→(∀(B:Nat) (w0:World),B≤b→Below B w0 w→Below B w0 W)→KeepX t w W→W.heap[b]? = some (.cells #[u0,u1,u2,u3,u4,u5,u6,u7,u8,u9] t)→(∀k,k ≠ b→W.heap[k]? = w.heap[k]?)→G):G:=by
 obtain⟨W0,e0⟩:=exF (w.setCell ⟨b,0,none⟩ u0);have h0:W0.heap[b]? = some (.cells #[u0,x1,x2,x3,x4,x5,x6,x7,x8,x9] t):=by rw[e0];exact heap_setCell_same w b 0 _ t u0 h
 have k0:KeepX t w W0:=by rw[e0];exact KeepX.trans (KeepX.refl t w) (KeepX.setCell (p:=⟨b,0,none⟩) h u0)
 have b0:∀(B:Nat) (w0:World),B≤b→Below B w0 w→Below B w0 W0:=fun B w0 hB hw=>by rw[e0];exact(hw).setCell (p:=⟨b,0,none⟩) hB _
 have o0:∀k,k ≠ b→W0.heap[k]? = w.heap[k]?:=fun k hk=>by rw[e0];exact(Below.heap_setCell _ ⟨b,0,none⟩ _ k hk)
 obtain⟨W1,e1⟩:=exF (W0.setCell ⟨b,1,none⟩ u1);have h1:W1.heap[b]? = some (.cells #[u0,u1,x2,x3,x4,x5,x6,x7,x8,x9] t):=by rw[e1];exact heap_setCell_same W0 b 1 _ t u1 h0
 have k1:KeepX t w W1:=by rw[e1];exact KeepX.trans k0 (KeepX.setCell (p:=⟨b,1,none⟩) h0 u1)
 have b1:∀(B:Nat) (w0:World),B≤b→Below B w0 w→Below B w0 W1:=fun B w0 hB hw=>by rw[e1];exact(b0 B w0 hB hw).setCell (p:=⟨b,1,none⟩) hB _
 have o1:∀k,k ≠ b→W1.heap[k]? = w.heap[k]?:=fun k hk=>by rw[e1];exact(Below.heap_setCell _ ⟨b,1,none⟩ _ k hk).trans (o0 k hk)
 obtain⟨W2,e2⟩:=exF (W1.setCell ⟨b,2,none⟩ u2);have h2:W2.heap[b]? = some (.cells #[u0,u1,u2,x3,x4,x5,x6,x7,x8,x9] t):=by rw[e2];exact heap_setCell_same W1 b 2 _ t u2 h1
 have k2:KeepX t w W2:=by rw[e2];exact KeepX.trans k1 (KeepX.setCell (p:=⟨b,2,none⟩) h1 u2)
 have b2:∀(B:Nat) (w0:World),B≤b→Below B w0 w→Below B w0 W2:=fun B w0 hB hw=>by rw[e2];exact(b1 B w0 hB hw).setCell (p:=⟨b,2,none⟩) hB _
 have o2:∀k,k ≠ b→W2.heap[k]? = w.heap[k]?:=fun k hk=>by rw[e2];exact(Below.heap_setCell _ ⟨b,2,none⟩ _ k hk).trans (o1 k hk)
 obtain⟨W3,e3⟩:=exF (W2.setCell ⟨b,3,none⟩ u3);have h3:W3.heap[b]? = some (.cells #[u0,u1,u2,u3,x4,x5,x6,x7,x8,x9] t):=by rw[e3];exact heap_setCell_same W2 b 3 _ t u3 h2
 have k3:KeepX t w W3:=by rw[e3];exact KeepX.trans k2 (KeepX.setCell (p:=⟨b,3,none⟩) h2 u3)
 have b3:∀(B:Nat) (w0:World),B≤b→Below B w0 w→Below B w0 W3:=fun B w0 hB hw=>by rw[e3];exact(b2 B w0 hB hw).setCell (p:=⟨b,3,none⟩) hB _
 have o3:∀k,k ≠ b→W3.heap[k]? = w.heap[k]?:=fun k hk=>by rw[e3];exact(Below.heap_setCell _ ⟨b,3,none⟩ _ k hk).trans (o2 k hk)
 obtain⟨W4,e4⟩:=exF (W3.setCell ⟨b,4,none⟩ u4);have h4:W4.heap[b]? = some (.cells #[u0,u1,u2,u3,u4,x5,x6,x7,x8,x9] t):=by rw[e4];exact heap_setCell_same W3 b 4 _ t u4 h3
 have k4:KeepX t w W4:=by rw[e4];exact KeepX.trans k3 (KeepX.setCell (p:=⟨b,4,none⟩) h3 u4)
 have b4:∀(B:Nat) (w0:World),B≤b→Below B w0 w→Below B w0 W4:=fun B w0 hB hw=>by rw[e4];exact(b3 B w0 hB hw).setCell (p:=⟨b,4,none⟩) hB _
 have o4:∀k,k ≠ b→W4.heap[k]? = w.heap[k]?:=fun k hk=>by rw[e4];exact(Below.heap_setCell _ ⟨b,4,none⟩ _ k hk).trans (o3 k hk)
 obtain⟨W5,e5⟩:=exF (W4.setCell ⟨b,5,none⟩ u5);have h5:W5.heap[b]? = some (.cells #[u0,u1,u2,u3,u4,u5,x6,x7,x8,x9] t):=by rw[e5];exact heap_setCell_same W4 b 5 _ t u5 h4
 have k5:KeepX t w W5:=by rw[e5];exact KeepX.trans k4 (KeepX.setCell (p:=⟨b,5,none⟩) h4 u5)
 have b5:∀(B:Nat) (w0:World),B≤b→Below B w0 w→Below B w0 W5:=fun B w0 hB hw=>by rw[e5];exact(b4 B w0 hB hw).setCell (p:=⟨b,5,none⟩) hB _
 have o5:∀k,k ≠ b→W5.heap[k]? = w.heap[k]?:=fun k hk=>by rw[e5];exact(Below.heap_setCell _ ⟨b,5,none⟩ _ k hk).trans (o4 k hk)
 obtain⟨W6,e6⟩:=exF (W5.setCell ⟨b,6,none⟩ u6);have h6:W6.heap[b]? = some (.cells #[u0,u1,u2,u3,u4,u5,u6,x7,x8,x9] t):=by rw[e6];exact heap_setCell_same W5 b 6 _ t u6 h5
 have k6:KeepX t w W6:=by rw[e6];exact KeepX.trans k5 (KeepX.setCell (p:=⟨b,6,none⟩) h5 u6)
 have b6:∀(B:Nat) (w0:World),B≤b→Below B w0 w→Below B w0 W6:=fun B w0 hB hw=>by rw[e6];exact(b5 B w0 hB hw).setCell (p:=⟨b,6,none⟩) hB _
 have o6:∀k,k ≠ b→W6.heap[k]? = w.heap[k]?:=fun k hk=>by rw[e6];exact(Below.heap_setCell _ ⟨b,6,none⟩ _ k hk).trans (o5 k hk)
 obtain⟨W7,e7⟩:=exF (W6.setCell ⟨b,7,none⟩ u7);have h7:W7.heap[b]? = some (.cells #[u0,u1,u2,u3,u4,u5,u6,u7,x8,x9] t):=by rw[e7];exact heap_setCell_same W6 b 7 _ t u7 h6
 have k7:KeepX t w W7:=by rw[e7];exact KeepX.trans k6 (KeepX.setCell (p:=⟨b,7,none⟩) h6 u7)
 have b7:∀(B:Nat) (w0:World),B≤b→Below B w0 w→Below B w0 W7:=fun B w0 hB hw=>by rw[e7];exact(b6 B w0 hB hw).setCell (p:=⟨b,7,none⟩) hB _
 have o7:∀k,k ≠ b→W7.heap[k]? = w.heap[k]?:=fun k hk=>by rw[e7];exact(Below.heap_setCell _ ⟨b,7,none⟩ _ k hk).trans (o6 k hk)
 obtain⟨W8,e8⟩:=exF (W7.setCell ⟨b,8,none⟩ u8);have h8:W8.heap[b]? = some (.cells #[u0,u1,u2,u3,u4,u5,u6,u7,u8,x9] t):=by rw[e8];exact heap_setCell_same W7 b 8 _ t u8 h7
 have k8:KeepX t w W8:=by rw[e8];exact KeepX.trans k7 (KeepX.setCell (p:=⟨b,8,none⟩) h7 u8)
 have b8:∀(B:Nat) (w0:World),B≤b→Below B w0 w→Below B w0 W8:=fun B w0 hB hw=>by rw[e8];exact(b7 B w0 hB hw).setCell (p:=⟨b,8,none⟩) hB _
 have o8:∀k,k ≠ b→W8.heap[k]? = w.heap[k]?:=fun k hk=>by rw[e8];exact(Below.heap_setCell _ ⟨b,8,none⟩ _ k hk).trans (o7 k hk)
 obtain⟨W9,e9⟩:=exF (W8.setCell ⟨b,9,none⟩ u9);have h9:W9.heap[b]? = some (.cells #[u0,u1,u2,u3,u4,u5,u6,u7,u8,u9] t):=by rw[e9];exact heap_setCell_same W8 b 9 _ t u9 h8
 have k9:KeepX t w W9:=by rw[e9];exact KeepX.trans k8 (KeepX.setCell (p:=⟨b,9,none⟩) h8 u9)
 have b9:∀(B:Nat) (w0:World),B≤b→Below B w0 w→Below B w0 W9:=fun B w0 hB hw=>by rw[e9];exact(b8 B w0 hB hw).setCell (p:=⟨b,9,none⟩) hB _
 have o9:∀k,k ≠ b→W9.heap[k]? = w.heap[k]?:=fun k hk=>by rw[e9];exact(Below.heap_setCell _ ⟨b,9,none⟩ _ k hk).trans (o8 k hk)
 exact k W9 (by rw[e9,e8,e7,e6,e5,e4,e3,e2,e1,e0]) b9 k9 h9 o9
theorem storeMid10 {w:World}{b:Nat}{t:TypeId}{x0 x1 x2 x3 x4 x5 x6 x7 x8 x9 u7 u8:Value}{G:Prop}(h:w.heap[b]? = some (.cells #[x0,x1,x2,x3,x4,x5,x6,x7,x8,x9] t))
  (k:∀W,W=((w.setCell ⟨b,7,none⟩ u7).setCell ⟨b,8,none⟩ u8)→(∀(B:Nat) (w0:World),B≤b→Below B w0 w→Below B w0 W)→KeepX t w W→W.heap[b]? = some (.cells #[x0,x1,x2,x3,x4,x5,x6,u7,u8,x9] t)→(∀k,k ≠ b→W.heap[k]? = w.heap[k]?)→G):G:=by
 obtain⟨W7,e7⟩:=exF (w.setCell ⟨b,7,none⟩ u7);have h7:W7.heap[b]? = some (.cells #[x0,x1,x2,x3,x4,x5,x6,u7,x8,x9] t):=by rw[e7];exact heap_setCell_same w b 7 _ t u7 h
 have k7:KeepX t w W7:=by rw[e7];exact KeepX.trans (KeepX.refl t w) (KeepX.setCell (p:=⟨b,7,none⟩) h u7)
 have b7:∀(B:Nat) (w0:World),B≤b→Below B w0 w→Below B w0 W7:=fun B w0 hB hw=>by rw[e7];exact(hw).setCell (p:=⟨b,7,none⟩) hB _
 have o7:∀k,k ≠ b→W7.heap[k]? = w.heap[k]?:=fun k hk=>by rw[e7];exact(Below.heap_setCell _ ⟨b,7,none⟩ _ k hk)
 obtain⟨W8,e8⟩:=exF (W7.setCell ⟨b,8,none⟩ u8);have h8:W8.heap[b]? = some (.cells #[x0,x1,x2,x3,x4,x5,x6,u7,u8,x9] t):=by rw[e8];exact heap_setCell_same W7 b 8 _ t u8 h7
 have k8:KeepX t w W8:=by rw[e8];exact KeepX.trans k7 (KeepX.setCell (p:=⟨b,8,none⟩) h7 u8)
 have b8:∀(B:Nat) (w0:World),B≤b→Below B w0 w→Below B w0 W8:=fun B w0 hB hw=>by rw[e8];exact(b7 B w0 hB hw).setCell (p:=⟨b,8,none⟩) hB _
 have o8:∀k,k ≠ b→W8.heap[k]? = w.heap[k]?:=fun k hk=>by rw[e8];exact(Below.heap_setCell _ ⟨b,8,none⟩ _ k hk).trans (o7 k hk)
 exact k W8 (by rw[e8,e7]) b8 k8 h8 o8
end Go.Proofs.YtcnedkkcgdkioaaGreat
namespace Go.Proofs.YtcnedkkcgdkioaaGreat
open Go.RowKit
theorem exS {α : Sort _} (e : α) : ∃ x, x = e := ⟨e, rfl⟩
def eqV (a : Value) : World → Value → Prop := fun _ v => v = a
def anyV : World → Value → Prop := fun _ _ => True
theorem sE {R : World → World → Prop} {a : Value} (W W' : World) (v : Value) (h : eqV a W v) (_ : R W W') : eqV a W' v := h
theorem openY {P : (Nat → Value) → Prop} (i : Nat) (h : ∀ y ys, P (updG ys i y)) : ∀ ys, P ys := fun ys => by
  have e : updG ys i (ys i) = ys := by
    funext j
    unfold updG
    by_cases k : j = i
    · rw [if_pos k, k]
    · rw [if_neg k]
  rw [← e]; exact h _ _
theorem HasG.get {Φ : List (World → Value → Prop)} {D : Nat → Bool} {W : World} {ys : Nat → Value} (j : Nat) : ∀ {l : List Nat}, HasG Φ D W ys l → l.elem j = true → D j = true ∧ phiG Φ j W (ys j)
  | [], _, h => by simp at h
  | k :: l, h, hj => by
    by_cases e : j = k
    · subst e; exact h.1
    · exact HasG.get j h.2 (by
        have := List.mem_of_elem_eq_true hj
        rcases List.mem_cons.1 this with h1 | h1
        · exact absurd h1 e
        · exact List.elem_eq_true_of_mem h1)
theorem wanted_of {o : Oper} {f : Nat → Option Bool} {j : Nat} (hg : o.guard = some (j, true)) (hy : f j = some true) : Region.wanted o f = true := by simp [Region.wanted, hg, hy]
theorem yielded_of {ops : Array Oper} {tmps : Array Value} {j t : Nat} (h1 : (ops[j]?).bind (·.dst) = some t) (h2 : tmps[t]? = some (.bool true)) : yielded ops tmps j = some true := by simp [yielded, h1, h2]
theorem unwanted_of {o : Oper} {f : Nat → Option Bool} {j : Nat} (hg : o.guard = some (j, true)) (hy : f j = some false) : ¬ Region.wanted o f = true := by simp [Region.wanted, hg, hy]
theorem yielded_no {ops : Array Oper} {tmps : Array Value} {j t : Nat} (h1 : (ops[j]?).bind (·.dst) = some t) (h2 : tmps[t]? = some (.bool false)) : yielded ops tmps j = some false := by simp [yielded, h1, h2]
variable {P : Program} {ops : Array Oper} {F : (Nat → Value) → Act} {Φ : List (World → Value → Prop)} {R : World → World → Prop} {G : (Nat → Bool) → (Nat → Value) → World → Prop} {Q : Exit → Act → World → Prop} {i : Nat} {o : Oper}
theorem StepG.mk (hg : o.guard = none) (h : ∀ (ys : Nat → Value) (D : Nat → Bool) (W : World) (K : Act → World → Prop), D i = false → ClG ops D → HasG Φ D W ys (depsG o) → G D ys W →
    (∀ v W', R W W' → G (addG D i) (updG ys i v) W' → phiG Φ i W' v → K (F (updG ys i v)) W') → Oper.wp P o (F ys) W K Q) : StepG P ops F Φ R G Q i o := by
  intro D ys W K h1 h2 h3 h4 h5
  rw [if_pos (by simp [Region.wanted, hg])]
  exact h ys D W K h1 h2 h3 h4 h5
theorem StepG.mkG (g t : Nat) (h : ∀ (ys : Nat → Value) (D : Nat → Bool) (W : World) (K : Act → World → Prop), D i = false → ClG ops D → HasG Φ D W ys (depsG o) → G D ys W →
    (∀ v W', R W W' → G (addG D i) (updG ys i v) W' → phiG Φ i W' v → K (F (updG ys i v)) W') → Oper.wp P o (F ys) W K Q)
    (hg : o.guard = some (g, true) := by rfl) (ht : (ops[g]?).bind (·.dst) = some t := by rfl) (hF : ∀ ys, (F ys).tmps[t]? = some (ys g) := by exact fun _ => rfl) (hp : ∀ W v, phiG Φ g W v → v = .bool true := by exact fun _ _ h => h) (hd : (depsG o).elem g = true := by rfl) : StepG P ops F Φ R G Q i o := by
  intro D ys W K h1 h2 h3 h4 h5
  rw [if_pos (wanted_of hg (yielded_of ht ((hF ys).trans (congrArg some (hp W _ (h3.get g hd).2)))))]
  exact h ys D W K h1 h2 h3 h4 h5
theorem StepG.skip (g t : Nat) (h : ∀ (ys : Nat → Value) (D : Nat → Bool) (W : World) (K : Act → World → Prop), G D ys W →
    (∀ v W', R W W' → G (addG D i) (updG ys i v) W' → phiG Φ i W' v → K (F (updG ys i v)) W') → K ((F ys).put o.dst undef) W)
    (hg : o.guard = some (g, true) := by rfl) (ht : (ops[g]?).bind (·.dst) = some t := by rfl) (hF : ∀ ys, (F ys).tmps[t]? = some (ys g) := by exact fun _ => rfl) (hp : ∀ W v, phiG Φ g W v → v = .bool false := by exact fun _ _ h => h) (hd : (depsG o).elem g = true := by rfl) : StepG P ops F Φ R G Q i o := by
  intro D ys W K h1 h2 h3 h4 h5
  rw [if_neg (unwanted_of hg (yielded_no ht ((hF ys).trans (congrArg some (hp W _ (h3.get g hd).2)))))]
  exact h ys D W K h4 h5
theorem wp_region_sg {id : Nat} {w : World} {l : List Oper} (hS : StepsG P l.toArray F Φ R G Q l 0) (ys : Nat → Value) (hm : P.follows .mixedOrders = true)
    (hback : backG l = true) (hR : StabG R Φ) (h0 : G (fun _ => false) ys (w.drewN 1)) (hGx : ∀ D D' ys W, (∀ i, i < l.length → D i = D' i) → G D ys W → G D' ys W)
    (hend : ∀ ys W, G (fun i => decide (i < l.length)) ys W → (∀ i, i < l.length → phiG Φ i W (ys i)) → Q .normal (F ys) W) :
    (Code.region id l.toArray true).wp P Q (F ys) w := wp_region_rg F Φ R G ys hm hback hR h0 hGx hS hend
end Go.Proofs.YtcnedkkcgdkioaaGreat
namespace Go.Proofs.YtcnedkkcgdkioaaGreat
open Go.RowKit
theorem wpIn_region_s2 {P:Program}{id l0:Nat}{Q:Exit→Act→World→Prop}{w:World}{l:List Oper}{F:(Nat→Value)→Act}{Φ:List (World→Value→Prop)}{R:World→World→Prop}{G:(Nat→Bool)→(Nat→Value)→World→Prop}(hS:StepsG P l.toArray F Φ R G Q l 0) (ys:Nat→Value) (hm:P.follows .mixedOrders=true) (hd:noDefer l=true) (hQ : ¬LetsOut Q)
  (hback:backG l=true) (hR:StabG R Φ) (h0:G (fun _=>false) ys (w.drewN 1)) (hGx:∀D D' ys W,(∀i,i < l.length→D i=D' i)→G D ys W→G D' ys W)
  (hend:∀ys W,G (fun i=>decide (i < l.length)) ys W→(∀i,i < l.length→phiG Φ i W (ys i))→Q .normal (F ys) W) :
  (Code.region id l.toArray true).wpIn (Fence.wide.inRound l0) 0 P Q (F ys) w:=by
 refine wpIn_region_any hm (anyIn_of_any (noDefer_get hd) hQ _ _ _ _ ?_);refine any_rg hback hR hS hend hGx _ _ (fun _=>false) ys _ (by simp) (fun i hi=>?_) (fun _ _=>rfl) (fun i hi=>by cases hi) h0 (fun j o hj=>by cases hj) ?_
 ·rw[Array.getD_eq_getD_getElem?,List.size_toArray,Array.getElem?_replicate,if_pos hi];rfl
 ·have h1:((List.range l.length).filter fun _=>!false)=List.range l.length:=List.filter_eq_self.2 (fun _ _=>rfl);rw[h1,List.length_range,List.size_toArray]
end Go.Proofs.YtcnedkkcgdkioaaGreat
