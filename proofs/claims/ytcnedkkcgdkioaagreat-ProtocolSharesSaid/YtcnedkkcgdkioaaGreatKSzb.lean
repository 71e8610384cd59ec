/- Texts of this claim, put together: PD PE PF0 PF. -/
import Derived.Test.YtcnedkkcgdkioaaGreatKSza

set_option maxRecDepth 100000
set_option maxHeartbeats 12800000
namespace Go.Proofs.YtcnedkkcgdkioaaGreat
open Go.RowKit
theorem results_cx2 {fn:Func}{k:Nat}(h:fn.results = #[.cell k 57,.tmp (k+1)]) (tmps:Array Value) (w:World) (g1:Nat) {u0 x:Value}(hp1:tmps.getD k undef = .pointer (some ⟨g1,0,none⟩)) (hp2:tmps.getD (k+1) undef=x) (hc1:w.heap[g1]? = some (.cells #[u0] 57)) :
  (results fn tmps).run Tryz.prog w = .ok (.tuple #[.agg #[u0],x]) w:=by
 have hp1':tmps[k]?.getD undef = .pointer (some ⟨g1,0,none⟩):=by simpa using hp1
 have hp2':tmps[k+1]?.getD undef=x:=by simpa using hp2
 have z0:=cell_of_one hc1;have a1:=Tryz.isAgg57;have s1:=Tryz.sizeOf57;simp only[results,h];simp[Sem.run_bind,Result.andThen,hp1',hp2',asAddr,loadVar]
 go_simp
theorem ofC {w:World}{v:Value}{ss:Jc}(hK:KSSC 2 w v ss) (hn:ss.length<=1000) (hv:∀s∈ss,VS s/\SmS s) :
  Calls Tryz.prog 119 #[v] w fun e w'=>∃v',e = .returned (.tuple #[v',.int .i64 0])/\CxO w' v' (cxP ss)/\Below w.heap.size w w':=by
 obtain⟨W1,hW1⟩:=exF (w.alloc (.cells #[.slice none 0 0] 57));have hb1:Below w.heap.size w W1:=by rw[hW1];exact(Below.refl _ w).alloc (Nat.le_refl _) _
 have kR:W1.heap[w.heap.size]? = some (.cells #[.slice none 0 0] 57):=by rw[hW1];exact heap_alloc_new _ _
 have HC:=qH (fun W (hb:Below w.heap.size w W)=>complexOfC (hK.keep hb) hn (fun s h=>(hv s h).1) (fun s h=>(hv s h).2));obtain⟨a,c,b,off,rfl,ha,hc,-⟩:=hK;have hcl:=qH (fun i (hi:i < ss.length)=>hc i hi);have hvl:=qH hv;have hkR:=qH kR;have dn:decide ((4096:Int) < (ss.length:Int))=false:=decide_eq_false (by omega);clear hc hv kR;go_enter Tryz.func119, Tryz.ntmps119
 go_wp2_with fail
 rw[<-hW1];replace hW1:=qH hW1;go_loopw [13] (fun iv wr=>∃i:Nat,iv = .int .i64 i/\i<=ss.length/\Below W1.heap.size W1 wr) (fun iv _=>ss.length - (intOf iv).toNat)
 case atStart=>exact⟨0,rfl,by omega,Below.refl _ _⟩
 case round=>
  obtain⟨i,rfl,hi,hbr⟩:=hrel;by_cases hlt:i < ss.length
  ·have hii:(i:Int) < (ss.length:Int):=(by omega);obtain rfl:=ha (by omega);obtain⟨u,hu,hku⟩:=hcl.out i hlt;have hb2:=btt hb1 hbr;replace hu:=cell_kept hb2 hu;have hz:chkS (ss.getD i [])=0:=chkS_zero (hvl.out _ (by rw[getD_eq hlt];exact List.getElem_mem hlt)).2;obtain⟨s,hs⟩:=exE (ss.getD i []);rw[hs] at hku hz;have hch:=checkS (hku.ks.keep hb2);obtain⟨ua,uc,hue⟩:=hku.shape;rw[hue] at hu hch;rw[hz] at hch;replace hch:=qH hch;clear hz hku hue hs;go_wp2_with fail
   refine hch.out.mono ?_;rintro e w3 ⟨rfl,hb3⟩;go_wp2_with fail
   go_roundw
   case rel=>exact⟨i+1,by go_num,by omega,btt hbr hb3⟩
   case measure=>simp[intOf];omega
  ·obtain rfl:i=ss.length:=(by omega);have HC2:=qH (HC.out wr (btt hb1 hbr));go_wp2_with fail
   refine HC2.out.mono ?_;rintro e w3 ⟨v3,rfl,⟨fa,fc,rfl,hO⟩,hb3⟩;obtain⟨R,hR⟩:=exE (cxP ss);rw[hR] at hO|-;have k3:=keptO (btt hbr hb3) hkR.out;have z3:=cell_of_one k3;have fz:=row_free k3;have hO3:=hO.other EVx.stc (by decide) (KeepX.setCell (p:=⟨w.heap.size,0,none⟩) k3 (.slice fa R.length fc));have m1:=heap_setCell_same w3 w.heap.size 0 _ _ (.slice fa R.length fc) k3;have hbe:=(btt hb1 (btt hbr hb3)).setCell (p:=⟨w.heap.size,0,none⟩) (Nat.le_refl _) (.slice fa R.length fc);replace m1:=qH m1;replace hO3:=qH hO3;clear hO k3;subst hR;go_wp2;exact⟨rfl,_,results_cx2 (k:=2) rfl _ _ _ rfl rfl m1.out,_,rfl,⟨_,_,rfl,hO3.out⟩,hbe⟩
attribute [local go_sem] Oper.semAt_some
theorem wpListIn_rA {F:Fence}{n:Nat}{P:Program}{w w':World}{ops:Array Oper}{rest:List Oper}{o:Oper}{a:Act}{Q:Exit->Act->World->Prop}{v u v':Value}{t:TypeId}
  (hg:o.guard=none) (s x:Operand) (hop:o.op=Op.call { callee:=Callee.builtin Builtin.append,args:=#[s,x],argTypes:=#[t,t] }) (hs:a.eval s=v) (hx:a.eval x=u)
  (hrun:(Builtin.append_ #[t,t] o.type #[v,u]).run P w = .ok v' w') (hK:wpListIn F n P ops Q rest (a.put o.dst v') w'):wpListIn F n P ops Q (o::rest) a w:=by
 refine wpListIn_plain hg fun K hK'=>?_;unfold Oper.wpIn;refine⟨?_,?_⟩
 ·simp[Oper.about,hop,resolve,Target.leads,Sem.run_pure]
 ·rw[Oper.semAt_plain F _ _ (by rw[hop];intro c hc';cases hc')];simp[execOp,hop,resolve,invoke,builtin,hs,hx,hrun,Result.andThen]
  exact hK' _ _ hK
def ClI (w:World) (B:Nat) (pre:List Sv) (W:World):Prop:=
 ∃oa oc,OwX 38 1 EVx W B (.slice oa pre.length oc) pre.length (pre.map Prod.snd)/\W.heap[w.heap.size]? = some (.cells #[.slice oa pre.length oc] 55)/\Below w.heap.size w W/\B<=W.heap.size
theorem ClI.keep {w:World}{B:Nat}{pre:List Sv}{W W':World}(h:ClI w B pre W) (hb:Below W.heap.size W W'):ClI w B pre W':=by
 obtain⟨oa,oc,h1,h2,h3,h4⟩:=h;exact⟨oa,oc,h1.keep EVx.stb hb,keptO hb h2,btt h3 hb,Nat.le_trans h4 hb.size⟩
theorem ClI.putObj {w:World}{B:Nat}{pre:List Sv}{W:World}{k:Nat}{o o':Obj}(h:ClI w B pre W) (hk:w.heap.size<=k) (hq:W.heap[k]? = some o) (ho:Lo o):ClI w B pre (W.putObj k o'):=by
 obtain⟨oa,oc,h1,h2,h3,h4⟩:=h;exact⟨oa,oc,h1.other (E':=57) EVx.stc (by decide) (KeepX.putObjLo hq ho),(World.putObj_heap_other (ne_of_lo hq ho h2 id)).trans h2,below_putObj h3 hk _,by simpa using h4⟩
theorem svR.putObj {L:Jc}{pre:List Sv}{x:Sv}{W:World}{k:Nat}{o o':Obj}(h:svR L pre x W) (hq:W.heap[k]? = some o) (ho:Lo o):svR L pre x (W.putObj k o'):=
 ⟨h.1.other (E':=57) (EI.stab _) (by decide) (KeepX.putObjLo hq ho),h.2⟩
theorem svRd.keep {b1 b2 xc:Nat}{xa:Option Addr}{xs:List Ex}{idx:Int}{W W':World}(h:svRd b1 b2 xa xc xs idx W) (hb:Below W.heap.size W W'):svRd b1 b2 xa xc xs idx W':=
 ⟨cell_kept hb h.1,cell_kept hb h.2.1,h.2.2.keep hb⟩
theorem appendSeqC {w:World}{b1 b2 xc n r:Nat}{xa:Option Addr}{xs:List Ex}{idx:Int}(hn1:1<=n) (hn:n<=5) (hr9:r<=10) (hx:∀x∈xs,ExG n r x) (hxl:xs.length<=100000) (hrd:svRd b1 b2 xa xc xs idx w) :
  Calls Tryz.prog 181 #[.slice none 0 0,.func (.func 115) #[] #[.pointer (some ⟨b1,0,none⟩),.pointer (some ⟨b2,0,none⟩)]] w fun e w'=>
   ∃v,e = .returned v/\OwX 38 1 EVx w' 0 v (simsN n r xs idx).length (simsN n r xs idx)/\Below w.heap.size w w':=by
 obtain⟨W1,hW1⟩:=exF (w.alloc (.cells #[.slice none 0 0] 55));have hb1:Below w.heap.size w W1:=by rw[hW1];exact(Below.refl _ w).alloc (Nat.le_refl _) _
 have hs1:W1.heap.size=w.heap.size+1:=by rw[hW1];simp
 have kR:W1.heap[w.heap.size]? = some (.cells #[.slice none 0 0] 55):=by rw[hW1];exact heap_alloc_new _ _
 have hI0:ClI w W1.heap.size [] W1:=⟨none,0,OwX.nil _ _,kR,hb1,Nat.le_refl _⟩;have hseq:=simSeq (b1:=b1) (b2:=b2) (xc:=xc) (xa:=xa) (idx:=idx) hn1 hn hr9 hx hxl;obtain⟨L,hL⟩:=exE (simsN n r xs idx);have hLl:L.length<=100000:=by rw[<-hL];exact Nat.le_trans simsN_len hxl
 rw[hL] at hseq|-;replace hs1:=qH hs1;clear kR hx;refine callsIn_wide.1 (callsIn_of_wp_marks (n:=0) Tryz.func181 rfl trivial ?_);simp only[Tryz.ntmps181,List.size_toArray,List.length_cons,List.length_nil,Nat.reduceAdd,Nat.reduceSub,Array.replicate_succ,Array.replicate_zero,List.push_toArray,List.append_toArray,List.nil_append,List.cons_append];refine wpIn_wide.2 ?_;go_wp2_with fail
 rw[<-hW1];replace hW1:=qH hW1
 refine wpIn_wide.1 (wpIn_rfA (gf:=115) (lb:=#[.pointer (some ⟨b1,0,none⟩),.pointer (some ⟨b2,0,none⟩)]) rfl (enters_of Tryz.func115 (by kernel_rfl) rfl) hseq (fun _=>rfl)
  (ClI w W1.heap.size) (fun _ _ _=>False) (fun pre W k o o' hk _ h hq ho=>h.putObj (by have:=hs1.out;omega) hq ho) (fun _ _ _ _ _ _ _ _ h _ _=>h) (fun pre W W' h hb=>h.keep hb) (fun pre x W k o o' hk _ h hq ho=>h.putObj hq ho)
  (fun pre W h=>?rd) hI0 (fun x t=>(t.setIfInBounds 7 x.1).setIfInBounds 5 x.1) ?assign ?body ?done ?stop)
 case rd=>
  obtain⟨_,_,_,_,hb,_⟩:=h;exact hrd.keep hb
 case assign=>
  intro l x W K hK;simp only[List.setIfInBounds_toArray,List.set_cons_succ,List.set_cons_zero] at hK;simp only[svEnc];gi_wp2;exact hK
 case body=>
  rintro l pre ⟨xv,x⟩ W hI ⟨hO,h0,rest,hrest⟩;simp only at hO h0 hrest
  obtain⟨oa,oc,hrow,hbx,hbw,hBs⟩:=hI;obtain⟨sa,sc,hsh⟩:=hO.shape;subst hsh;simp only[List.setIfInBounds_toArray,List.set_cons_succ,List.set_cons_zero]
  have hpl:pre.length<=100000:=by
   have:=congrArg List.length hrest
   rw[List.length_append,List.length_map,List.length_cons] at this;omega
  obtain⟨W2,hW2⟩:=exF (W.alloc (.cells #[.slice sa x.length sc] 38));have hb2:Below W.heap.size W W2:=by rw[hW2];exact(Below.refl _ W).alloc (Nat.le_refl _) _
  have kN:W2.heap[W.heap.size]? = some (.cells #[.slice sa x.length sc] 38):=by rw[hW2];exact heap_alloc_new _ _
  have hEl:EVx W2 [.slice sa x.length sc] x:=⟨_,_,rfl,hO.keep (EI.stab _) hb2⟩
  obtain⟨v',w3,happ,hO3,hg3,-,hb3,hx3⟩:=run_appX (P:=Tryz.prog) (ty:=55) elemVs (by decide) (by decide) EVx.stb (hrow.keep EVx.stb hb2) ⟨W.heap.size,0,none⟩ 1 rfl (fun j u hj=>by
   match j,hj with
   | 0,hj=>
    simp only[List.getElem?_cons_zero,Option.some.injEq] at hj;subst hj;exact cell_of_one kN
   | j+1,hj=>simp at hj) (fun u hu=>by rw[List.mem_singleton.1 hu];rfl) hEl (by omega) (Nat.le_trans hBs hb2.size)
  have hbx2:=keptO hb2 hbx;have hbx3:=(hb3.block _ (by have:=hs1.out;omega)).trans hbx2;have c0:=cell_of_one hbx;have c3:=cell_of_one hbx3;have f3:=row_free hbx3;obtain⟨oa',oc',hsh⟩:=hO3.shape;subst hsh;have hrow':∃j,pre.length<=j/\j<=pre.length:=⟨_,Nat.le_refl _,Nat.le_refl _⟩
  have hfin:ClI w W1.heap.size (pre ++ [(.slice sa x.length sc,x)]) (w3.setCell ⟨w.heap.size,0,none⟩ (.slice oa' (pre.length+1) oc')):=by
   refine⟨oa',oc',?_,?_,?_,?_⟩
   ·rw[List.map_append,List.length_append];exact hO3.other (E':=55) (EVx.stab (by decide)) (by decide) (KeepX.setCell (p:=⟨w.heap.size,0,none⟩) hbx3 _)
   ·rw[List.length_append];exact heap_setCell_same w3 w.heap.size 0 _ _ _ hbx3
   ·exact(((btt hbw hb2)).trans (hb3.mono (by have:=hs1.out;omega))).setCell (p:=⟨w.heap.size,0,none⟩) (Nat.le_refl _) _
   ·simp only[World.size_setCell];exact Nat.le_trans (Nat.le_trans hBs hb2.size) hb3.size
  have hKL:KeepL W (w3.setCell ⟨w.heap.size,0,none⟩ (.slice oa' (pre.length+1) oc')):=
   ((KeepL.below hb2).trans (KeepL.grown hg3 fun g hg=>by
    obtain⟨vs,q1,_⟩:=hrow.keep EVx.stb hb2;obtain⟨cs,hc⟩:=ownsRow_ty q1 g hg;exact⟨cs,_,hc⟩)).trans (KeepL.setCell (p:=⟨w.heap.size,0,none⟩) hbx3 _)
  have hfin:=qH hfin;rw[hW2] at happ;clear hO3 hrow hO hEl hbx hbx2 kN;gi_wp2_with (refine wpListIn_rA rfl _ _ rfl rfl rfl happ ?_)
  exact⟨hKL,hfin.out⟩
 case done=>
  intro d ys W hS hI hd hdef;obtain⟨oa,oc,hrow,hbx,hbw,hBs⟩:=hI;have c0:=cell_of_one hbx;have hyl:ys.length=L.length:=by rw[<-hS,List.length_map]
  have hrow2:=(hrow.base (Nat.zero_le _)).other (E':=57) EVx.stc (by decide) (KeepX.putObjLo (o':=.deferred none) hdef trivial);have hbF:Below w.heap.size w (W.putObj d (.deferred none)):=below_putObj hbw (by have:=hs1.out;omega) _;rw[hS,hyl] at hrow2;rw[hyl] at c0;replace hrow2:=qH hrow2;clear hrow hbx hS hyl;go_wp2;refine⟨by simp,.inl ⟨_,_,rfl,run_takeDeferred hdef,?_⟩⟩;exact⟨_,results_tmp (t:=4) rfl _ _ _,_,rfl,hrow2.out,hbF⟩
 case stop=>intro d c pre W h;exact absurd h id
theorem collectC {w:World}{b1 b2 xc n r:Nat}{xa:Option Addr}{xs:List Ex}{idx:Int}(hn1:1<=n) (hn:n<=5) (hr9:r<=10) (hx:∀x∈xs,ExG n r x) (hxl:xs.length<=100000) (hrd:svRd b1 b2 xa xc xs idx w) :
  Calls Tryz.prog 120 #[.func (.func 115) #[] #[.pointer (some ⟨b1,0,none⟩),.pointer (some ⟨b2,0,none⟩)]] w fun e w'=>
   ∃v,e = .returned v/\OwX 38 1 EVx w' 0 v (simsN n r xs idx).length (simsN n r xs idx)/\Below w.heap.size w w':=by
 have HA:=qH (appendSeqC hn1 hn hr9 hx hxl hrd);go_enter Tryz.func120, Tryz.ntmps120
 go_wp2_with fail
 refine HA.out.mono ?_;rintro e w1 ⟨v,rfl,h1,h2⟩;go_wp2;go_ret;exact⟨_,rfl,h1,h2⟩
structure SysG (n r:Nat) (vs:Jb) (xs:List Ex):Prop where
 ok:∀x∈xs,ExOK n r vs x
 ex:∀x∈xs,ExG n r x
 n1:1<=n
 n5:n<=5
 r9:r<=10
 vl:vs.length<=100000
 xl:xs.length<=60
 tab:TabOK n vs
theorem wholeC {w:World}{v:Value}{i o an rr tn idx:Int}{N k:Nat}{cs:List Cs}{ss:Jc}{vs:Jb}{xs:List Ex}{nn:Int}(h:SysV w v nn i o cs an ss rr tn vs xs) (hG:SysG N k vs xs) :
  Calls Tryz.prog 67 #[v,.int .i64 idx] w fun e w'=>∃v',e = .returned (.tuple #[v',.int .i64 0])/\CxO w' v' (maxX (simsX N k xs idx))/\Below w.heap.size w w':=by
 obtain⟨a,c,a',c',va,vc,xa,xc,rfl,hP,hV,hX⟩:=h;rw[<-simsN_max];obtain⟨VA,hVA⟩:∃VA:Array Value,VA = #[.int .i64 nn,.int .i64 i,.int .i64 o,.slice a cs.length c,.int .i64 an,.slice a' ss.length c',.int .i64 rr,.int .i64 tn,.slice va vs.length vc,.slice xa xs.length xc]:=⟨_,rfl⟩;obtain⟨W1,hW1⟩:=exF ((w.alloc (.cells VA 35)).alloc (.cells #[.slice none 0 0] 57));have hb1:Below w.heap.size w W1:=by rw[hW1];exact((Below.refl _ w).alloc (Nat.le_refl _) _).alloc (by simp) _
 have kR:W1.heap[w.heap.size+1]? = some (.cells #[.slice none 0 0] 57):=by
  rw[hW1];have:=heap_alloc_new (w.alloc (.cells VA 35)) (.cells #[.slice none 0 0] 57)
  rwa [World.size_alloc] at this
 have kS:W1.heap[w.heap.size]? = some (.cells VA 35):=by
  rw[hW1];exact(Below.heap_alloc _ _ _ (by simp)).trans (heap_alloc_new w _)
 obtain⟨L,hL⟩:=exE (simsN N k xs idx);have hLl:L.length<=1000:=by rw[<-hL];exact Nat.le_trans (Nat.le_trans simsN_len hG.xl) (by decide)
 have hLs:∀s∈L,VS s/\SmS s:=by rw[<-hL];exact simsN_sm hG.ok hG.n5 hG.vl
 have HC:Hid (∀W,Below w.heap.size w W->∀b1 b2,svRd b1 b2 xa xc xs idx W->_):=fun W hb b1 b2 hrd=>collectC (w:=W) (b1:=b1) (b2:=b2) hG.n1 hG.n5 hG.r9 hG.ex (by have:=hG.xl;omega) hrd;rw[hL] at HC|-;have hXh:=qH (fun W (hb:Below w.heap.size w W)=>hX.keep hb);have hkR:=qH kR;obtain⟨⟨z0,z1,z2,z3,z4,z5,z6⟩,z7,z8,z9⟩:=box10' (by rw[hVA] at kS;exact kS);rw[hVA] at hW1;rw[hW1] at z0 z1 z2 z3 z4 z5 z6 z7 z8 z9;replace hLs:=qH hLs;clear hP hV hX hG hL kR kS;go_enter Tryz.func67, Tryz.ntmps67
 go_wp2_with fail
 rw[<-hW1];replace hW1:=qH hW1;refine(simplicesC rfl).mono ?_;rintro e w2 ⟨rfl,hw2⟩;have hb2:Below W1.heap.size W1 w2:=by rw[hw2];exact((Below.refl _ W1).alloc (Nat.le_refl _) _).alloc (by simp) _
 have kS:=heap_alloc_new W1 (.cells #[.int .i64 nn,.int .i64 i,.int .i64 o,.slice a cs.length c,.int .i64 an,.slice a' ss.length c',.int .i64 rr,.int .i64 tn,.slice va vs.length vc,.slice xa xs.length xc] 35);replace kS:=(Below.heap_alloc _ (.cells #[.int .i64 idx] 3) _ (by simp)).trans kS;rw[<-hw2] at kS
 have kI:w2.heap[W1.heap.size+1]? = some (.cells #[.int .i64 idx] 3):=by
  rw[hw2];have:=heap_alloc_new (W1.alloc (.cells #[.int .i64 nn,.int .i64 i,.int .i64 o,.slice a cs.length c,.int .i64 an,.slice a' ss.length c',.int .i64 rr,.int .i64 tn,.slice va vs.length vc,.slice xa xs.length xc] 35)) (.cells #[.int .i64 idx] 3)
  rwa [World.size_alloc] at this
 have hb12:=btt hb1 hb2;have hrd:svRd W1.heap.size (W1.heap.size+1) xa xc xs idx w2:=⟨(box10' kS).2.2.2,cell_of_one kI,hXh.out w2 hb12⟩;have HC2:=qH (HC.out w2 hb12 _ _ hrd);clear z0 z1 z2 z3 z4 z5 z6 z7 z8 z9 kS kI;replace hw2:=qH hw2;go_wp2_with fail
 refine HC2.out.mono ?_;rintro e w3 ⟨v3,rfl,hO3,hb3⟩;have hb13:=btt hb12 hb3;have hK3:=hO3.kssc (by omega) (fun x hx=>by have:=((hLs.out x hx).2).2.1;omega);have HO:=qH (ofC hK3 hLl hLs.out);clear hO3 hK3;go_wp2_with fail
 refine HO.out.mono ?_;rintro e w4 ⟨v4,rfl,⟨fa,fc,rfl,hO⟩,hb4⟩;have k4:=keptO (btt hb2 (btt hb3 hb4)) hkR.out;have z4:=cell_of_one k4;have fz:=row_free k4;obtain⟨R,hR⟩:=exE (cxP L);rw[hR] at hO|-;have hO4:=hO.other EVx.stc (by decide) (KeepX.setCell (p:=⟨w.heap.size+1,0,none⟩) k4 (.slice fa R.length fc));have m1:=heap_setCell_same w4 (w.heap.size+1) 0 _ _ (.slice fa R.length fc) k4;have hbe:=(btt hb13 hb4).setCell (p:=⟨w.heap.size+1,0,none⟩) (Nat.le_succ _) (.slice fa R.length fc);replace m1:=qH m1;replace hO4:=qH hO4;replace hR:=qH hR;clear hO k4;go_wp2;have hR2:=hR.out;clear hR;subst hR2;exact⟨rfl,_,results_cx2 (k:=4) rfl _ _ _ rfl rfl m1.out,_,rfl,⟨_,_,rfl,hO4.out⟩,hbe⟩
end Go.Proofs.YtcnedkkcgdkioaaGreat
namespace Go.Proofs.YtcnedkkcgdkioaaGreat
theorem hGo_self {n:Int}:∀ {hs:List Int}{p:Int}{j:Nat},hGo n p hs=0->j < hs.length->p+j < n->hasI (hs.getD j 0) (p+j)=true
 | [],_,_,_,h,_=>absurd h (Nat.not_lt_zero _)
 | x::r,p,j,h,hj,hn=>by
  rw[hGo] at h;split at h
  ·rename_i h1;exact absurd h h1
  ·rename_i h1
   have h1:=Classical.not_not.1 h1;cases j with
   | zero=>
    rw[hErr,if_neg (by omega)] at h1;split at h1
    ·cases h1
    ·split at h1
     ·rename_i h2;simpa using h2
     ·cases h1
   | succ j=>
    have:=hGo_self (j:=j) h (by simpa using hj) (by omega)
    rw[show p+1+(j:Int)=p+((j+1:Nat):Int) by omega] at this;simpa using this
theorem mv_self {n:Int}{ss:Jc}(h8:∀s∈ss,∀m∈s,m.length=8) (h0:chkA n ss=0) {s:Jb}(hs:s∈ss) {m:List Int}(hm:m∈s):(∀p:Nat,(p:Int) < n->hasI ((rdOf m).getD (1+p) 0) (p:Int)=true):=by
 obtain⟨⟨_,n5⟩,_,h1,_⟩:=chkA_facts h0;have h2:=ssGo_zero h1 s hs;unfold stErr at h2;split at h2
 ·cases h2
 ·obtain⟨i,hi,rfl⟩:=List.mem_iff_getElem.1 hm;obtain⟨h3,h4,_⟩:=mvErr_zero (mvGo_zero h2 i (Nat.zero_le _) (by omega));rw[getD_eq hi] at h3 h4;have h9:=h8 s hs _ hm
  obtain⟨q0,q1,q2,q3,q4,q5,q6,q7,he⟩:∃a b c d e f g h,s[i] = [a,b,c,d,e,f,g,h]:=by
   revert h9
   generalize s[i]=z
   intro h9;match z,h9 with
   | [a,b,c,d,e,f,g,h],_=>exact⟨a,b,c,d,e,f,g,h,rfl⟩
  rw[he] at h3 h4|-;intro p hp
  have hg:chkGr q0 [q1,q2,q3,q4,q5]=0:=by
   unfold chkRd at h3;split at h3
   ·rename_i h5;exact absurd h3 h5
   ·rename_i h5;exact Classical.not_not.1 h5
  unfold chkGr at hg;split at hg
  ·cases hg
  ·have h4:q0=n:=h4;have:=hGo_self (j:=p) hg (by show p < 5;omega) (by omega)
   rw[Int.zero_add] at this;show hasI ([q0,q1,q2,q3,q4,q5,q6].getD (1+p) 0) (p:Int)=true;have h5:p=0\/p=1\/p=2\/p=3\/p=4:=(by omega);rcases h5 with rfl|rfl|rfl|rfl|rfl<;>exact this
theorem wL_self {n:Int}{ss:Jc}(h8:∀s∈ss,∀m∈s,m.length=8) (h0:chkA n ss=0) {N:Nat}(hN:n=(N:Int)):∀(k s:Nat) (wd:Jb),wd∈wL ss k s->SelfW N wd
 | 0,_,wd,h,j,hj,_,_=>by
  rw[wL,List.mem_singleton] at h;subst h;cases hj
 | k+1,s,wd,h,j,hj,p,hp=>by
  rw[wL] at h;obtain⟨m,hm,h⟩:=List.mem_flatMap.1 h;obtain⟨w',hw',rfl⟩:=List.mem_map.1 h;cases j with
  | zero=>
   by_cases hs:s < ss.length
   ·rw[getD_eq hs] at hm;exact mv_self h8 h0 (List.getElem_mem hs) hm p (by omega)
   ·rw[List.getD_eq_getElem?_getD,List.getElem?_eq_none (by omega)] at hm;cases hm
  | succ j=>exact wL_self h8 h0 hN k _ w' hw' j (by simpa using hj) p hp
theorem bldE_zero {n i o:Int}{cs:List Cs}{an:Int}{ss:Jc}{r:Int}(h:bldE n i o cs an ss r=0) (hfew:fewP n i o cs an ss r=true):chkP n i o cs an ss r=0/\fewA ss=true/\fewT cs=true/\numP cs ss r.toNat<=60:=by
 unfold bldE at h
 have hc:chkP n i o cs an ss r=0:=by
  by_cases hc:chkP n i o cs an ss r=0
  ·exact hc
  ·rw[if_pos hc] at h;exact absurd h hc
 rw[if_neg (fun k=>k hc)] at h;unfold fewP at hfew;simp only[Bool.and_eq_true,Bool.or_eq_true,decide_eq_true_eq] at hfew;obtain⟨h1,h2,_,h3⟩:=hfew;refine⟨hc,h2,h1,?_⟩;rcases h3 with h3|h3|h3
 ·exact absurd hc h3
 ·exact h3
 ·rw[if_pos h3] at h;cases h
theorem sysG_of {w:World}{n i o:Int}{cs:List Cs}{an:Int}{ss:Jc}{r:Int}{sv:Value}(hA:AdvV w sv an ss) (h:bldE n i o cs an ss r=0) (hfew:fewP n i o cs an ss r=true) :
  n=(n.toNat:Int)/\r=(r.toNat:Int)/\r.toNat<=6/\SysG n.toNat r.toNat (sysP n.toNat cs (wL ss r.toNat 0)).1 (sysP n.toNat cs (wL ss r.toNat 0)).2:=by
 obtain⟨hc,hfa,hft,hn⟩:=bldE_zero h hfew;obtain⟨c1,c2,c3,c4,c5⟩:=chkP_zero hc;obtain⟨l1,l2⟩:=chkT_len c1;obtain⟨⟨n1,n5⟩,hin⟩:=task_in c1;have hO:=(chk_cls hA hfa c2).wd;obtain⟨cm1,cm2,cm3⟩:=cnt_small (LeadOK.ofWd hO) hO.2.2.1 l1 hn;have h8:=hA.len8;have hwn:=wL_len ss r.toNat 0;have hN:n=(n.toNat:Int):=by omega
 have hk:r=(r.toNat:Int):=by omega
 obtain⟨N,hNe⟩:=exE (n.toNat);obtain⟨k,hke⟩:=exE (r.toNat);rw[hNe] at hN|-;rw[hke] at hk hwn cm3|-;have hwe:=wL_each ss k 0;have hwb:=wL_bd h8 c2 k 0;have hws:=wL_self h8 c2 (N:=N) (by omega) k 0;obtain⟨ws,hwse⟩:=exE (wL ss k 0);rw[hwse] at hwn hwe hwb hws|-;have hpl:(pairsP cs ws).length<=60:=by rw[pairsP_len,hwn];exact cm3
 have hpr:∀x∈pairsP cs ws,x.2.2.length=k/\SelfW N x.2.2:=fun x hx=>⟨hwe _ (pairsP_word hx),hws _ (pairsP_word hx)⟩;obtain⟨t1,t2⟩:=exeL_ok (n:=N) (r:=k) (by omega) (pairsP cs ws) [] (fun v hv=>by cases hv) hpr;refine⟨hN,hk,by omega,t2,fun x hx=>?_,by omega,by omega,by omega,?_,?_,t1⟩
 ·obtain⟨⟨y,hy,he⟩,h2,h3⟩:=exeL_bd N _ _ x hx;have hk2:x.2.1.length=k:=by rw[he];exact(hpr y hy).1
  have hfl:0<=fltX x/\fltX x<=31:=by
   unfold fltX;split
   ·exact⟨by decide,by decide⟩
   ·exact wd_bd (by rw[he];exact hwb _ (pairsP_word hy)) _ 6
  refine⟨by omega,by omega,?_,hfl.1,hfl.2⟩;rw[getD_eq (show k < x.2.2.length by omega)];exact h3 _ (List.getElem_mem _)
 ·have h1:=exeL_le N (K:=k) (pairsP cs ws) [] (fun x hx=>Nat.le_of_eq (hpr x hx).1);have h2:(pairsP cs ws).length * (N * (k+1))<=60 * (5 * 7):=Nat.mul_le_mul hpl (Nat.mul_le_mul (by omega) (by omega));simp only[List.length_nil] at h1;show(exeL N [] (pairsP cs ws)).1.length<=_
  omega
 ·show(exeL N [] (pairsP cs ws)).2.length<=_
  rw[exeL_len];omega
theorem verE_zero {n i o:Int}{cs:List Cs}{an:Int}{ss:Jc}{r tn:Int}{vs:Jb}{xs:List Ex}(h:verE n i o cs an ss r tn vs xs=0):bldE n i o cs an ss r=0/\tn=n/\vs=(sysP n.toNat cs (wL ss r.toNat 0)).1/\xs=(sysP n.toNat cs (wL ss r.toNat 0)).2:=by
 unfold verE at h;by_cases hb:bldE n i o cs an ss r=0
 ·rw[if_neg (fun k=>k hb)] at h;split at h
  ·rename_i h2;exact⟨hb,h2⟩
  ·cases h
 ·rw[if_pos hb] at h;exact absurd h hb
theorem sysG_ver {w:World}{v:Value}{n i o an r tn:Int}{cs:List Cs}{ss:Jc}{vs:Jb}{xs:List Ex}(hS:SysV w v n i o cs an ss r tn vs xs) (hfew:fewP n i o cs an ss r=true) (h:verE n i o cs an ss r tn vs xs=0) :
  tn=n/\n=(n.toNat:Int)/\r=(r.toNat:Int)/\r.toNat<=6/\SysG n.toNat r.toNat vs xs:=by
 obtain⟨h1,h2,h3,h4⟩:=verE_zero h;obtain⟨_,_,_,_,_,_,_,_,_,⟨_,_,_,_,_,_,hA⟩,_⟩:=hS;obtain⟨g1,g2,g3,g4⟩:=sysG_of hA h1 hfew;rw[<-h3,<-h4] at g4;exact⟨h2,g1,g2,g3,g4⟩
end Go.Proofs.YtcnedkkcgdkioaaGreat
namespace Go.Proofs.YtcnedkkcgdkioaaGreat
open Go.RowKit
theorem row_free0 {w:World}{b:Nat}{cs:Array Value}{t:TypeId}(h:w.heap[b]? = some (.cells cs t)):w.frozen? ⟨b,0,none⟩=false:=row_free h 0
theorem endCx {w W:World}{b fc:Nat}{u:Value}{fa:Option Addr}{fs:Jc}(k:W.heap[b]? = some (.cells #[u] 57)) (hO:OwX 38 1 EVx W 0 (.slice fa fs.length fc) fs.length fs) (hb:Below w.heap.size w W) (hw:w.heap.size<=b) :
  W.cell? ⟨b,0,none⟩=some u/\W.frozen? ⟨b,0,none⟩=false/\(W.setCell ⟨b,0,none⟩ (.slice fa fs.length fc)).heap[b]? = some (.cells #[.slice fa fs.length fc] 57)/\
   Hid (CxO (W.setCell ⟨b,0,none⟩ (.slice fa fs.length fc)) (.agg #[.slice fa fs.length fc]) fs/\Below w.heap.size w (W.setCell ⟨b,0,none⟩ (.slice fa fs.length fc))):=
 ⟨cell_of_one k,row_free0 k,heap_setCell_same W b 0 _ _ _ k,⟨_,_,rfl,hO.other EVx.stc (by decide) (KeepX.setCell (p:=⟨b,0,none⟩) k _)⟩,hb.setCell (p:=⟨b,0,none⟩) hw _⟩
theorem sysBox (w:World) (VA:Array Value):∃W1,W1=(w.alloc (.cells VA 35)).alloc (.cells #[.slice none 0 0] 57)/\Below w.heap.size w W1/\W1.heap[w.heap.size]? = some (.cells VA 35)/\W1.heap[w.heap.size+1]? = some (.cells #[.slice none 0 0] 57):=by
 refine⟨_,rfl,((Below.refl _ w).alloc (Nat.le_refl _) _).alloc (by simp) _,(Below.heap_alloc _ _ _ (by simp)).trans (heap_alloc_new w _),?_⟩;have:=heap_alloc_new (w.alloc (.cells VA 35)) (.cells #[.slice none 0 0] 57)
 rwa [World.size_alloc] at this
theorem protComplex {w:World}{v:Value}{n i o an r tn:Int}{cs:List Cs}{ss:Jc}{vs:Jb}{xs:List Ex}(h:SysV w v n i o cs an ss r tn vs xs) (hfew:fewP n i o cs an ss r=true) :
  Calls Tryz.prog 19 #[v] w fun e w'=>∃v',e = .returned (.tuple #[v',.int .i64 (verE n i o cs an ss r tn vs xs)])/\CxO w' v' (if verE n i o cs an ss r tn vs xs=0 then maxX (simsX n.toNat r.toNat xs (-1)) else [])/\Below w.heap.size w w':=by
 have HV:=qH (fun W (hb:Below w.heap.size w W)=>verifyC (h.keep hb) hfew);have HG:=sysG_ver h hfew;have HW:=qH (fun W (hb:Below w.heap.size w W) hG=>wholeC (idx:=-1) (N:=n.toNat) (k:=r.toNat) (h.keep hb) hG);obtain⟨E,hE⟩:=exE (verE n i o cs an ss r tn vs xs);rw[hE] at HV HG|-;obtain⟨a,c,a',c',va,vc,xa,xc,rfl,-⟩:=h;obtain⟨W1,hW1,hb1,kS,kR⟩:=sysBox w #[.int .i64 n,.int .i64 i,.int .i64 o,.slice a cs.length c,.int .i64 an,.slice a' ss.length c',.int .i64 r,.int .i64 tn,.slice va vs.length vc,.slice xa xs.length xc];have HK:=qH (fun W (hb:Below W1.heap.size W1 W)=>And.intro (keep7 hb (box10' kS).1) (keep3' hb (box10' kS).2));obtain⟨⟨p0,p1,p2,p3,p4,p5,p6⟩,p7,p8,p9⟩:=HK.out W1 (Below.refl _ _);rw[hW1] at p0 p1 p2 p3 p4 p5 p6 p7 p8 p9;have hkR:=qH kR;replace hE:=qH hE;obtain⟨R,hR⟩:∃R,(if E=0 then maxX (simsX n.toNat r.toNat xs (-1)) else [])=R:=⟨_,rfl⟩;rw[hR];clear kS kR;go_enter Tryz.func19, Tryz.ntmps19
 go_wp2_with fail
 rw[<-hW1];replace hW1:=qH hW1;refine(HV.out W1 hb1).mono ?_;rintro e w2 ⟨rfl,hb2⟩;clear p0 p1 p2 p3 p4 p5 p6 p7 p8 p9;by_cases hz:E=0
 ·subst hz;obtain⟨-,-,-,-,hG⟩:=HG rfl;rw[if_pos rfl] at hR;obtain⟨⟨p0,p1,p2,p3,p4,p5,p6⟩,p7,p8,p9⟩:=HK.out w2 hb2;have HW2:=qH (HW.out w2 (btt hb1 hb2) hG);rw[hR] at HW2;clear hR hG HG;go_wp2_with fail
  refine HW2.out.mono ?_;rintro e w4 ⟨v4,rfl,⟨fa,fc,rfl,hO⟩,hb4⟩;obtain⟨z4,fz,m1,hend⟩:=endCx (w:=w) (keptO (btt hb2 hb4) hkR.out) hO (btt (btt hb1 hb2) hb4) (Nat.le_succ _);replace m1:=qH m1;clear hO p0 p1 p2 p3 p4 p5 p6 p7 p8 p9;go_wp2;exact⟨rfl,_,results_cx2 (k:=2) rfl _ _ _ rfl rfl m1.out,_,rfl,hend.out.1,hend.out.2⟩
 ·rw[if_neg hz] at hR;subst hR;obtain⟨z4,fz,m1,hend⟩:=endCx (w:=w) (fs:=[]) (keptO hb2 hkR.out) (OwX.nil _ _) (btt hb1 hb2) (Nat.le_succ _);replace m1:=qH m1;have hE0:(E == 0)=false:=by simpa using hz
  replace hz:=qH hz;go_wp2;exact⟨rfl,_,results_cx2 (k:=2) rfl _ _ _ rfl rfl m1.out,_,rfl,hend.out.1,hend.out.2⟩
theorem OwX.ksNil (w:World):KS 2 w (.slice none 0 0) []:=⟨none,0,0,0,rfl,fun h=>absurd h (by decide),fun j hj=>absurd hj (Nat.not_lt_zero _),by decide⟩
def casE (E idx:Int) (m:Nat):Int:=if E ≠ 0 then E else if idx < 0\/(m:Int)<=idx then 6 else 0
theorem protCase {w:World}{v:Value}{n i o an r tn idx:Int}{cs:List Cs}{ss:Jc}{vs:Jb}{xs:List Ex}(h:SysV w v n i o cs an ss r tn vs xs) (hfew:fewP n i o cs an ss r=true) :
  Calls Tryz.prog 21 #[v,.int .i64 idx] w fun e w'=>∃v',e = .returned (.tuple #[v',.int .i64 (casE (verE n i o cs an ss r tn vs xs) idx cs.length)])/\CxO w' v' (if casE (verE n i o cs an ss r tn vs xs) idx cs.length=0 then maxX (simsX n.toNat r.toNat xs idx) else [])/\Below w.heap.size w w':=by
 have HV:=qH (fun W (hb:Below w.heap.size w W)=>verifyC (h.keep hb) hfew);have HG:=sysG_ver h hfew;have HW:=qH (fun W (hb:Below w.heap.size w W) hG=>wholeC (idx:=idx) (N:=n.toNat) (k:=r.toNat) (h.keep hb) hG);obtain⟨E,hE⟩:=exE (verE n i o cs an ss r tn vs xs);rw[hE] at HV HG|-;obtain⟨a,c,a',c',va,vc,xa,xc,rfl,-⟩:=h;obtain⟨W1,hW1,hb1,kS,kR⟩:=sysBox w #[.int .i64 n,.int .i64 i,.int .i64 o,.slice a cs.length c,.int .i64 an,.slice a' ss.length c',.int .i64 r,.int .i64 tn,.slice va vs.length vc,.slice xa xs.length xc];have HK:=qH (fun W (hb:Below W1.heap.size W1 W)=>And.intro (keep7 hb (box10' kS).1) (keep3' hb (box10' kS).2));obtain⟨⟨p0,p1,p2,p3,p4,p5,p6⟩,p7,p8,p9⟩:=HK.out W1 (Below.refl _ _);rw[hW1] at p0 p1 p2 p3 p4 p5 p6 p7 p8 p9;have hkR:=qH kR;replace hE:=qH hE;obtain⟨M,hM⟩:=exE (cs.length);rw[hM] at HV HK HW hW1 p3|-;obtain⟨F,hF⟩:=exE (casE E idx M);rw[hF];obtain⟨R,hR⟩:∃R,(if F=0 then maxX (simsX n.toNat r.toNat xs idx) else [])=R:=⟨_,rfl⟩;rw[hR];unfold casE at hF;clear kS kR hM;go_enter Tryz.func21, Tryz.ntmps21
 go_wp2_with fail
 rw[<-hW1];replace hW1:=qH hW1;refine(HV.out W1 hb1).mono ?_;rintro e w2 ⟨rfl,hb2⟩;clear p0 p1 p2 p3 p4 p5 p6 p7 p8 p9;obtain⟨⟨p0,p1,p2,p3,p4,p5,p6⟩,p7,p8,p9⟩:=HK.out w2 hb2;by_cases hz:E=0
 ·subst hz;rw[if_neg (fun h=>h rfl)] at hF;obtain⟨-,-,-,-,hG⟩:=HG rfl;clear HG;by_cases hr:idx < 0\/(M:Int)<=idx
  ·rw[if_pos hr] at hF;subst hF;rw[if_neg (by decide)] at hR;subst hR;obtain⟨z4,fz,m1,hend⟩:=endCx (w:=w) (fs:=[]) (keptO hb2 hkR.out) (OwX.nil _ _) (btt hb1 hb2) (Nat.le_succ _);replace m1:=qH m1;rcases Int.lt_or_le idx 0 with hn|hn
   ·replace hr:=qH hr;go_wp2;exact⟨rfl,_,results_cx2 (k:=4) rfl _ _ _ rfl rfl m1.out,_,rfl,hend.out.1,hend.out.2⟩
   ·have hm:(M:Int)<=idx:=(by omega);replace hr:=qH hr;go_wp2;exact⟨rfl,_,results_cx2 (k:=4) rfl _ _ _ rfl rfl m1.out,_,rfl,hend.out.1,hend.out.2⟩
  ·rw[if_neg hr] at hF;subst hF;rw[if_pos rfl] at hR;have HW2:=qH (HW.out w2 (btt hb1 hb2) hG);rw[hR] at HW2;have h0:(0:Int)<=idx:=(by omega);have h1:idx < (M:Int):=(by omega);replace hr:=qH hr;clear hR hG;go_wp2_with fail
   refine HW2.out.mono ?_;rintro e w4 ⟨v4,rfl,⟨fa,fc,rfl,hO⟩,hb4⟩;obtain⟨z4,fz,m1,hend⟩:=endCx (w:=w) (keptO (btt hb2 hb4) hkR.out) hO (btt (btt hb1 hb2) hb4) (Nat.le_succ _);replace m1:=qH m1;clear hO p0 p1 p2 p3 p4 p5 p6 p7 p8 p9;go_wp2;exact⟨rfl,_,results_cx2 (k:=4) rfl _ _ _ rfl rfl m1.out,_,rfl,hend.out.1,hend.out.2⟩
 ·rw[if_pos hz] at hF;subst hF;rw[if_neg hz] at hR;subst hR;obtain⟨z4,fz,m1,hend⟩:=endCx (w:=w) (fs:=[]) (keptO hb2 hkR.out) (OwX.nil _ _) (btt hb1 hb2) (Nat.le_succ _);replace m1:=qH m1;have hE0:(E == 0)=false:=by simpa using hz
  replace hz:=qH hz;go_wp2;exact⟨rfl,_,results_cx2 (k:=4) rfl _ _ _ rfl rfl m1.out,_,rfl,hend.out.1,hend.out.2⟩
def simE (E e:Int) (m:Nat) (s:Jb):Int:=if E ≠ 0 then E else if e < 0\/(m:Int)<=e then 6 else if s.length=0 then 16 else 0
theorem protSimplex {w:World}{v:Value}{n i o an r tn idx:Int}{cs:List Cs}{ss:Jc}{vs:Jb}{xs:List Ex}(h:SysV w v n i o cs an ss r tn vs xs) (hfew:fewP n i o cs an ss r=true) :
  Calls Tryz.prog 23 #[v,.int .i64 idx] w fun e w'=>∃v',e = .returned (.tuple #[v',.int .i64 (simE (verE n i o cs an ss r tn vs xs) idx xs.length (simX n.toNat r.toNat (xs.getD idx.toNat exNil)))])/\KS 2 w' v' (if simE (verE n i o cs an ss r tn vs xs) idx xs.length (simX n.toNat r.toNat (xs.getD idx.toNat exNil))=0 then simX n.toNat r.toNat (xs.getD idx.toNat exNil) else [])/\Below w.heap.size w w':=by
 have HV:=qH (fun W (hb:Below w.heap.size w W)=>verifyC (h.keep hb) hfew);have HG:=sysG_ver h hfew;obtain⟨E,hE⟩:=exE (verE n i o cs an ss r tn vs xs);rw[hE] at HV HG|-;obtain⟨a,c,a',c',va,vc,xa,xc,rfl,-,-,hX⟩:=h;obtain⟨VA,hVA⟩:∃VA:Array Value,VA = #[.int .i64 n,.int .i64 i,.int .i64 o,.slice a cs.length c,.int .i64 an,.slice a' ss.length c',.int .i64 r,.int .i64 tn,.slice va vs.length vc,.slice xa xs.length xc]:=⟨_,rfl⟩;obtain⟨W1,hW1⟩:=exF (w.alloc (.cells VA 35));have hb1:Below w.heap.size w W1:=by rw[hW1];exact(Below.refl _ w).alloc (Nat.le_refl _) _
 have kS:W1.heap[w.heap.size]? = some (.cells VA 35):=by rw[hW1];exact heap_alloc_new _ _
 subst hVA;have HK:=qH (fun W (hb:Below W1.heap.size W1 W)=>And.intro (keep7 hb (box10' kS).1) (keep3' hb (box10' kS).2));obtain⟨⟨p0,p1,p2,p3,p4,p5,p6⟩,p7,p8,p9⟩:=HK.out W1 (Below.refl _ _);rw[hW1] at p0 p1 p2 p3 p4 p5 p6 p7 p8 p9;replace hE:=qH hE;obtain⟨x,hx⟩:=exE (xs.getD idx.toNat exNil);rw[hx];obtain⟨s,hs⟩:=exE (simX n.toNat r.toNat x);rw[hs];have hXh:=qH (fun W (hb:Below w.heap.size w W)=>hX.keep hb);obtain⟨M,hM⟩:=exE (xs.length);rw[hM] at HV HK hXh hW1 p9|-;replace hM:=qH hM;obtain⟨F,hF⟩:=exE (simE E idx M s);rw[hF];obtain⟨R,hR⟩:∃R,(if F=0 then s else [])=R:=⟨_,rfl⟩;rw[hR];unfold simE at hF;clear kS hX;go_enter Tryz.func23, Tryz.ntmps23
 go_wp2_with fail
 rw[<-hW1];replace hW1:=qH hW1;refine(HV.out W1 hb1).mono ?_;rintro e w2 ⟨rfl,hb2⟩;clear p0 p1 p2 p3 p4 p5 p6 p7 p8 p9;obtain⟨⟨p0,p1,p2,p3,p4,p5,p6⟩,p7,p8,p9⟩:=HK.out w2 hb2;have hb12:=btt hb1 hb2;by_cases hz:E=0
 ·subst hz;rw[if_neg (fun h=>h rfl)] at hF;obtain⟨-,-,-,hr6,hG⟩:=HG rfl;clear HG;by_cases hr:idx < 0\/(M:Int)<=idx
  ·rw[if_pos hr] at hF;subst hF;rw[if_neg (by decide)] at hR;subst hR;rcases Int.lt_or_le idx 0 with hn|hn
   ·replace hr:=qH hr;go_wp2;go_ret2
    exact⟨_,rfl,OwX.ksNil _,hb12⟩
   ·have hm:(M:Int)<=idx:=(by omega);replace hr:=qH hr;go_wp2;go_ret2
    exact⟨_,rfl,OwX.ksNil _,hb12⟩
  ·rw[if_neg hr] at hF;have h0:(0:Int)<=idx:=(by omega);have h1:idx < (M:Int):=(by omega);obtain⟨j,rfl⟩:∃j:Nat,idx=(j:Int):=⟨idx.toNat,by omega⟩;rw[Int.toNat_natCast] at hx;have hjm:j < xs.length:=(by have:=hM.out;omega);have hX2:=hXh.out w2 hb12;rw[<-hM.out] at hX2;obtain⟨xb,xo,rfl,hxc⟩:=hX2.at (by omega);obtain⟨u1,u2,c0,c1,c2,kw,kv⟩:=hxc j hjm;have hxg:=hG.ex (xs.getD j exNil) (by rw[getD_eq hjm];exact List.getElem_mem hjm);rw[hx] at c0 kw kv hxg;have HS:=qH (simplexOfC kw kv hxg.wd hxg.vw hG.r9 hxg.fin hG.n1 hG.n5 hxg.f0 hxg.f1);rw[hs] at HS;obtain⟨wa,wc,rfl⟩:=kw.shape;obtain⟨va',vc',vb',vo',hve,-⟩:=id kv;subst hve
   have hsl:Hid (s.length<=5):=by
    show _<=_;have h5:=hG.n5;have:=simN_len (ok:=fun p=>!hasI (fltX x) (p:Int)) (l:=x.2.2.getD r.toNat []) n.toNat
    rw[<-hs];unfold simX;omega
   replace hr:=qH hr;clear hx hG kw kv hxg hxc hX2;go_wp2_with fail
   refine HS.out.mono ?_;rintro e w4 ⟨v4,rfl,hO,hb4⟩;obtain⟨fa,fc,hsh⟩:=hO.shape;subst hsh;rcases Nat.eq_zero_or_pos s.length with hs0|hs0
   ·rw[if_pos hs0] at hF;subst hF;rw[if_neg (by decide)] at hR;subst hR;rw[hs0];clear hO p0 p1 p2 p3 p4 p5 p6 p7 p8 p9;go_wp2;go_ret2
    exact⟨_,rfl,OwX.ksNil _,btt hb12 hb4⟩
   ·rw[if_neg (show ¬s.length=0 by omega)] at hF;subst hF;rw[if_pos rfl] at hR;subst hR;have hd:((s.length:Int) == 0)=false:=beq_eq_false_iff_ne.2 (by omega);have hks:=hO.ks (by have:=hsl.out;omega);replace hks:=qH hks;clear hO p0 p1 p2 p3 p4 p5 p6 p7 p8 p9;go_wp2;go_ret2
    exact⟨_,rfl,hks.out,btt hb12 hb4⟩
 ·rw[if_pos hz] at hF;subst hF;rw[if_neg hz] at hR;subst hR;have hE0:(E == 0)=false:=by simpa using hz
  replace hz:=qH hz;go_wp2;go_ret2
  exact⟨_,rfl,OwX.ksNil _,hb12⟩
end Go.Proofs.YtcnedkkcgdkioaaGreat
