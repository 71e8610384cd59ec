/- Texts of this claim, put together: OL ON OP OQ. -/
import Derived.Test.YtcnedkkcgdkioaaGreatKSy
import Derived.Shelf.SlSortCmp.NoneTotal

set_option maxRecDepth 100000
set_option maxHeartbeats 12800000
namespace Go.Proofs.YtcnedkkcgdkioaaGreat
open Go.RowKit
open Go.Shelf Go.Lib Go.Sort
theorem elemVx:ElemK Tryz.prog 38 83 (.agg #[.int .i64 0,.int .i64 0]) 2 16:=⟨by kernel_rfl,by kernel_rfl,rfl⟩
theorem elemVs:ElemK Tryz.prog 55 38 (.slice none 0 0) 1 24:=⟨by kernel_rfl,by kernel_rfl,rfl⟩
theorem cloneVs {w:World}(ad:Addr) (n c:Nat) (news:List Value) (hl:news.length=n * 1) (hn:n<=1000000) (hc:∀j u,news[j]? = some u->w.cell? (ad.add j)=some u) (h1:∀u∈news,u.oneCell'=true) :
  Calls Tryz.prog 90 #[.slice (some ad) n c] w fun e w'=>∃v',e = .returned v'/\w'.ownsRow w.heap.size 38 1 v' n news/\Go.RowKit.Below w.heap.size w w':=by
 have q22:=fun(w:World)=>Lib.run_eql_slice_nil (P:=Tryz.prog) w 55 38 (some ad) n c 0 0 elemVs.1;obtain⟨i0,hi,hz0,hz1,hz2⟩:=info_parts elemVs.2.1;have A:Hid (∀j u,news[j]? = some u->w.cell? (ad.add j)=some u):=hc;clear hc;have hn':n * 24<=140737488355328:=by omega
 go_enter Tryz.func90, Tryz.ntmps90
 go_wp2_with (at_builtin;refine wpList_append_own _ rfl _ _ 55 rfl w.heap.size 38 i0 _ 1 24 elemVs.1 hi hz0 hz1 hz2 elemVs.2.2 (by decide) _ _ _ rfl (World.ownsRow_made w #[] 0 (Nat.le_refl _) (Nat.zero_le _) (by simp)) ad n c news rfl ?qc1 ?qc2 ?qc3 ?qc4 ?qc5 ?qc6 ?_)
 case qc1=>exact hl
 case qc2=>
  intro j u hj;exact Lib.cell?_alloc_some _ (A.out j u hj)
 case qc3=>exact h1
 case qc4=>unfold maxLen;omega
 case qc5=>rw[Nat.zero_add];exact hn'
 case qc6=>simp
 intro v' w1 hown hgrow hnil;go_wp2;go_ret;refine⟨v',rfl,by simpa using hown,?_⟩;exact((Below.refl _ w).alloc (Nat.le_refl _) _).grown hgrow (by simp) (by intro k hk;simp[Value.ownBlock] at hk;omega)
theorem cloneVsNil {w:World}(n c:Nat):Calls Tryz.prog 90 #[.slice none n c] w fun e w'=>e = .returned (.slice none 0 0)/\w'=w:=by
 have q22:=fun(w:World)=>Lib.run_eql_slice_nil (P:=Tryz.prog) w 55 38 none n c 0 0 elemVs.1;go_enter Tryz.func90, Tryz.ntmps90
 go_wp2;go_ret;exact⟨rfl,rfl⟩
theorem cloneVx {w:World}(ad:Addr) (n c:Nat) (news:List Value) (hl:news.length=n * 2) (hn:n<=1000000) (hc:∀j u,news[j]? = some u->w.cell? (ad.add j)=some u) (h1:∀u∈news,u.oneCell'=true) :
  Calls Tryz.prog 200 #[.slice (some ad) n c] w fun e w'=>∃v',e = .returned v'/\w'.ownsRow w.heap.size 83 2 v' n news/\Go.RowKit.Below w.heap.size w w':=by
 have q22:=fun(w:World)=>Lib.run_eql_slice_nil (P:=Tryz.prog) w 38 83 (some ad) n c 0 0 elemVx.1;obtain⟨i0,hi,hz0,hz1,hz2⟩:=info_parts elemVx.2.1;have A:Hid (∀j u,news[j]? = some u->w.cell? (ad.add j)=some u):=hc;clear hc;have hn':n * 16<=140737488355328:=by omega
 go_enter Tryz.func200, Tryz.ntmps200
 go_wp2_with (at_builtin;refine wpList_append_own _ rfl _ _ 38 rfl w.heap.size 83 i0 _ 2 16 elemVx.1 hi hz0 hz1 hz2 elemVx.2.2 (by decide) _ _ _ rfl (World.ownsRow_made w #[] 0 (Nat.le_refl _) (Nat.zero_le _) (by simp)) ad n c news rfl ?qc1 ?qc2 ?qc3 ?qc4 ?qc5 ?qc6 ?_)
 case qc1=>exact hl
 case qc2=>
  intro j u hj;exact Lib.cell?_alloc_some _ (A.out j u hj)
 case qc3=>exact h1
 case qc4=>unfold maxLen;omega
 case qc5=>rw[Nat.zero_add];exact hn'
 case qc6=>simp
 intro v' w1 hown hgrow hnil;go_wp2;go_ret;refine⟨v',rfl,by simpa using hown,?_⟩;exact((Below.refl _ w).alloc (Nat.le_refl _) _).grown hgrow (by simp) (by intro k hk;simp[Value.ownBlock] at hk;omega)
theorem cloneVxNil {w:World}(n c:Nat):Calls Tryz.prog 200 #[.slice none n c] w fun e w'=>e = .returned (.slice none 0 0)/\w'=w:=by
 have q22:=fun(w:World)=>Lib.run_eql_slice_nil (P:=Tryz.prog) w 38 83 none n c 0 0 elemVx.1;go_enter Tryz.func200, Tryz.ntmps200
 go_wp2;go_ret;exact⟨rfl,rfl⟩
theorem cloneVxK {w:World}{v:Value}{xs:Jb}(h:KS 2 w v xs) (hn:xs.length<=1000000) :
  Calls Tryz.prog 200 #[v] w fun e w'=>∃u,e = .returned u/\OwX 83 2 EI w' w.heap.size u xs.length xs/\Go.RowKit.Below w.heap.size w w':=by
 obtain⟨a,c,b,off,rfl,ha,hc,_⟩:=h;have hlens:=KS.lens hc;cases a with
 | none=>
  have h0:xs.length=0:=by
   rcases Nat.eq_zero_or_pos xs.length with h'|h'
   ·exact h'
   ·cases ha h'
  obtain rfl:=List.length_eq_zero_iff.1 h0;refine(cloneVxNil 0 c).mono ?_;rintro e w' ⟨rfl,rfl⟩;exact⟨_,rfl,OwX.nil _ _,Below.refl _ _⟩
 | some ad=>
  refine(cloneVx ad xs.length c (xs.flatten.map (Value.int .i64)) (by rw[List.length_map,flat_len hlens]) hn ?_ ?_).mono ?_
  ·intro j u hj
   have hpos:0 < xs.length:=by
    rcases Nat.eq_zero_or_pos xs.length with h'|h'
    ·rw[List.length_eq_zero_iff.1 h'] at hj;simp at hj
    ·exact h'
   have:=ha hpos
   injection this with this;subst this;rw[Addr.add_lit];exact KS.flat hc j u hj
  ·intro u hu;obtain⟨i,_,rfl⟩:=List.mem_map.1 hu;rfl
  ·rintro e w' ⟨u,rfl,h1,h2⟩;exact⟨u,rfl,OwX.ofFlat h1 hlens rfl,h2⟩
theorem kssc_vals {w:World}{a:Option Addr}{c:Nat}{xs:Jc}(h:KSSC 2 w (.slice a xs.length c) xs) (h0:0 < xs.length) :
  ∃b off vs,a=some ⟨b,off,none⟩/\vs.length=xs.length/\(∀(j:Nat) (u:Value),vs[j]? = some u->w.cell? ⟨b,off+j,none⟩=some u)/\WK w vs xs/\∀u∈vs,u.oneCell'=true:=by
 obtain⟨a',c',b,off,hv,ha,hc,_⟩:=h;injection hv with hv1 hv2 hv3;have hl:((List.range xs.length).map fun j=>(w.cell? ⟨b,off+j,none⟩).getD (.slice none 0 0)).length=xs.length:=by rw[List.length_map,List.length_range]
 have hg:∀(j:Nat) (u:Value),((List.range xs.length).map fun j=>(w.cell? ⟨b,off+j,none⟩).getD (.slice none 0 0))[j]? = some u->w.cell? ⟨b,off+j,none⟩=some u/\KSC 2 w u (xs.getD j []):=fun j u hu=>by
  have hj:j < xs.length:=by have:=(List.getElem?_eq_some_iff.1 hu).1;omega
  obtain⟨v,h1,h2⟩:=hc j hj;rw[List.getElem?_map,List.getElem?_range hj] at hu;injection hu with hu;have hu:(w.cell? ⟨b,off+j,none⟩).getD (.slice none 0 0)=u:=hu;rw[h1] at hu;have hu:v=u:=hu;subst hu;exact⟨h1,h2⟩
 refine⟨b,off,_,hv1.trans (ha h0),hl,fun j u hu=>(hg j u hu).1,⟨hl,fun j v u hv hu=>?_⟩,fun u hu=>?_⟩
 ·have:=(hg j v hv).2
  rwa [List.getD_eq_getElem?_getD,hu] at this
 ·obtain⟨j,hj,rfl⟩:=List.getElem_of_mem hu;exact(hg j _ (List.getElem?_eq_getElem hj)).2.oneCell
theorem cloneVsK {w:World}{v:Value}{ss:Jc}(h:KSSC 2 w v ss) (hn:ss.length<=1000000) :
  Calls Tryz.prog 90 #[v] w fun e w'=>∃u,e = .returned u/\OwX 38 1 (EWk w) w' w.heap.size u ss.length ss/\Go.RowKit.Below w.heap.size w w':=by
 obtain⟨a,c,rfl⟩:=h.shape;rcases Nat.eq_zero_or_pos ss.length with h0|h0
 ·obtain rfl:=List.length_eq_zero_iff.1 h0;cases a with
  | none=>
   refine(cloneVsNil _ _).mono ?_;rintro e w' ⟨rfl,rfl⟩;exact⟨_,rfl,OwX.nil _ _,Below.refl _ _⟩
  | some ad=>
   refine(cloneVs ad 0 c [] rfl (by decide) (fun j u hj=>by simp at hj) (by simp)).mono ?_;rintro e w' ⟨u,rfl,ho,hb⟩;exact⟨u,rfl,OwX.ofWK ho ⟨rfl,by simp⟩,hb⟩
 ·obtain⟨b,off,vs,rfl,hl,hc,hW,h1⟩:=kssc_vals h h0;refine(cloneVs ⟨b,off,none⟩ ss.length c vs (by omega) hn (fun j u hj=>by rw[Addr.add_lit];exact hc j u hj) h1).mono ?_;rintro e w' ⟨u,rfl,ho,hb⟩;exact⟨u,rfl,OwX.ofWK ho hW,hb⟩
theorem sortVsNil (p:Option Addr) (cap:Nat) (w:World):Calls Tryz.prog 197 #[.slice p 0 cap,.func (.func 92) #[] #[]] w fun e w'=>e = .returned (.tuple #[])/\w'=w:=
 AnyF.slices_SortFunc_none (P:=Tryz.prog) (ρ:=Tryz.sortVs_ren) { Tryz.sortVs with } p cap (.func (.func 92) #[] #[]) w
theorem compactVsNil (p:Option Addr) (cap:Nat) (w:World):Calls Tryz.prog 198 #[.slice p 0 cap,.func (.func 199) #[] #[]] w fun e w'=>e = .returned (.slice p 0 cap)/\w'=w:=by
 go_enter Tryz.func198, Tryz.ntmps198
 go_wp2;go_ret;exact⟨rfl,rfl⟩
def EVx (w:World) (cs:List Value) (x:Jb):Prop:=∃a c,cs = [.slice a x.length c]/\OwX 83 2 EI w 0 (.slice a x.length c) x.length x
theorem EVx.stab {E:TypeId}(h:83 ≠ E):Stab E EVx:=fun _ _ _ _ ⟨a,c,e,k⟩ hx=>⟨a,c,e,k.other (EI.stab _) h hx⟩
theorem EVx.stb:Stab 38 EVx:=EVx.stab (by decide)
theorem EVx.stc:Stab 57 EVx:=EVx.stab (by decide)
def opsCxo10:List Oper:=[⟨some 30,.fieldAddr 57 (.tmp 4) 0,0,"complex.go:103",#[],none⟩,⟨some 31,.load 55 (.tmp 30),55,"complex.go:103",#[⟨0,.data⟩],none⟩,⟨some 32,.move (.tmp 6),38,"complex.go:103",#[],none⟩,⟨some 33,.call { callee:=.value (.func 200),args:=#[.tmp 32],argTypes:=#[38] },38,"complex.go:103",#[⟨2,.data⟩],none⟩,⟨some 34,.buildSlice 55 1 #[(0,.tmp 33)],55,"complex.go:103",#[⟨3,.data⟩],none⟩,⟨some 35,.call { callee:=.builtin .append,args:=#[.tmp 31,.tmp 34],argTypes:=#[55,55] },55,"complex.go:103",#[⟨1,.data⟩,⟨4,.data⟩,⟨3,.chain⟩],none⟩,⟨some 36,.fieldAddr 57 (.tmp 4) 0,0,"complex.go:103",#[⟨0,.phase⟩,⟨1,.phase⟩,⟨2,.phase⟩,⟨3,.phase⟩,⟨4,.phase⟩,⟨5,.phase⟩],none⟩,⟨none,.store 55 (.tmp 36) (.tmp 35),0,"complex.go:103",#[⟨6,.data⟩,⟨5,.data⟩,⟨5,.chain⟩,⟨0,.phase⟩,⟨1,.phase⟩,⟨2,.phase⟩,⟨3,.phase⟩,⟨4,.phase⟩,⟨5,.phase⟩],none⟩]
theorem regCx10 {w:World}{x0 x1 x2 x3 x5 x7 x8 x9 x10 x11 x12 x13 x14 x15 x16 x17 x18 x19 x20 x21 x22 x23 x24 x25 x26 x27 x28 x29 x30 x31 x32 x33 x34 x35 x36 x37 x38:Value}{Q:Exit->Act->World->Prop}{b4 B oc sc:Nat}{oa sa:Option Addr}{xs:Jc}{s:Jb}
  (k4:w.heap[b4]? = some (.cells #[.slice oa xs.length oc] 57)) (ho:OwX 38 1 EVx w B (.slice oa xs.length oc) xs.length xs) (hs:∀W,Below B w W->KSC 2 W (.slice sa s.length sc) s) (hsl:s.length<=1000000) (hxl:xs.length<=1000000) (hBb:B<=b4)
  (hfin:∀(y3 y4 y5 _y7:Value) (W:World),(Below B w W/\((fun i=>decide (i < 8)) 7=false->W.heap[b4]? = some (.cells #[.slice oa xs.length oc] 57))/\((fun i=>decide (i < 8)) 5=false->OwX 38 1 EVx W B (.slice oa xs.length oc) xs.length xs)/\((fun i=>decide (i < 8)) 3=true->(∃a c,y3 = .slice a s.length c)/\OwX 83 2 EI W 0 y3 s.length s)/\((fun i=>decide (i < 8)) 4=true->(fun i=>decide (i < 8)) 5=false->∃g,y4 = .slice (some ⟨g,0,none⟩) 1 1/\W.heap[g]? = some (.cells #[y3] 38))/\((fun i=>decide (i < 8)) 5=true->(∃a c,y5 = .slice a (xs.length+1) c)/\OwX 38 1 EVx W B y5 (xs.length+1) (xs ++ [s]))/\((fun i=>decide (i < 8)) 7=true->W.heap[b4]? = some (.cells #[y5] 57))/\w.heap.size<=W.heap.size)->(True)->(True)->(True)->(True)->Q .normal ⟨#[x0,x1,x2,x3,.pointer (some ⟨b4,0,none⟩),x5,.slice sa s.length sc,x7,x8,x9,x10,x11,x12,x13,x14,x15,x16,x17,x18,x19,x20,x21,x22,x23,x24,x25,x26,x27,x28,x29,.pointer (some ⟨b4,0,none⟩),.slice oa xs.length oc,.slice sa s.length sc,y3,y4,y5,.pointer (some ⟨b4,0,none⟩),x37,x38],[]⟩ W) :
  (Code.region 10 opsCxo10.toArray true).wp Tryz.prog Q ⟨#[x0,x1,x2,x3,.pointer (some ⟨b4,0,none⟩),x5,.slice sa s.length sc,x7,x8,x9,x10,x11,x12,x13,x14,x15,x16,x17,x18,x19,x20,x21,x22,x23,x24,x25,x26,x27,x28,x29,x30,x31,x32,x33,x34,x35,x36,x37,x38],[]⟩ w:=by
 have hBs:B<=w.heap.size:=by have:=(Array.getElem?_eq_some_iff.1 k4).1;omega
 refine wp_region_sg (l:=opsCxo10) (F:=(fun ys=>⟨#[x0,x1,x2,x3,.pointer (some ⟨b4,0,none⟩),x5,.slice sa s.length sc,x7,x8,x9,x10,x11,x12,x13,x14,x15,x16,x17,x18,x19,x20,x21,x22,x23,x24,x25,x26,x27,x28,x29,ys 0,ys 1,ys 2,ys 3,ys 4,ys 5,ys 6,x37,x38],[]⟩)) (Φ:=[eqV (.pointer (some ⟨b4,0,none⟩)),eqV (.slice oa xs.length oc),eqV (.slice sa s.length sc),anyV,anyV,anyV,eqV (.pointer (some ⟨b4,0,none⟩)),anyV]) (R:=(fun _ _=>True)) (G:=(fun D ys W=>Below B w W/\(D 7=false->W.heap[b4]? = some (.cells #[.slice oa xs.length oc] 57))/\(D 5=false->OwX 38 1 EVx W B (.slice oa xs.length oc) xs.length xs)/\(D 3=true->(∃a c,(ys 3) = .slice a s.length c)/\OwX 83 2 EI W 0 (ys 3) s.length s)/\(D 4=true->D 5=false->∃g,(ys 4) = .slice (some ⟨g,0,none⟩) 1 1/\W.heap[g]? = some (.cells #[(ys 3)] 38))/\(D 5=true->(∃a c,(ys 5) = .slice a (xs.length+1) c)/\OwX 38 1 EVx W B (ys 5) (xs.length+1) (xs ++ [s]))/\(D 7=true->W.heap[b4]? = some (.cells #[(ys 5)] 57))/\w.heap.size<=W.heap.size)) ⟨?s0,?s1,?s2,?s3,?s4,?s5,?s6,?s7,trivial⟩ (fun i=>([x30,x31,x32,x33,x34,x35,x36,undef]:List Value).getD i undef) (by kernel_rfl) (by kernel_rfl) ⟨sE,sE,sE,fun _ _ _ h _=>h,fun _ _ _ h _=>h,fun _ _ _ h _=>h,sE,fun _ _ _ h _=>h,trivial⟩ ?g0 ?gx ?fin
 case s0|s2|s6=>
  refine .q0 (wantU rfl) (fun _=>trivial) (fun _ _ _ h=>h) (fun _=>rfl) fun ys W K hK=>?_;go_simp;exact hK
 case s1=>
  refine StepG.mk rfl (openY 0 fun y0=>openY 3 fun y3=>openY 4 fun y4=>openY 5 fun y5=>fun ys D W K hD hcl hd hG hK=>?_);obtain rfl:=(hd.get 0 rfl).2;dsimp [updG] at hG|-
  have d7:=hcl.no (j:=7) (i:=1) rfl (by kernel_rfl) hD;obtain⟨g1,g2,g3,g4,g5,g6,g7,g8⟩:=hG;have z0:=cell_of_one (g2 d7);go_simp;exact hK _ _ trivial ⟨g1,g2,g3,g4,g5,g6,g7,g8⟩ rfl
 case s3=>
  refine StepG.mk rfl (openY 2 fun y2=>openY 3 fun y3=>openY 4 fun y4=>openY 5 fun y5=>fun ys D W K hD hcl hd hG hK=>?_);obtain rfl:=(hd.get 2 rfl).2;dsimp [updG] at hG|-
  have d4:=hcl.no (j:=4) (i:=3) rfl (by kernel_rfl) hD;have d5:=hcl.no (j:=5) (i:=3) rfl (by kernel_rfl) hD;have d7:=hcl.no (j:=7) (i:=3) rfl (by kernel_rfl) hD;obtain⟨g1,g2,g3,g4,g5,g6,g7,g8⟩:=hG;go_simp;refine(cloneVxK (hs W g1).ks hsl).mono ?_;rintro e W9 ⟨u9,rfl,h9,hb9⟩;obtain⟨a1,c1,rfl⟩:=h9.shape;exact hK _ _ trivial ⟨g1.trans (hb9.mono (Nat.le_trans hBs g8)),fun _=>keptO hb9 (g2 d7),fun _=>(g3 d5).keep EVx.stb hb9,fun _=>⟨⟨_,_,rfl⟩,h9.base (Nat.zero_le _)⟩,fun h=>(by rw[show addG D 3 4=D 4 from rfl,d4] at h;cases h),fun h=>(by rw[show addG D 3 5=D 5 from rfl,d5] at h;cases h),fun h=>(by rw[show addG D 3 7=D 7 from rfl,d7] at h;cases h),Nat.le_trans g8 hb9.size⟩ trivial
 case s4=>
  refine StepG.mk rfl (openY 3 fun y3=>openY 4 fun y4=>openY 5 fun y5=>fun ys D W K hD hcl hd hG hK=>?_);have d3:=(hd.get 3 rfl).1;dsimp [updG] at hG|-
  have d5:=hcl.no (j:=5) (i:=4) rfl (by kernel_rfl) hD;have d7:=hcl.no (j:=7) (i:=4) rfl (by kernel_rfl) hD;have d3:=(hd.get 3 rfl).1;obtain⟨g1,g2,g3,g4,g5,g6,g7,g8⟩:=hG;obtain⟨⟨a1,c1,e1⟩,h1⟩:=g4 d3;subst e1;have ha:Below W.heap.size W (W.alloc (.cells #[.slice a1 s.length c1] 38)):=(Below.refl _ W).alloc (Nat.le_refl _) _;go_simp;exact hK _ _ trivial ⟨g1.trans (ha.mono (Nat.le_trans hBs g8)),fun _=>keptO ha (g2 d7),fun _=>(g3 d5).keep EVx.stb ha,fun _=>⟨⟨_,_,rfl⟩,h1.keep (EI.stab _) ha⟩,fun _ _=>⟨_,rfl,heap_alloc_new W _⟩,fun h=>(by rw[show addG D 4 5=D 5 from rfl,d5] at h;cases h),fun h=>(by rw[show addG D 4 7=D 7 from rfl,d7] at h;cases h),Nat.le_trans g8 ha.size⟩ trivial
 case s5=>
  refine StepG.mk rfl (openY 1 fun y1=>openY 3 fun y3=>openY 4 fun y4=>openY 5 fun y5=>fun ys D W K hD hcl hd hG hK=>?_);obtain rfl:=(hd.get 1 rfl).2;have d4:=(hd.get 4 rfl).1;have d3:=(hd.get 3 rfl).1;dsimp [updG] at hG|-
  have d7:=hcl.no (j:=7) (i:=5) rfl (by kernel_rfl) hD;have d3:=(hd.get 3 rfl).1;have d4:=(hd.get 4 rfl).1;obtain⟨g1,g2,g3,g4,g5,g6,g7,g8⟩:=hG;obtain⟨⟨a1,c1,e1⟩,h1⟩:=g4 d3;subst e1;obtain⟨g,e4,hg⟩:=g5 d4 hD;subst e4;refine wp_appX (B:=B) (cs:=[.slice a1 s.length c1]) (x:=s) elemVs (by decide) (by decide) EVx.stb _ _ (by rfl) (by rfl) (g3 hD) ⟨g,0,none⟩ 1 (by rfl) rfl (World.news_of_block hg) (fun u hu=>by rw[List.mem_singleton.1 hu];rfl) ⟨a1,c1,rfl,h1⟩ (by omega) (Nat.le_trans hBs g8) ?_;intro v9 w9 hO9 hg9 hn9 hb9 hx9;obtain⟨a9,c9,rfl⟩:=hO9.shape;exact hK _ _ trivial ⟨g1.trans hb9,fun _=>(hx9 b4 _ _ (g2 d7) (by decide)).trans (g2 d7),fun h=>(by cases h),fun _=>⟨⟨_,_,rfl⟩,h1.other (EI.stab _) (by decide) hx9⟩,fun _ h=>(by cases h),fun _=>⟨⟨_,_,rfl⟩,hO9⟩,fun h=>(by rw[show addG D 5 7=D 7 from rfl,d7] at h;cases h),Nat.le_trans g8 hg9.size⟩ trivial
 case s7=>
  refine StepG.mk rfl (openY 6 fun y6=>openY 3 fun y3=>openY 4 fun y4=>openY 5 fun y5=>fun ys D W K hD _ hd hG hK=>?_);obtain rfl:=(hd.get 6 rfl).2;have d5:=(hd.get 5 rfl).1;dsimp [updG] at hG|-
  have d5:=(hd.get 5 rfl).1;obtain⟨g1,g2,g3,g4,g5,g6,g7,g8⟩:=hG;obtain⟨⟨a9,c9,hy5⟩,hO9⟩:=g6 d5;subst hy5;have k7:=g2 hD;have z0:=cell_of_one k7;have fz:=row_free k7;have hX:=KeepX.setCell (p:=⟨b4,0,none⟩) k7 (.slice a9 (xs.length+1) c9);go_simp;exact hK undef _ trivial ⟨g1.setCell (p:=⟨b4,0,none⟩) hBb _,fun h=>(by cases h),fun h=>(by rw[show addG D 7 5=D 5 from rfl,d5] at h;cases h),fun h=>(let ⟨p,q⟩:=g4 h;⟨p,q.other (EI.stab _) (by decide) hX⟩),fun _ h=>(by rw[show addG D 7 5=D 5 from rfl,d5] at h;cases h),fun _=>⟨⟨_,_,rfl⟩,hO9.other EVx.stc (by decide) hX⟩,fun _=>heap_setCell_same W b4 0 _ _ _ k7,(by simpa using g8)⟩ trivial
 case g0=>exact⟨(below_drewN (Below.refl _ w) 1).mono hBs,fun _=>k4,fun _=>ho.keep EVx.stb (below_drewN (Below.refl _ w) 1),fun h=>(by cases h),fun h=>(by cases h),fun h=>(by cases h),fun h=>(by cases h),Nat.le_refl _⟩
 case gx=>exact fun D D' ys W h ⟨g1,g2,g3,g4,g5,g6,g7,g8⟩=>⟨g1,fun q=>g2 ((h 7 (by decide)).trans q),fun q=>g3 ((h 5 (by decide)).trans q),fun q=>g4 ((h 3 (by decide)).trans q),fun q q'=>g5 ((h 4 (by decide)).trans q) ((h 5 (by decide)).trans q'),fun q=>g6 ((h 5 (by decide)).trans q),fun q=>g7 ((h 7 (by decide)).trans q),g8⟩
 case fin=>
  intro ys W hG hp;try dsimp only
  rw[(hpE hp 0:ys 0=_),(hpE hp 1:ys 1=_),(hpE hp 2:ys 2=_),(hpE hp 6:ys 6=_)];exact hfin (ys 3) (ys 4) (ys 5) (ys 7) W hG (hpE hp 3) (hpE hp 4) (hpE hp 5) (hpE hp 7)
def VS (s:Jb):Prop:=∀x∈s,x.length=2
theorem flat_inj:∀ {a b:Jb},VS a->VS b->a.flatten=b.flatten->a=b
 | [],[],_,_,_=>rfl
 | [],y::t,_,hb,h=>by obtain⟨p,q,rfl⟩:=two (hb y (by simp));simp at h
 | x::r,[],ha,_,h=>by obtain⟨p,q,rfl⟩:=two (ha x (by simp));simp at h
 | x::r,y::t,ha,hb,h=>by
  rw[List.flatten_cons,List.flatten_cons] at h;obtain⟨h1,h2⟩:=List.append_inj h (by rw[ha x (by simp),hb y (by simp)]);rw[h1,flat_inj (fun z hz=>ha z (by simp[hz])) (fun z hz=>hb z (by simp[hz])) h2]
theorem cmpS_zero {a b:Jb}(ha:VS a) (hb:VS b):cmpS a b=0↔a=b:=by
 unfold cmpS;rw[cmpL_zero];exact⟨flat_inj ha hb,fun h=>by rw[h]⟩
theorem cmpS_asymm (a b:Jb) (h:cmpS a b < 0) : ¬cmpS b a < 0:=cmpL_asymm _ _ h
theorem cmpS_trans {a b c:Jb}(h:cmpS a b < 0) (k:cmpS b c < 0):cmpS a c < 0:=cmpL_trans _ _ _ h k
theorem cmpS_total {a b:Jb}(ha:VS a) (hb:VS b):cmpS a b < 0\/a=b\/cmpS b a < 0:=by
 rcases cmpL_total a.flatten b.flatten with h|h|h
 ·exact .inl h
 ·exact .inr (.inl (flat_inj ha hb h))
 ·exact .inr (.inr h)
def AscS (l:Jc):Prop:=l.Pairwise fun a b=>cmpS a b < 0
theorem ascS_unique {l1 l2:Jc}(h1:AscS l1) (h2:AscS l2) (h:∀x,x∈l1↔x∈l2):l1=l2:=sorted_unique (lt:=fun a b=>cmpS a b < 0) cmpS_asymm h1 h2 h
theorem cmpw_mem:∀(l:Jc) (z:Jb),z∈cmpw l↔z∈l
 | [],z=>by simp[cmpw]
 | [x],z=>by simp[cmpw]
 | x::y::r,z=>by
  rw[cmpw];split
  ·rename_i h;subst h
   rw[cmpw_mem (x::r)];simp
  ·rw[List.mem_cons,cmpw_mem (y::r),List.mem_cons (a:=z) (b:=x)]
theorem cmpw_asc:∀ {l:Jc},(∀s∈l,VS s)->l.Pairwise (fun a b=>¬cmpS b a < 0)->AscS (cmpw l)
 | [],_,_=>by simp[cmpw,AscS]
 | [x],_,_=>by simp[cmpw,AscS]
 | x::y::r,hv,h=>by
  have hx:=hv x (by simp);have hy:=hv y (by simp);have hr:∀s∈y::r,VS s:=fun s hs=>hv s (by simp at hs|-;exact .inr hs);rw[List.pairwise_cons] at h;rw[cmpw];split
  ·exact cmpw_asc hr h.2
  ·rename_i hne
   refine List.pairwise_cons.2 ⟨fun z hz=>?_,cmpw_asc hr h.2⟩;have hz:=(cmpw_mem _ _).1 hz
   have hxy:cmpS x y < 0:=by
    rcases cmpS_total hx hy with h1|h1|h1
    ·exact h1
    ·exact absurd h1 hne
    ·exact absurd h1 (h.1 y (by simp))
   rcases List.mem_cons.1 hz with rfl|hz
   ·exact hxy
   ·rcases cmpS_total hy (hr z (by simp[hz])) with h1|rfl|h1
    ·exact cmpS_trans hxy h1
    ·exact hxy
    ·exact absurd h1 ((List.pairwise_cons.1 h.2).1 z hz)
def insS (x:Jb):Jc->Jc
 | []=>[x]
 | y::r=>if x=y then y::r else if cmpS x y < 0 then x::y::r else y::insS x r
def layS (l:Jc):Jc:=l.foldl (fun acc x=>insS x acc) []
theorem insS_mem (x:Jb):∀(l:Jc) (z:Jb),z∈insS x l↔z=x\/z∈l
 | [],z=>by simp[insS]
 | y::r,z=>by
  rw[insS];split
  ·rename_i h;subst h;simp
  ·split
   ·simp
   ·rw[List.mem_cons,insS_mem x r,List.mem_cons];constructor
    ·rintro(h|h|h)
     ·exact .inr (.inl h)
     ·exact .inl h
     ·exact .inr (.inr h)
    ·rintro(h|h|h)
     ·exact .inr (.inl h)
     ·exact .inl h
     ·exact .inr (.inr h)
theorem insS_asc {x:Jb}(hx:VS x):∀ {l:Jc},(∀s∈l,VS s)->AscS l->AscS (insS x l)
 | [],_,_=>by simp[insS,AscS]
 | y::r,hv,h=>by
  have hy:=hv y (by simp);have h2:=List.pairwise_cons.1 h;rw[insS];split
  ·exact h
  ·rename_i hne
   split
   ·rename_i hlt
    refine List.pairwise_cons.2 ⟨fun z hz=>?_,h⟩;rcases List.mem_cons.1 hz with rfl|hz
    ·exact hlt
    ·exact cmpS_trans hlt (h2.1 z hz)
   ·rename_i hnl
    have hyx:cmpS y x < 0:=by
     rcases cmpS_total hx hy with h1|h1|h1
     ·exact absurd h1 hnl
     ·exact absurd h1 hne
     ·exact h1
    refine List.pairwise_cons.2 ⟨fun z hz=>?_,insS_asc hx (fun s hs=>hv s (by simp[hs])) h2.2⟩;rcases(insS_mem x r z).1 hz with rfl|hz
    ·exact hyx
    ·exact h2.1 z hz
theorem foldS_mem:∀(l acc:Jc) (z:Jb),z∈l.foldl (fun acc x=>insS x acc) acc↔z∈acc\/z∈l
 | [],acc,z=>by simp
 | x::r,acc,z=>by
  rw[List.foldl_cons,foldS_mem r,insS_mem,List.mem_cons];constructor
  ·rintro((h|h)|h)
   ·exact .inr (.inl h)
   ·exact .inl h
   ·exact .inr (.inr h)
  ·rintro(h|h|h)
   ·exact .inl (.inr h)
   ·exact .inl (.inl h)
   ·exact .inr h
theorem layS_mem (l:Jc) (z:Jb):z∈layS l↔z∈l:=by
 unfold layS;rw[foldS_mem];simp
theorem foldS_asc:∀ {l acc:Jc},(∀s∈l,VS s)->(∀s∈acc,VS s)->AscS acc->AscS (l.foldl (fun acc x=>insS x acc) acc)
 | [],acc,_,_,h=>h
 | x::r,acc,hl,ha,h=>by
  rw[List.foldl_cons];refine foldS_asc (fun s hs=>hl s (by simp[hs])) (fun s hs=>?_) (insS_asc (hl x (by simp)) ha h);rcases(insS_mem x acc s).1 hs with rfl|hs
  ·exact hl s (by simp)
  ·exact ha s hs
theorem layS_asc {l:Jc}(h:∀s∈l,VS s):AscS (layS l):=foldS_asc h (by simp) List.Pairwise.nil
def pf (s t:Jb):Bool:=decide (s.length < t.length) && decide (∀x∈s,x∈t)
def cxP (ss:Jc):Jc:=layS (ss.filter fun s=>!s.isEmpty && !(ss.any fun t=>pf s t))
def SmS (s:Jb):Prop:=0 < s.length/\s.length<=8/\(∀x∈s,posV x=true)/\AscL s
theorem chkR_ok:∀ {r:Jb}{p:List Int},chkR p r=0->(∀x∈r,posV x=true)/\AscL (p::r)
 | [],p,_=>⟨by simp,List.pairwise_singleton _ _⟩
 | x::r,p,h=>by
  rw[chkR] at h;by_cases h1:posV x=false
  ·rw[if_pos h1] at h;cases h
  rw[if_neg h1] at h;by_cases h2:0<=cmpL p x
  ·rw[if_pos h2] at h;cases h
  rw[if_neg h2] at h;obtain⟨h3,h4⟩:=chkR_ok h;refine⟨fun z hz=>?_,List.pairwise_cons.2 ⟨fun z hz=>?_,h4⟩⟩
  ·rcases List.mem_cons.1 hz with rfl|hz
   ·simpa using h1
   ·exact h3 z hz
  ·rcases List.mem_cons.1 hz with rfl|hz
   ·omega
   ·exact cmpL_trans _ _ _ (by omega) ((List.pairwise_cons.1 h4).1 z hz)
theorem chkS_ok {s:Jb}(h:chkS s=0):SmS s:=by
 unfold chkS at h;by_cases h0:s.length=0
 ·rw[if_pos h0] at h;cases h
 rw[if_neg h0] at h;by_cases h8:8 < s.length
 ·rw[if_pos h8] at h;cases h
 rw[if_neg h8] at h;cases s with
 | nil=>exact absurd rfl h0
 | cons x r=>
  simp only at h
  by_cases h1:posV x=false
  ·rw[if_pos h1] at h;cases h
  rw[if_neg h1] at h;obtain⟨h3,h4⟩:=chkR_ok h;refine⟨by simp,by omega,fun z hz=>?_,h4⟩;rcases List.mem_cons.1 hz with rfl|hz
  ·simpa using h1
  ·exact h3 z hz
theorem chkR_zero:∀ {r:Jb}{p:List Int},(∀x∈r,posV x=true)->AscL (p::r)->chkR p r=0
 | [],p,_,_=>rfl
 | x::r,p,h1,h2=>by
  have h3:=List.pairwise_cons.1 h2;rw[chkR,if_neg (by rw[h1 x (by simp)];decide),if_neg (by have:=h3.1 x (by simp);omega)];exact chkR_zero (fun z hz=>h1 z (by simp[hz])) h3.2
theorem chkS_zero {s:Jb}(h:SmS s):chkS s=0:=by
 obtain⟨h1,h2,h3,h4⟩:=h;unfold chkS;rw[if_neg (by omega),if_neg (by omega)];cases s with
 | nil=>rfl
 | cons x r=>
  simp only
  rw[if_neg (by rw[h3 x (by simp)];decide)];exact chkR_zero (fun z hz=>h3 z (by simp[hz])) h4
theorem incN_mem (L:Jc) (n:Nat) (p:List Int × Nat):p∈incN L n↔p.2 < n/\p.1∈L.getD p.2 []:=by
 unfold incN;rw[List.mem_flatMap];constructor
 ·rintro⟨j,hj,hp⟩;obtain⟨x,hx,rfl⟩:=List.mem_map.1 hp;exact⟨List.mem_range.1 hj,hx⟩
 ·rintro⟨h1,h2⟩;exact⟨p.2,List.mem_range.2 h1,List.mem_map.2 ⟨p.1,h2,rfl⟩⟩
theorem occ_mem (L:Jc) (n:Nat) (r:List Int) (i:Nat):i∈occ (incN L n) r↔i < n/\r∈L.getD i []:=by
 unfold occ;rw[List.mem_map];constructor
 ·rintro⟨p,hp,rfl⟩;rw[List.mem_filter,incN_mem] at hp;obtain⟨⟨h1,h2⟩,h3⟩:=hp;simp only[decide_eq_true_eq] at h3;exact⟨h1,h3▸h2⟩
 ·rintro⟨h1,h2⟩;exact⟨(r,i),by rw[List.mem_filter,incN_mem];exact⟨⟨h1,h2⟩,by simp⟩,rfl⟩
theorem covG_eq {L:Jc}(hL:∀t∈L,AscL t) {s:Jb}(hs:AscL s) (h0:0 < s.length):((occ (incN L L.length) (s.getD 0 [])).any fun i=>pfG s (L.getD i []))=L.any fun t=>pf s t:=by
 have hpf:∀t∈L,pfG s t=pf s t:=fun t ht=>by unfold pfG pf;rw[faceG_mem hs (hL t ht)]
 rw[Bool.eq_iff_iff,List.any_eq_true,List.any_eq_true];constructor
 ·rintro⟨i,hi,hp⟩;obtain⟨h1,h2⟩:=(occ_mem _ _ _ _).1 hi;have hm:L.getD i []∈L:=by rw[getD_eq h1];exact List.getElem_mem h1
  exact⟨_,hm,by rw[<-hpf _ hm];exact hp⟩
 ·rintro⟨t,ht,hp⟩;obtain⟨i,hi,rfl⟩:=List.getElem_of_mem ht;have e:L.getD i []=L[i]:=getD_eq hi [];refine⟨i,(occ_mem _ _ _ _).2 ⟨hi,?_⟩,by rw[e,hpf _ ht];exact hp⟩;rw[e];unfold pf at hp;rw[Bool.and_eq_true] at hp;exact of_decide_eq_true hp.2 _ (by rw[getD_eq h0];exact List.getElem_mem h0)
theorem cx_eq {ss L:Jc}(hv:∀s∈ss,VS s) (hs:∀s∈ss,SmS s) (hL:AscS L) (hm:∀z,z∈L↔z∈ss):(L.filter fun s=>!((occ (incN L L.length) (s.getD 0 [])).any fun i=>pfG s (L.getD i [])))=cxP ss:=by
 have hany:∀s,(L.any fun t=>pf s t)=ss.any fun t=>pf s t:=fun s=>by
  rw[Bool.eq_iff_iff,List.any_eq_true,List.any_eq_true];exact⟨fun⟨t,h1,h2⟩=>⟨t,(hm t).1 h1,h2⟩,fun⟨t,h1,h2⟩=>⟨t,(hm t).2 h1,h2⟩⟩
 unfold cxP;refine ascS_unique (hL.filter _) (layS_asc fun s h=>hv s (List.mem_filter.1 h).1) fun z=>?_;rw[layS_mem,List.mem_filter,List.mem_filter,hm];refine and_congr_right fun hz=>?_;obtain⟨h1,h2,h3,h4⟩:=hs z hz;rw[covG_eq (fun t ht=>(hs t ((hm t).1 ht)).2.2.2) h4 h1,hany]
 have:z.isEmpty=false:=by cases z with
  | nil=>simp at h1
  | cons a r=>rfl
 rw[this];simp
end Go.Proofs.YtcnedkkcgdkioaaGreat
namespace Go.Proofs.YtcnedkkcgdkioaaGreat
open Go.RowKit Go.ChangeMaps Go.MapKept Go.WideMaps
theorem sortVsA {w0 w:World}{B n c:Nat}{a:Option Addr}{us:Jc}(hb:Below w0.heap.size w0 w) (hB0:w0.heap.size<=B) (h:OwX 38 1 (EWk w0) w B (.slice a n c) n us) (hn:n<=1000000) :
  Calls Tryz.prog 197 #[.slice a n c,.func (.func 92) #[] #[]] w fun e w'=>
   e = .returned (.tuple #[])/\∃us':Jc,us'.Perm us/\us'.Pairwise (fun a b=>¬cmpS b a < 0)/\OwX 38 1 (EWk w0) w' B (.slice a n c) n us'/\Below B w w':=by
 rcases Nat.eq_zero_or_pos n with h0|h0
 ·subst h0;have hu:us = []:=List.length_eq_zero_iff.1 h.length;subst hu;refine(sortVsNil a c w).mono ?_;rintro e w' ⟨rfl,rfl⟩;exact⟨rfl,[],List.Perm.refl _,List.Pairwise.nil,h,Below.refl _ _⟩
 ·obtain⟨g,cap,he,_⟩:=h.form h0;injection he with e1 e2 e3;subst e1 e3;exact sortVsK hb hB0 h hn
theorem compactVsA {w0 w:World}{B n c:Nat}{a:Option Addr}{xs:Jc}(hb0:Below w0.heap.size w0 w) (hB0:w0.heap.size<=B) (h:OwX 38 1 (EWk w0) w B (.slice a n c) n xs) (hn:n<=1000) :
  Calls Tryz.prog 198 #[.slice a n c,.func (.func 199) #[] #[]] w fun e w'=>∃m,e = .returned (.slice a m c)/\OwX 38 1 (EWk w0) w' B (.slice a m c) m (cmpw xs)/\Below B w w':=by
 rcases Nat.eq_zero_or_pos n with h0|h0
 ·subst h0;have hu:xs = []:=List.length_eq_zero_iff.1 h.length;subst hu;refine(compactVsNil a c w).mono ?_;rintro e w' ⟨rfl,rfl⟩;exact⟨0,rfl,h,Below.refl _ _⟩
 ·obtain⟨g,cap,he,_⟩:=h.form h0;injection he with e1 e2 e3;subst e1 e3;refine(compactVs hb0 hB0 h hn).mono ?_;rintro e w' ⟨m,rfl,h1,h2,_⟩;exact⟨m,rfl,h1,h2⟩
theorem TabV.look {w:World}{b B:Nat}{ms:List (List Int × Nat)}{x:List Int}(h:TabV w b B ms) (hx:WfV x) :
  ∃z,(Instr.lookup 164 (.map (some b)) (vxV x) false).run Tryz.prog w = .ok z w/\OI w B z (occ ms x).length (natI (occ ms x)):=by
 obtain⟨m,hM,hWf,hT⟩:=h;rcases MX.look (vv:=(id:Value->Value)) keyX_vertex umIncT (zRowV w) hM.mx hWf hx with⟨h1,h2,_⟩|⟨v,h1,h2,_⟩
 ·refine⟨_,h2,?_⟩;rw[occ_none fun y hy e=>h1 (by rw[<-e];exact hT.has y hy)];exact OI.nil _ _
 ·obtain⟨i,hi⟩:=List.mem_iff_getElem?.1 h1;exact⟨v,h2,(hT.row i _ hi).2⟩
theorem results_cx1 {fn:Func}(h:fn.results = #[.cell 2 57]) (tmps:Array Value) (w:World) (g1:Nat) {u0:Value}(hp1:tmps.getD 2 undef = .pointer (some ⟨g1,0,none⟩)) (hc1:w.heap[g1]? = some (.cells #[u0] 57)) :
  (results fn tmps).run Tryz.prog w = .ok (.agg #[u0]) w:=by
 have hp1':tmps[2]?.getD undef = .pointer (some ⟨g1,0,none⟩):=by simpa using hp1
 have z0:=cell_of_one hc1;have a1:=Tryz.isAgg57;have s1:=Tryz.sizeOf57;simp only[results,h];simp[Sem.run_bind,Result.andThen,hp1',asAddr,loadVar]
 go_simp
def CxO (w:World) (v:Value) (fs:Jc):Prop:=∃a c,v = .agg #[.slice a fs.length c]/\OwX 38 1 EVx w 0 (.slice a fs.length c) fs.length fs
theorem EVx.ksc {w:World}{a:Option Addr}{c:Nat}{x:Jb}(h:OwX 83 2 EI w 0 (.slice a x.length c) x.length x) (hn:x.length<=1000000):KSC 2 w (.slice a x.length c) x:=by
 obtain⟨a',c',b,off,e,h1,h2,h3⟩:=h.ks (by omega);have hcp:=(OwX.capM h).1;injection e with e1 _ e3;subst e1 e3;exact⟨_,_,b,off,rfl,h1,h2,h3,hcp⟩
theorem OwX.kssc {w:World}{B n:Nat}{v:Value}{fs:Jc}(h:OwX 38 1 EVx w B v n fs) (hn:n<=1000000) (hl:∀x∈fs,x.length<=1000000):KSSC 2 w v fs:=by
 have hln:=h.length;obtain⟨a,c,rfl⟩:=h.shape;subst hln;have hcp:=(OwX.capM h).1;rcases Nat.eq_zero_or_pos fs.length with h0|h0
 ·exact⟨a,c,0,0,rfl,fun h=>absurd h (by omega),fun j hj=>absurd hj (by omega),by omega,hcp⟩
 ·obtain⟨g,cap,he,_⟩:=h.form h0;injection he with e1 e2 e3;subst e1 e3;refine⟨_,_,g,0,rfl,fun _=>rfl,fun j hj=>?_,by omega,hcp⟩;obtain⟨vs,k1,k2,k3,k4⟩:=h;have hvl:vs.length=fs.length * 1:=k1.1;obtain⟨a2,c2,e2,k5⟩:=k4 j fs[j] (List.getElem?_eq_getElem hj);have hc:=World.ownsRow.cellAt k1 j (by omega)
  have hv:vs[j]? = some (.slice a2 fs[j].length c2):=by
   have:=congrArg (fun l=>l[0]?) e2
   simpa [List.getElem?_take,List.getElem?_drop] using this
  rw[getD_eq hj];refine⟨_,by rw[Nat.zero_add,hc];exact hv,EVx.ksc k5 (hl _ (List.getElem_mem hj))⟩
theorem AscS.nodup {l:Jc}(h:AscS l):l.Nodup:=h.imp fun {a b} hab e=>by subst e;exact cmpS_asymm _ _ hab hab
theorem complexOfC {w:World}{v:Value}{ss:Jc}(hK:KSSC 2 w v ss) (hn:ss.length<=1000) (hv:∀s∈ss,VS s) (hs:∀s∈ss,SmS s) :
  Calls Tryz.prog 147 #[v] w fun e w'=>∃v',e = .returned v'/\CxO w' v' (cxP ss)/\Below w.heap.size w w':=by
 obtain⟨W1,hW1⟩:=exF (w.alloc (.cells #[.slice none 0 0] 57));have hb1:Below w.heap.size w W1:=by rw[hW1];exact(Below.refl _ w).alloc (Nat.le_refl _) _
 have hs1:W1.heap.size=w.heap.size+1:=by rw[hW1];simp
 have kR:W1.heap[w.heap.size]? = some (.cells #[.slice none 0 0] 57):=by rw[hW1];exact heap_alloc_new _ _
 have HCl:=qH (cloneVsK (hK.keep hb1) (by omega));obtain⟨va,vc,rfl⟩:=hK.shape;obtain⟨N,hN⟩:=exE (ss.length);obtain⟨R,hR⟩:=exE (cxP ss);rw[hR];rw[hN] at HCl hn|-;replace hN:=qH hN;have kRh:=qH kR;clear kR hK;go_enter Tryz.func147, Tryz.ntmps147
 go_wp2_with fail
 rw[<-hW1];replace hW1:=qH hW1;refine HCl.out.mono ?_;rintro e w2 ⟨u2,rfl,hO2,hb2⟩;obtain⟨a2,c2,rfl⟩:=hO2.shape;go_wp2_with fail
 refine(sortVsA hb2 (Nat.le_refl _) hO2 (by omega)).mono ?_;rintro e w3 ⟨rfl,us',hp,hso,hO3,hb3⟩;replace hso:=qH hso;go_wp2_with fail
 have hb13:=hb2.trans hb3;refine(compactVsA hb13 (Nat.le_refl _) hO3 (by omega)).mono ?_;rintro e w4 ⟨m,rfl,hO4,hb4⟩;have hb14:=hb13.trans hb4;obtain⟨L,hL⟩:=exE (cmpw us');rw[hL] at hO4;have hmem:∀z,z∈L↔z∈ss:=fun z=>by rw[<-hL,cmpw_mem,hp.mem_iff]
 have hasc:AscS L:=by rw[<-hL];exact cmpw_asc (fun s h=>hv s (hp.mem_iff.1 h)) (hso.out.imp fun h=>by omega)
 have hml:=hO4.length
 have hm1:m<=1000:=by
  rw[<-hml,<-hL];have:=cmpw_len_le us'
  have:=hp.length_eq
  have:=hN.out
  omega
 have hK4:=hO4.kssK hb14 (by omega);have hcx:=cx_eq hv hs hasc hmem;have hWf:∀s∈L,∀x∈s,WfV x:=fun s h x hx=>⟨hv s ((hmem s).1 h) x hx,(hs s ((hmem s).1 h)).2.2.1 x hx⟩;have hs8:∀s∈L,0 < s.length/\s.length<=8:=fun s h=>⟨(hs s ((hmem s).1 h)).1,(hs s ((hmem s).1 h)).2.1⟩;have hHI:=qH (incidenceC hK4.kss hWf (by omega) (fun s h=>by have:=(hs8 s h).2;omega));obtain⟨F,hF⟩:∃F:Jb->Bool,F=fun s=>!((occ (incN L L.length) (s.getD 0 [])).any fun i=>pfG s (L.getD i [])):=⟨_,rfl⟩;rw[<-hF,hR] at hcx;subst hml;have hcx:=qH hcx;clear hL hp hso hmem hasc hv hs hO2 hO3;go_wp2_with fail
 refine hHI.out.mono ?_;rintro e w5 ⟨b,rfl,hT5,hb5⟩;obtain⟨W6,hW6⟩:=exF (w5.alloc (.cells #[.slice none 0 0] 57));have hb6:Below w5.heap.size w5 W6:=by rw[hW6];exact(Below.refl _ _).alloc (Nat.le_refl _) _
 have k6:W6.heap[w5.heap.size]? = some (.cells #[.slice none 0 0] 57):=by rw[hW6];exact heap_alloc_new _ _
 have hR5:w5.heap[w.heap.size]? = some (.cells #[.slice none 0 0] 57):=(hb5.block _ (by have:=hb14.size;omega)).trans ((hb14.block _ (by omega)).trans kRh.out);have hb05:Below w.heap.size w w5:=btt (hb1.trans (hb14.mono (by omega))) hb5;have hws:w.heap.size < w5.heap.size:=(Array.getElem?_eq_some_iff.1 hR5).1;have hK5:=hK4.keep hb5;have HK:=qH (fun W (hb:Below w5.heap.size w5 W)=>And.intro (hK5.keep hb) (hT5.keep hb));have hR5:=qH hR5
 obtain⟨lb,lo,ha2⟩:∃lb lo,(0 < L.length->a2=some ⟨lb,lo,none⟩)/\∀j,j < L.length->∃u,w5.cell? ⟨lb,lo+j,none⟩=some u/\KSC 2 w5 u (L.getD j []):=by
  obtain⟨a',c',b',off,e,q1,q2,_⟩:=hK5;injection e with e1 _ _;exact⟨b',off,by rw[e1];exact q1,q2⟩
 obtain⟨ha2,hLc⟩:=ha2;have hcl:=qH hLc;have h0:Hid (OwX 38 1 EVx W6 w5.heap.size (.slice none 0 0) 0 []):=OwX.nil _ _;have hW8:=qH hs8;have hWf:=qH hWf;have hFh:=qH hF;clear hLc hO4 hK4 hK5 hHI hF hs8 hT5;go_wp2_with fail
 rw[<-hW6];replace hW6:=qH hW6;go_loopw [17] (fun iv wr=>∃(i:Nat) (oa:Option Addr) (oc:Nat),iv = .int .i64 i/\i<=L.length/\Hid (OwX 38 1 EVx wr w5.heap.size (.slice oa ((L.take i).filter F).length oc) ((L.take i).filter F).length ((L.take i).filter F)/\wr.heap[w5.heap.size]? = some (.cells #[.slice oa ((L.take i).filter F).length oc] 57))/\Below w5.heap.size w5 wr) (fun iv _=>L.length - (intOf iv).toNat)
 case atStart=>exact⟨0,none,0,rfl,by omega,⟨h0.out,k6⟩,hb6⟩
 case round=>
  clear h0 k6;obtain⟨i,oa,oc,rfl,hi,hO,hbr⟩:=hrel;by_cases hlt:i < L.length
  ·have hii:(i:Int) < (L.length:Int):=(by omega);obtain rfl:=ha2 (by omega);obtain⟨u,hu,hku⟩:=hcl.out i hlt;replace hu:=cell_kept hbr hu;have hsm:L.getD i []∈L:=(by rw[getD_eq hlt];exact List.getElem_mem hlt);have htk:=take_snoc hlt ([]:Jb);obtain⟨s,hse⟩:=exE (L.getD i []);rw[hse] at hku hsm htk;obtain⟨hs0,hs8⟩:=hW8.out s hsm;obtain⟨sa,sc,sb,so,rfl,hsa,hsc,hsl1,hsl2⟩:=id hku;obtain rfl:=hsa hs0;obtain⟨x2,xi⟩:=hsc 0 hs0;have hwf:=hWf.out s hsm (s.getD 0 []) (by rw[getD_eq hs0];exact List.getElem_mem hs0);obtain⟨hKr,hTr⟩:=HK.out wr hbr;obtain⟨z,hlk,hzO⟩:=hTr.look hwf;have hcv:=coveredC hKr (hku.keep hbr) (OI.intsE hzO (by have h1:=occ_len (incN L L.length) (s.getD 0 []);have h2:=incN_len (ss:=L) (fun s h=>by have:=(hW8.out s h).2;omega) L.length;omega)) (fun j hj=>((occ_mem _ _ _ _).1 hj).1);have hFs:F s = !((occ (incN L L.length) (s.getD 0 [])).any fun i=>pfG s (L.getD i [])):=(by rw[hFh.out]);obtain⟨C,hC⟩:∃C,((occ (incN L L.length) (s.getD 0 [])).any fun i=>pfG s (L.getD i []))=C:=⟨_,rfl⟩;rw[hC] at hcv hFs;have hkh:=qH (fun W (hb:Below w5.heap.size w5 W)=>hku.keep hb);obtain⟨x,hx⟩:=exE (s.getD 0 []);rw[hx] at x2 xi hlk;obtain⟨p,q,rfl⟩:=two x2;obtain⟨c0,c1⟩:=xi.all2;replace c0:=cell_kept hbr c0;replace c1:=cell_kept hbr c1;rw[Nat.zero_mul,Nat.add_zero] at c0 c1;have hlk:(Instr.lookup 164 (.map (some b)) (.agg #[.int .i64 p,.int .i64 q]) false).run Tryz.prog wr = .ok z wr:=hlk;have hs0i:(0:Int) < (s.length:Int):=(by omega);have hcv:=qH hcv;clear hC hx hwf hzO hTr hKr xi x2 hsc hku hsa;cases C
   ·have htk2:(L.take (i+1)).filter F=(L.take i).filter F ++ [s]:=(by rw[htk,List.filter_append];simp[hFs]);have hlx:((L.take i).filter F).length<=1000000:=(by have:=List.length_filter_le F (L.take i);rw[List.length_take] at this;omega);obtain⟨xs,hxs⟩:=exE ((L.take i).filter F);rw[hxs] at htk2 hlx hO;have htk2:=qH htk2;have hO2:=qH hO.out;clear htk hFs hO hse hxs;go_wp2_with fail
    refine hcv.out.mono ?_;rintro e w7 ⟨rfl,hb7⟩;have hO3:=hO2.out.1.keep EVx.stb hb7;have k3:=keptO hb7 hO2.out.2;go_upto_region 10 with fail
    refine regCx10 (B:=w5.heap.size) k3 hO3 (fun W hb=>hkh.out W ((btt hbr hb7).trans hb)) (by omega) hlx (Nat.le_refl _) ?_;rintro y3 y4 y5 - W9 ⟨g1,-,-,-,-,G6,G7,-⟩ - - - -;obtain⟨⟨a9,c9,rfl⟩,hO9⟩:=G6 rfl;have k9:=G7 rfl
    have hN9:Hid (OwX 38 1 EVx W9 w5.heap.size (.slice a9 ((L.take (i+1)).filter F).length c9) ((L.take (i+1)).filter F).length ((L.take (i+1)).filter F)/\W9.heap[w5.heap.size]? = some (.cells #[.slice a9 ((L.take (i+1)).filter F).length c9] 57)):=by
     show _/\_;rw[htk2.out,List.length_append];exact⟨hO9,k9⟩
    have hb9:=(btt hbr hb7).trans g1;clear hO9 k9 G6 G7 hO3 k3 hO2;go_wp2_with fail
    go_roundw
    case rel=>exact⟨i+1,a9,c9,by go_num,by omega,hN9,hb9⟩
    case measure=>simp[intOf];omega
   ·have htk2:(L.take (i+1)).filter F=(L.take i).filter F:=(by rw[htk,List.filter_append];simp[hFs]);have hO2:=hO.out;rw[<-htk2] at hO2;have hO2:=qH hO2;clear htk htk2 hFs hO hse;go_wp2_with fail
    refine hcv.out.mono ?_;rintro e w7 ⟨rfl,hb7⟩;have hO3:=qH (And.intro (hO2.out.1.keep EVx.stb hb7) (keptO hb7 hO2.out.2));go_wp2_with fail
    go_roundw
    case rel=>exact⟨i+1,oa,oc,by go_num,by omega,hO3,btt hbr hb7⟩
    case measure=>simp[intOf];omega
  ·obtain rfl:i=L.length:=(by omega);obtain⟨hO2,k2⟩:=hO.out;rw[List.take_length,hcx.out] at hO2 k2;have kRr:=(hbr.block _ hws).trans hR5.out;have z0:=cell_of_one k2;have zr:=cell_of_one kRr;have fz:=row_free kRr;have m1:=heap_setCell_same wr w.heap.size 0 _ _ (.slice oa R.length oc) kRr;have hO3:=hO2.other EVx.stc (by decide) (KeepX.setCell (p:=⟨w.heap.size,0,none⟩) kRr (.slice oa R.length oc));have hbe:=(btt hb05 hbr).setCell (p:=⟨w.heap.size,0,none⟩) (Nat.le_refl _) (.slice oa R.length oc);have hO3:=qH hO3;replace m1:=qH m1;clear hO hO2 k2 kRr;go_wp2;exact⟨rfl,_,results_cx1 rfl _ _ _ rfl m1.out,_,rfl,⟨_,_,rfl,hO3.out.base (Nat.zero_le _)⟩,hbe⟩
end Go.Proofs.YtcnedkkcgdkioaaGreat
