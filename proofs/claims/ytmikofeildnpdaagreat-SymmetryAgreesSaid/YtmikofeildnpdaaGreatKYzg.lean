/- Texts of this claim, put together: ZN ZS. -/
import Derived.Test.YtmikofeildnpdaaGreatKYzf
import Derived.Test.YtmikofeildnpdaaGreatKYs
import Derived.Test.YtmikofeildnpdaaGreatKYk

set_option maxRecDepth 100000
set_option maxHeartbeats 12800000
/- task.Permute. -/
namespace Go.Proofs.YtmikofeildnpdaaGreat
open Go.RowKit
theorem getD_map_ren {a:List Int} {cs:List Cs} {j:Nat} (h:j < cs.length):(cs.map (renC a)).getD j csNil=renC a (cs.getD j csNil):=by
 rw [getD_eq (by rw [List.length_map]; exact h),List.getElem_map,getD_eq h]
def TskO (w:World) (r:Value) (n ins outs:Int) (cs:List Cs):Prop:=∃ sv,r = .agg #[.int .i64 n,.int .i64 ins,.int .i64 outs,sv]∧OwX 128 3 ECs w 0 sv cs.length cs∧∀ w' v',OwX 128 3 ECs w' 0 v' cs.length cs→CsS w' v' cs
theorem TskO.keep {w w':World} {r:Value} {n ins outs:Int} {cs:List Cs} (h:TskO w r n ins outs cs) (hb:Below w.heap.size w w'):TskO w' r n ins outs cs:=by
 obtain ⟨sv,h1,h2,h3⟩:=h
 exact ⟨sv,h1,h2.keep ECs.stab hb,h3⟩
theorem permuteTaskO {w:World} {v u:Value} {n:Nat} {ins outs:Int} {cs:List Cs} {a:List Int} (hT:TaskV w v (n:Int) ins outs cs) (hz:chkT (n:Int) ins outs cs=0) (hcm:∀ c∈cs,c.2.2.length≤100000) (ha:IsP n a) (hu:Ints w u a) :
  Calls Tryz.prog 77 #[v,u] w fun e w'=>∃ r,e = .returned (.tuple #[r,.int .i64 0])∧TaskV w' r (n:Int) ins outs (renT a cs)∧TskO w' r (n:Int) ins outs (renT a cs)∧Below w.heap.size w w':=by
 have hOK:=TskOK.of hz
 have h1:=hOK.n1
 have h5:=hOK.n5
 have hca:=chk_of h1 h5 ha
 have HT:=Lib.hid (fun W (hb:Below w.heap.size w W)=>checkT (hT.keep hb))
 rw [hz] at HT
 have HP:=Lib.hid (fun W (hb:Below w.heap.size w W)=>check (hu.keep hb))
 rw [hca] at HP
 obtain ⟨sv,rfl,hS⟩:=hT
 obtain ⟨sa,sc,rfl⟩:=hS.shape
 obtain ⟨ua,uc,rfl⟩:=hu.shape
 have han:a.length=n:=ha.1
 have hah:=Lib.hid ha
 have huh:=Lib.hid hu
 have hsl:=hOK.short
 have hlen:=Lib.hid hOK.len
 have hou:=Lib.hid hOK.outs
 replace hcm:=Lib.hid hcm
 have hOKh:=Lib.hid hOK
 obtain ⟨tb,toff,rfl,hCC⟩:=hS.at (by omega)
 have hCCh:=Lib.hid hCC
 obtain ⟨M,hM⟩:=exE (cs.map (renC a))
 have hMl:Hid (M.length=cs.length):=by rw [← hM,List.length_map]; exact rfl
 have hMi:Hid (∀ j,j < cs.length→M.getD j csNil=renC a (cs.getD j csNil)):=fun j hj=>by rw [← hM,getD_map_ren hj]
 have hR:Hid (∀ m:List Cs,m.Perm M→m.Pairwise (fun a b=>¬ cmpC b a < 0)→m=renT a cs):=fun m hp hs=>renT_of hOK ha (by rw [hM]; exact hp) hs
 have hRl:Hid (∀ x∈renT a cs,x.2.1.length≤1000000∧x.2.2.length≤1000000∧(∀ y∈x.2.1,y.length≤1000)∧∀ y∈x.2.2,y.length≤1000):=fun x hx=>by
  obtain ⟨c,hc,rfl⟩:=List.mem_map.1 ((srtB_mem weakC _).1 hx)
  have ho:=hou.out c hc
  have hm:=hcm.out c hc
  have hmv:∀ l:List (List Int),∀ y∈mvAll a l,y.length≤1000:=fun l y hy=>by
   obtain ⟨z,_,rfl⟩:=List.mem_map.1 ((srtB_mem weakL _).1 hy)
   rw [movedL_length,han]; omega
  exact ⟨by show (mvAll a c.2.1).length≤_; rw [mvAll_len]; omega,by show (mvAll a c.2.2).length≤_; rw [mvAll_len]; omega,hmv _,hmv _⟩
 replace hM:=Lib.hid hM
 obtain ⟨W1,hW1⟩:=exF ((w.alloc (.cells #[.int .i64 (n:Int),.int .i64 ins,.int .i64 outs,.slice (some ⟨tb,toff,none⟩) cs.length sc] 64)).alloc (.cells #[.int .i64 0,.int .i64 0,.int .i64 0,.slice none 0 0] 64))
 have hb1:Below w.heap.size w W1:=by rw [hW1]; exact ((Below.refl _ _).alloc (Nat.le_refl _) _).alloc (by simp) _
 have m0:W1.heap[w.heap.size]? = some (.cells #[.int .i64 (n:Int),.int .i64 ins,.int .i64 outs,.slice (some ⟨tb,toff,none⟩) cs.length sc] 64):=by rw [hW1]; exact (Below.heap_alloc _ _ _ (by simp)).trans (heap_alloc_new _ _)
 have m1:W1.heap[w.heap.size+1]? = some (.cells #[.int .i64 0,.int .i64 0,.int .i64 0,.slice none 0 0] 64):=by
  have h:=heap_alloc_new (w.alloc (.cells #[.int .i64 (n:Int),.int .i64 ins,.int .i64 outs,.slice (some ⟨tb,toff,none⟩) cs.length sc] 64)) (.cells #[.int .i64 0,.int .i64 0,.int .i64 0,.slice none 0 0] 64)
  rw [World.size_alloc] at h
  rw [hW1]; exact h
 have HK:=Lib.hid (fun W (hb:Below W1.heap.size W1 W)=>keep4 hb (box4' m0))
 obtain ⟨p0,p1,p2,p3⟩:=HK.out W1 (Below.refl _ _)
 have hanI:((a.length:Int) != (n:Int))=false:=by rw [han]; simp
 replace han:=Lib.hid han
 replace h1:=Lib.hid h1
 replace h5:=Lib.hid h5
 replace hsl:=Lib.hid hsl
 clear hS hCC hu ha hOK hca hz m0
 go_enter Tryz.func77, Tryz.ntmps77
 go_wp2_with fail
 rw [← hW1]
 replace hW1:=Lib.hid hW1
 refine (HT.out _ hb1).mono ?_
 rintro e w2 ⟨rfl,hb2⟩
 have hw2:=bt hb1 hb2 hb1.size
 clear p0 p1 p2 p3
 obtain ⟨p0,p1,p2,p3⟩:=HK.out w2 hb2
 go_wp2_with fail
 refine (HP.out _ hw2).mono ?_
 rintro e w3 ⟨rfl,hb3⟩
 have hw3:=bt hw2 hb3 hw2.size
 have hb13:=btt hb2 hb3
 clear p0 p1 p2 p3 HT HP
 obtain ⟨p0,p1,p2,-⟩:=HK.out w3 hb13
 obtain ⟨W4,hW4⟩:=exF (w3.alloc (.cells #[.int .i64 (n:Int),.int .i64 ins,.int .i64 outs,.slice none 0 0] 64))
 have hb4:Below w3.heap.size w3 W4:=by rw [hW4]; exact (Below.refl _ _).alloc (Nat.le_refl _) _
 have m4:W4.heap[w3.heap.size]? = some (.cells #[.int .i64 (n:Int),.int .i64 ins,.int .i64 outs,.slice none 0 0] 64):=by rw [hW4]; exact heap_alloc_new _ _
 have hsz4:Hid (w3.heap.size+1=W4.heap.size):=by rw [hW4,World.size_alloc]; exact rfl
 obtain ⟨-,-,-,p3⟩:=HK.out W4 (btt hb13 hb4)
 rw [hW4] at p3
 have ho4:OwX 128 3 ECs W4 w3.heap.size (.slice none 0 0) 0 (M.take 0):=OwX.nil _ _
 go_wp2_with fail
 rw [← hW4]
 replace hW4:=Lib.hid hW4
 go_loopw [39] (fun jv wr=>∃ (j:Nat) (tv:Value),jv = .int .i64 (j:Int)∧j≤cs.length∧Hid (Below w3.heap.size w3 wr)∧wr.heap[w3.heap.size]? = some (.cells #[.int .i64 (n:Int),.int .i64 ins,.int .i64 outs,tv] 64)∧
  OwX 128 3 ECs wr w3.heap.size tv j (M.take j)∧w3.heap.size≤wr.heap.size) (fun jv _=>cs.length - (intOf jv).toNat)
 case atStart=>exact ⟨0,_,rfl,Nat.zero_le _,hb4,m4,ho4,by rw [← hsz4.out]; omega⟩
 case round=>
  clear m4 ho4 p0 p1 p2 p3 hb4
  obtain ⟨j,tv,rfl,hj,hb,c8,ho,hsz⟩:=hrel
  by_cases hlt:j < cs.length
  ·have hltI:(j:Int) < (cs.length:Int):=by omega
   obtain ⟨u0,u1,u2,k0,k1,k2,i0,i1,i2⟩:=hCCh.out j hlt
   obtain ⟨x,hx⟩:=exE (cs.getD j csNil)
   have hxm:x∈cs:=by rw [← hx]; exact getD_mem hlt
   have hbw:=bt hw3 hb.out hw3.size
   rw [hx] at i0 i1 i2
   obtain ⟨a0,b0,rfl⟩:=i0.shape
   obtain ⟨a1,b1,rfl⟩:=i1.shape
   obtain ⟨a2,b2,rfl⟩:=i2.shape
   replace k0:=cell_kept hbw k0
   replace k1:=cell_kept hbw k1
   replace k2:=cell_kept hbw k2
   obtain ⟨W5,hW5⟩:=exF (wr.alloc (.cells #[.slice a0 x.1.length b0,.slice a1 x.2.1.length b1,.slice a2 x.2.2.length b2] 128))
   have hb5:Below wr.heap.size wr W5:=by rw [hW5]; exact (Below.refl _ _).alloc (Nat.le_refl _) _
   have m5:W5.heap[wr.heap.size]? = some (.cells #[.slice a0 x.1.length b0,.slice a1 x.2.1.length b1,.slice a2 x.2.2.length b2] 128):=by rw [hW5]; exact heap_alloc_new _ _
   have hb5w:=bt hbw hb5 hbw.size
   have c85:=(hb5.block _ (Array.getElem?_eq_some_iff.1 c8).1).trans c8
   have ho5:=ho.keep ECs.stab hb5
   have hstep:Hid (M.take (j+1)=M.take j ++ [renC a x]):=by show _=_; rw [take_snoc (by rw [hMl.out]; exact hlt) csNil,hMi.out j hlt,hx]
   have hj6:Hid (j≤1000000):=by show _≤_; have:=hsl.out; omega
   have hh:=Lib.hid (And.intro c85 (And.intro m5 (And.intro ho5 (And.intro (i0.keep hb5w) (And.intro (i1.keep hb5w) (And.intro (i2.keep hb5w) (huh.out.keep hb5w)))))))
   have hs5:Hid (w3.heap.size≤W5.heap.size):=Nat.le_trans hsz hb5.size
   have hbw5:=Lib.hid (hb.out.trans (hb5.mono hb.out.size))
   have hfx:=Lib.hid (And.intro (hlen.out x hxm) (And.intro (Nat.le_trans (hou.out x hxm) (show 1024≤100000 by decide)) (hcm.out x hxm)))
   clear hxm hx i0 i1 i2 hbw hb5w c85 m5 ho5 ho c8 hb5
   go_upto_region 13 with fail
   rw [← hW5]
   obtain ⟨c85,m5,ho5,i0,i1,i2,i3⟩:=hh.out
   refine regPermute13 (b8:=w3.heap.size) (b10:=wr.heap.size) (B:=w3.heap.size) (j:=j) (nn:=n) (n:=(n:Int)) (i:=ins) (o:=outs) (a:=a) (x:=x) (xs:=M.take j) c85 m5 (Nat.le_refl _) hs5.out ho5 hj6.out h1.out h5.out hah.out hfx.out.1 hfx.out.2.1 hfx.out.2.2 i0 i1 i2 i3 ?_
   intro y4 y6 y7 y8 y12 y16 y17 y18 y19 y21 W6 hG _ _ _ _ _ _ _ _ _ _
   obtain ⟨r1,r2,r3⟩:=hG.2.2.2 rfl
   rw [← hstep.out] at r1
   clear hG hh hW5
   have hj24:=hsl.out.2
   go_wp2_with fail
   go_roundw
   case rel=>exact ⟨j+1,y19,by go_num,by omega,hbw5.out.trans r2,r3,r1,Nat.le_trans hs5.out r2.size⟩
   case measure=>simp [intOf]; omega
  ·obtain rfl:j=cs.length:=by omega
   rw [List.take_of_length_le (by rw [hMl.out]; exact Nat.le_refl _)] at ho
   obtain ⟨g,cap,rfl,hgB⟩:=ho.form (by have:=hsl.out; omega)
   have HS:=Lib.hid (sortCases ho (by have:=hsl.out; omega) (by have:=hsl.out; omega))
   obtain ⟨q0,q1,q2,q3⟩:=box4' c8
   have hbw:=Lib.hid (bt hw3 hb.out hw3.size)
   replace c8:=Lib.hid c8
   clear ho
   go_wp2_with fail
   refine HS.out.mono ?_
   rintro e w7 ⟨rfl,m,hp,hs,hO2,hb7,hk7⟩
   have hm:=hR.out m hp hs
   subst hm
   have c7:=(hk7 _ _ _ c8.out (by decide)).trans c8.out
   obtain ⟨z0,z1,z2,z3⟩:=boxL4 c7
   have hO3:=Lib.hid hO2
   have hb37:=hb.out.trans hb7
   have hwf:=bt hw3 hb37 hw3.size
   have mB:=((btt hb13 hb37).block _ (Array.getElem?_eq_some_iff.1 m1).1).trans m1
   obtain ⟨f0,f1,f2,f3⟩:=freeL4 mB
   obtain ⟨y0,y1,y2,y3⟩:=boxL4 mB
   have hcl:(renT a cs).length=cs.length:=renT_len a cs
   clear HS HK hMi hR c8 hO2 hp hs
   go_wp2
   refine storeEnd4 (u0:=.int .i64 (n:Int)) (u1:=.int .i64 ins) (u2:=.int .i64 outs) (u3:=.slice (some ⟨g,0,none⟩) cs.length cap) mB ?_
   intro W9 hW9 hb9 hk9 _ e0 e1 e2 e3
   rw [← hW9]
   refine bodyPost_ret (v:=.tuple #[.agg #[.int .i64 (n:Int),.int .i64 ins,.int .i64 outs,.slice (some ⟨g,0,none⟩) cs.length cap],.int .i64 0]) (by simp [results,Tryz.results77,go_sem,e0,e1,e2,e3]) rfl ?_
   have hO9:=hO3.out.other (E':=64) ECs.stabT (by decide) hk9
   exact ⟨_,rfl,⟨_,rfl,hO9.css (by have:=hsl.out; omega) hRl.out⟩,⟨_,rfl,by rw [hcl]; exact hO9.base (Nat.zero_le _),fun w' v' h=>h.css (by rw [hcl]; have:=hsl.out; omega) hRl.out⟩,hb9 _ _ (by omega) hwf⟩
theorem permuteTask {w:World} {v u:Value} {n:Nat} {ins outs:Int} {cs:List Cs} {a:List Int} (hT:TaskV w v (n:Int) ins outs cs) (hz:chkT (n:Int) ins outs cs=0) (hcm:∀ c∈cs,c.2.2.length≤100000) (ha:IsP n a) (hu:Ints w u a) :
  Calls Tryz.prog 77 #[v,u] w fun e w'=>∃ r,e = .returned (.tuple #[r,.int .i64 0])∧TaskV w' r (n:Int) ins outs (renT a cs)∧Below w.heap.size w w':=by
 refine (permuteTaskO hT hz hcm ha hu).mono ?_
 rintro e w' ⟨r,h1,h2,_,h4⟩
 exact ⟨r,h1,h2,h4⟩
end Go.Proofs.YtmikofeildnpdaaGreat

/- law21.consensus. -/
namespace Go.Proofs.YtmikofeildnpdaaGreat
open Go.RowKit
def IntB (W:World) (v:Value) (a b:Int):Prop:=∃ g,v = .slice (some ⟨g,0,none⟩) 2 2∧W.heap[g]? = some (.cells #[.int .i64 a,.int .i64 b] 3)
theorem IntB.stab {W W':World} {v:Value} {a b:Int} (h:IntB W v a b) (hk:KeepX 64 W W'):IntB W' v a b:=by
 obtain ⟨g,e,h⟩:=h
 exact ⟨g,e,(hk _ _ _ h (by decide)).trans h⟩
theorem IntB.ints {W:World} {v:Value} {a b:Int} (h:IntB W v a b):Ints W v [a,b]:=by
 obtain ⟨g,rfl,h⟩:=h
 obtain ⟨p0,p1⟩:=boxL2 h
 refine ⟨_,_,g,0,rfl,fun _=>rfl,fun j hj=>?_,show 2≤17592186044416 by decide⟩
 match j,hj with
 | 0,_=>exact p0
 | 1,_=>exact p1
theorem IntB.shape {W:World} {v:Value} {a b:Int} (h:IntB W v a b):∃ g,v = .slice (some ⟨g,0,none⟩) 2 2:=by obtain ⟨g,e,_⟩:=h; exact ⟨g,e⟩
def oCons2_0:Oper:=⟨some 5,Op.buildSlice 25 2 #[(0,Operand.const (Value.int IntKind.i64 0)),(1,Operand.const (Value.int IntKind.i64 0))],25,"law.go:32",#[],none⟩
def oCons2_1:Oper:=⟨some 6,Op.move (Operand.tmp 1),39,"law.go:32",#[],none⟩
def oCons2_2:Oper:=⟨some 7,Op.slice 39 (Operand.tmp 6) none (some (Operand.const (Value.int IntKind.i64 1))) none,39,"law.go:32",#[⟨1,.data⟩],none⟩
def oCons2_3:Oper:=⟨some 8,Op.build 128 #[(0,Operand.tmp 5),(1,Operand.tmp 7)],128,"law.go:32",#[⟨0,.data⟩,⟨2,.data⟩],none⟩
def oCons2_4:Oper:=⟨some 9,Op.buildSlice 25 2 #[(0,Operand.const (Value.int IntKind.i64 0)),(1,Operand.const (Value.int IntKind.i64 1))],25,"law.go:32",#[],none⟩
def oCons2_5:Oper:=⟨some 10,Op.move (Operand.tmp 1),39,"law.go:32",#[],none⟩
def oCons2_6:Oper:=⟨some 11,Op.build 128 #[(0,Operand.tmp 9),(1,Operand.tmp 10)],128,"law.go:32",#[⟨4,.data⟩,⟨5,.data⟩],none⟩
def oCons2_7:Oper:=⟨some 12,Op.buildSlice 25 2 #[(0,Operand.const (Value.int IntKind.i64 1)),(1,Operand.const (Value.int IntKind.i64 0))],25,"law.go:32",#[],none⟩
def oCons2_8:Oper:=⟨some 13,Op.move (Operand.tmp 1),39,"law.go:32",#[],none⟩
def oCons2_9:Oper:=⟨some 14,Op.build 128 #[(0,Operand.tmp 12),(1,Operand.tmp 13)],128,"law.go:32",#[⟨7,.data⟩,⟨8,.data⟩],none⟩
def oCons2_10:Oper:=⟨some 15,Op.buildSlice 25 2 #[(0,Operand.const (Value.int IntKind.i64 1)),(1,Operand.const (Value.int IntKind.i64 1))],25,"law.go:32",#[],none⟩
def oCons2_11:Oper:=⟨some 16,Op.move (Operand.tmp 1),39,"law.go:32",#[],none⟩
def oCons2_12:Oper:=⟨some 17,Op.slice 39 (Operand.tmp 16) (some (Operand.const (Value.int IntKind.i64 1))) none none,39,"law.go:32",#[⟨11,.data⟩],none⟩
def oCons2_13:Oper:=⟨some 18,Op.build 128 #[(0,Operand.tmp 15),(1,Operand.tmp 17)],128,"law.go:32",#[⟨10,.data⟩,⟨12,.data⟩],none⟩
def oCons2_14:Oper:=⟨some 19,Op.buildSlice 62 4 #[(0,Operand.tmp 8),(1,Operand.tmp 11),(2,Operand.tmp 14),(3,Operand.tmp 18)],62,"law.go:32",#[⟨3,.data⟩,⟨6,.data⟩,⟨9,.data⟩,⟨13,.data⟩],none⟩
def oCons2_15:Oper:=⟨some 20,Op.build 64 #[(0,Operand.const (Value.int IntKind.i64 2)),(1,Operand.const (Value.int IntKind.i64 2)),(2,Operand.const (Value.int IntKind.i64 2)),(3,Operand.tmp 19)],64,"law.go:32",#[⟨14,.data⟩],none⟩
def oCons2_16:Oper:=⟨none,Op.store 64 (Operand.tmp 0) (Operand.tmp 20),0,"law.go:32",#[⟨15,.data⟩,⟨0,.phase⟩,⟨1,.phase⟩,⟨2,.phase⟩,⟨3,.phase⟩,⟨4,.phase⟩,⟨5,.phase⟩,⟨6,.phase⟩,⟨7,.phase⟩,⟨8,.phase⟩,⟨9,.phase⟩,⟨10,.phase⟩,⟨11,.phase⟩,⟨12,.phase⟩,⟨13,.phase⟩,⟨14,.phase⟩,⟨15,.phase⟩],none⟩
def opsCons2:List Oper:=[oCons2_0,oCons2_1,oCons2_2,oCons2_3,oCons2_4,oCons2_5,oCons2_6,oCons2_7,oCons2_8,oCons2_9,oCons2_10,oCons2_11,oCons2_12,oCons2_13,oCons2_14,oCons2_15,oCons2_16]
theorem regCons2 {w:World} {x2 x3 x4 x5 x6 x7 x8 x9 x10 x11 x12 x13 x14 x15 x16 x17 x18 x19 x20:Value} {Q:Exit→Act→World→Prop} {b0 b1:Nat} {z0 z1 z2 z3:Value}
  (q0:w.heap[b0]? = some (.cells #[z0,z1,z2,z3] 64))
  (hfin:∀ (y0 y3 y4 y6 y7 y9 y10 y13 y14 y15 _y16:Value) (W:World),(((fun i=>decide (i < 17)) 16=false→Below w.heap.size w W)∧((fun i=>decide (i < 17)) 16=true→Below b0 w W∧KeepX 64 w W∧∃ g g0 g1 g2 g3,W.heap[b0]? = some (.cells #[.int .i64 2,.int .i64 2,.int .i64 2,.slice (some ⟨g,0,none⟩) 4 4] 64)∧W.heap[g]? = some (.cells #[.slice (some ⟨g0,0,none⟩) 2 2,.slice (some ⟨b1,0,none⟩) 1 2,.slice none 0 0,.slice (some ⟨g1,0,none⟩) 2 2,.slice (some ⟨b1,0,none⟩) 2 2,.slice none 0 0,.slice (some ⟨g2,0,none⟩) 2 2,.slice (some ⟨b1,0,none⟩) 2 2,.slice none 0 0,.slice (some ⟨g3,0,none⟩) 2 2,.slice (some ⟨b1,1,none⟩) 1 1,.slice none 0 0] 128)∧IntB W (.slice (some ⟨g0,0,none⟩) 2 2) 0 0∧IntB W (.slice (some ⟨g1,0,none⟩) 2 2) 0 1∧IntB W (.slice (some ⟨g2,0,none⟩) 2 2) 1 0∧IntB W (.slice (some ⟨g3,0,none⟩) 2 2) 1 1))→(IntB W y0 0 0)→(∃ g,y3 = .agg #[.slice (some ⟨g,0,none⟩) 2 2,.slice (some ⟨b1,0,none⟩) 1 2,.slice none 0 0]∧IntB W (.slice (some ⟨g,0,none⟩) 2 2) 0 0)→(IntB W y4 0 1)→(∃ g,y6 = .agg #[.slice (some ⟨g,0,none⟩) 2 2,.slice (some ⟨b1,0,none⟩) 2 2,.slice none 0 0]∧IntB W (.slice (some ⟨g,0,none⟩) 2 2) 0 1)→(IntB W y7 1 0)→(∃ g,y9 = .agg #[.slice (some ⟨g,0,none⟩) 2 2,.slice (some ⟨b1,0,none⟩) 2 2,.slice none 0 0]∧IntB W (.slice (some ⟨g,0,none⟩) 2 2) 1 0)→(IntB W y10 1 1)→(∃ g,y13 = .agg #[.slice (some ⟨g,0,none⟩) 2 2,.slice (some ⟨b1,1,none⟩) 1 1,.slice none 0 0]∧IntB W (.slice (some ⟨g,0,none⟩) 2 2) 1 1)→(∃ g g0 g1 g2 g3,y14 = .slice (some ⟨g,0,none⟩) 4 4∧W.heap[g]? = some (.cells #[.slice (some ⟨g0,0,none⟩) 2 2,.slice (some ⟨b1,0,none⟩) 1 2,.slice none 0 0,.slice (some ⟨g1,0,none⟩) 2 2,.slice (some ⟨b1,0,none⟩) 2 2,.slice none 0 0,.slice (some ⟨g2,0,none⟩) 2 2,.slice (some ⟨b1,0,none⟩) 2 2,.slice none 0 0,.slice (some ⟨g3,0,none⟩) 2 2,.slice (some ⟨b1,1,none⟩) 1 1,.slice none 0 0] 128)∧IntB W (.slice (some ⟨g0,0,none⟩) 2 2) 0 0∧IntB W (.slice (some ⟨g1,0,none⟩) 2 2) 0 1∧IntB W (.slice (some ⟨g2,0,none⟩) 2 2) 1 0∧IntB W (.slice (some ⟨g3,0,none⟩) 2 2) 1 1)→(∃ g g0 g1 g2 g3,y15 = .agg #[.int .i64 2,.int .i64 2,.int .i64 2,.slice (some ⟨g,0,none⟩) 4 4]∧W.heap[g]? = some (.cells #[.slice (some ⟨g0,0,none⟩) 2 2,.slice (some ⟨b1,0,none⟩) 1 2,.slice none 0 0,.slice (some ⟨g1,0,none⟩) 2 2,.slice (some ⟨b1,0,none⟩) 2 2,.slice none 0 0,.slice (some ⟨g2,0,none⟩) 2 2,.slice (some ⟨b1,0,none⟩) 2 2,.slice none 0 0,.slice (some ⟨g3,0,none⟩) 2 2,.slice (some ⟨b1,1,none⟩) 1 1,.slice none 0 0] 128)∧IntB W (.slice (some ⟨g0,0,none⟩) 2 2) 0 0∧IntB W (.slice (some ⟨g1,0,none⟩) 2 2) 0 1∧IntB W (.slice (some ⟨g2,0,none⟩) 2 2) 1 0∧IntB W (.slice (some ⟨g3,0,none⟩) 2 2) 1 1)→(True)→Q .normal ⟨#[.pointer (some ⟨b0,0,none⟩),.slice (some ⟨b1,0,none⟩) 2 2,x2,x3,x4,y0,.slice (some ⟨b1,0,none⟩) 2 2,.slice (some ⟨b1,0,none⟩) 1 2,y3,y4,.slice (some ⟨b1,0,none⟩) 2 2,y6,y7,.slice (some ⟨b1,0,none⟩) 2 2,y9,y10,.slice (some ⟨b1,0,none⟩) 2 2,.slice (some ⟨b1,1,none⟩) 1 1,y13,y14,y15],[]⟩ W) :
  (Code.region 2 opsCons2.toArray true).wp Tryz.prog Q ⟨#[.pointer (some ⟨b0,0,none⟩),.slice (some ⟨b1,0,none⟩) 2 2,x2,x3,x4,x5,x6,x7,x8,x9,x10,x11,x12,x13,x14,x15,x16,x17,x18,x19,x20],[]⟩ w:=by
 obtain ⟨fr,hfr⟩:∃ fr:Value→Value→Value→Value→Value→Value→Value→Value→Value→Value→Value→Value→Value→Value→Value→Value→Act,fr=fun y0 y1 y2 y3 y4 y5 y6 y7 y8 y9 y10 y11 y12 y13 y14 y15=>⟨#[.pointer (some ⟨b0,0,none⟩),.slice (some ⟨b1,0,none⟩) 2 2,x2,x3,x4,y0,y1,y2,y3,y4,y5,y6,y7,y8,y9,y10,y11,y12,y13,y14,y15],[]⟩:=⟨_,rfl⟩
 obtain ⟨GG,hGG⟩:∃ GG:(Nat→Bool)→World→Prop,GG=fun D W=>(D 16=false→Below w.heap.size w W)∧(D 16=true→Below b0 w W∧KeepX 64 w W∧∃ g g0 g1 g2 g3,W.heap[b0]? = some (.cells #[.int .i64 2,.int .i64 2,.int .i64 2,.slice (some ⟨g,0,none⟩) 4 4] 64)∧W.heap[g]? = some (.cells #[.slice (some ⟨g0,0,none⟩) 2 2,.slice (some ⟨b1,0,none⟩) 1 2,.slice none 0 0,.slice (some ⟨g1,0,none⟩) 2 2,.slice (some ⟨b1,0,none⟩) 2 2,.slice none 0 0,.slice (some ⟨g2,0,none⟩) 2 2,.slice (some ⟨b1,0,none⟩) 2 2,.slice none 0 0,.slice (some ⟨g3,0,none⟩) 2 2,.slice (some ⟨b1,1,none⟩) 1 1,.slice none 0 0] 128)∧IntB W (.slice (some ⟨g0,0,none⟩) 2 2) 0 0∧IntB W (.slice (some ⟨g1,0,none⟩) 2 2) 0 1∧IntB W (.slice (some ⟨g2,0,none⟩) 2 2) 1 0∧IntB W (.slice (some ⟨g3,0,none⟩) 2 2) 1 1):=⟨_,rfl⟩
 have st0 {D:Nat→Bool} {y0 y1 y2 y3 y4 y5 y6 y7 y8 y9 y10 y11 y12 y13 y14 y15:Value} {W:World} {K:Act→World→Prop} (hD:D 0=false) (hcl:ClG opsCons2.toArray D) (hd:True) (hG:GG D W) (hK:∀ (v:Value) (W':World),(KeepX 64 W W')→GG (addG D 0) W'→(IntB W' v 0 0)→K (fr v y1 y2 y3 y4 y5 y6 y7 y8 y9 y10 y11 y12 y13 y14 y15) W'):Oper.wp Tryz.prog oCons2_0 (fr y0 y1 y2 y3 y4 y5 y6 y7 y8 y9 y10 y11 y12 y13 y14 y15) W K Q:=by
  subst hfr hGG
  unfold oCons2_0
  obtain ⟨g1,g2⟩:=hG
  have d16:=hcl.no (j:=16) (i:=0) rfl (by kernel_rfl) hD
  have hb:=g1 d16
  have hba:=(Below.refl W.heap.size W).alloc (Nat.le_refl _) (.cells #[.int .i64 0,.int .i64 0] 3)
  go_simp
  exact hK _ _ (KeepX.below hba) ⟨fun _=>btt hb hba,fun h=>(by rw [show addG D 0 16=D 16 from rfl,d16] at h; cases h)⟩ ⟨_,rfl,heap_alloc_new _ _⟩
 have st1 {D:Nat→Bool} {y0 y1 y2 y3 y4 y5 y6 y7 y8 y9 y10 y11 y12 y13 y14 y15:Value} {W:World} {K:Act→World→Prop} (hD:D 1=false) (hcl:ClG opsCons2.toArray D) (hd:True) (hG:GG D W) (hK:∀ (v:Value) (W':World),(KeepX 64 W W')→GG (addG D 1) W'→(v = .slice (some ⟨b1,0,none⟩) 2 2)→K (fr y0 v y2 y3 y4 y5 y6 y7 y8 y9 y10 y11 y12 y13 y14 y15) W'):Oper.wp Tryz.prog oCons2_1 (fr y0 y1 y2 y3 y4 y5 y6 y7 y8 y9 y10 y11 y12 y13 y14 y15) W K Q:=by
  subst hfr hGG
  unfold oCons2_1
  obtain ⟨g1,g2⟩:=hG
  go_simp
  exact hK _ _ (KeepX.refl _ _) ⟨g1,g2⟩ rfl
 have st2 {D:Nat→Bool} {y0 y1 y2 y3 y4 y5 y6 y7 y8 y9 y10 y11 y12 y13 y14 y15:Value} {W:World} {K:Act→World→Prop} (hD:D 2=false) (hcl:ClG opsCons2.toArray D) (hd:(D 1=true∧y1 = .slice (some ⟨b1,0,none⟩) 2 2)∧True) (hG:GG D W) (hK:∀ (v:Value) (W':World),(KeepX 64 W W')→GG (addG D 2) W'→(v = .slice (some ⟨b1,0,none⟩) 1 2)→K (fr y0 y1 v y3 y4 y5 y6 y7 y8 y9 y10 y11 y12 y13 y14 y15) W'):Oper.wp Tryz.prog oCons2_2 (fr y0 y1 y2 y3 y4 y5 y6 y7 y8 y9 y10 y11 y12 y13 y14 y15) W K Q:=by
  subst hfr hGG
  unfold oCons2_2
  obtain ⟨⟨_,rfl⟩,-⟩:=hd
  obtain ⟨g1,g2⟩:=hG
  go_simp
  exact hK _ _ (KeepX.refl _ _) ⟨g1,g2⟩ rfl
 have st3 {D:Nat→Bool} {y0 y1 y2 y3 y4 y5 y6 y7 y8 y9 y10 y11 y12 y13 y14 y15:Value} {W:World} {K:Act→World→Prop} (hD:D 3=false) (hcl:ClG opsCons2.toArray D) (hd:(D 0=true∧IntB W y0 0 0)∧(D 2=true∧y2 = .slice (some ⟨b1,0,none⟩) 1 2)∧True) (hG:GG D W) (hK:∀ (v:Value) (W':World),(KeepX 64 W W')→GG (addG D 3) W'→(∃ g,v = .agg #[.slice (some ⟨g,0,none⟩) 2 2,.slice (some ⟨b1,0,none⟩) 1 2,.slice none 0 0]∧IntB W' (.slice (some ⟨g,0,none⟩) 2 2) 0 0)→K (fr y0 y1 y2 v y4 y5 y6 y7 y8 y9 y10 y11 y12 y13 y14 y15) W'):Oper.wp Tryz.prog oCons2_3 (fr y0 y1 y2 y3 y4 y5 y6 y7 y8 y9 y10 y11 y12 y13 y14 y15) W K Q:=by
  subst hfr hGG
  unfold oCons2_3
  obtain ⟨⟨d0,e0⟩,⟨_,rfl⟩,-⟩:=hd
  obtain ⟨g1,g2⟩:=hG
  obtain ⟨g,rfl⟩:=e0.shape
  go_simp
  exact hK _ _ (KeepX.refl _ _) ⟨g1,g2⟩ ⟨g,rfl,e0⟩
 have st4 {D:Nat→Bool} {y0 y1 y2 y3 y4 y5 y6 y7 y8 y9 y10 y11 y12 y13 y14 y15:Value} {W:World} {K:Act→World→Prop} (hD:D 4=false) (hcl:ClG opsCons2.toArray D) (hd:True) (hG:GG D W) (hK:∀ (v:Value) (W':World),(KeepX 64 W W')→GG (addG D 4) W'→(IntB W' v 0 1)→K (fr y0 y1 y2 y3 v y5 y6 y7 y8 y9 y10 y11 y12 y13 y14 y15) W'):Oper.wp Tryz.prog oCons2_4 (fr y0 y1 y2 y3 y4 y5 y6 y7 y8 y9 y10 y11 y12 y13 y14 y15) W K Q:=by
  subst hfr hGG
  unfold oCons2_4
  obtain ⟨g1,g2⟩:=hG
  have d16:=hcl.no (j:=16) (i:=4) rfl (by kernel_rfl) hD
  have hb:=g1 d16
  have hba:=(Below.refl W.heap.size W).alloc (Nat.le_refl _) (.cells #[.int .i64 0,.int .i64 1] 3)
  go_simp
  exact hK _ _ (KeepX.below hba) ⟨fun _=>btt hb hba,fun h=>(by rw [show addG D 4 16=D 16 from rfl,d16] at h; cases h)⟩ ⟨_,rfl,heap_alloc_new _ _⟩
 have st5 {D:Nat→Bool} {y0 y1 y2 y3 y4 y5 y6 y7 y8 y9 y10 y11 y12 y13 y14 y15:Value} {W:World} {K:Act→World→Prop} (hD:D 5=false) (hcl:ClG opsCons2.toArray D) (hd:True) (hG:GG D W) (hK:∀ (v:Value) (W':World),(KeepX 64 W W')→GG (addG D 5) W'→(v = .slice (some ⟨b1,0,none⟩) 2 2)→K (fr y0 y1 y2 y3 y4 v y6 y7 y8 y9 y10 y11 y12 y13 y14 y15) W'):Oper.wp Tryz.prog oCons2_5 (fr y0 y1 y2 y3 y4 y5 y6 y7 y8 y9 y10 y11 y12 y13 y14 y15) W K Q:=by
  subst hfr hGG
  unfold oCons2_5
  obtain ⟨g1,g2⟩:=hG
  go_simp
  exact hK _ _ (KeepX.refl _ _) ⟨g1,g2⟩ rfl
 have st6 {D:Nat→Bool} {y0 y1 y2 y3 y4 y5 y6 y7 y8 y9 y10 y11 y12 y13 y14 y15:Value} {W:World} {K:Act→World→Prop} (hD:D 6=false) (hcl:ClG opsCons2.toArray D) (hd:(D 4=true∧IntB W y4 0 1)∧(D 5=true∧y5 = .slice (some ⟨b1,0,none⟩) 2 2)∧True) (hG:GG D W) (hK:∀ (v:Value) (W':World),(KeepX 64 W W')→GG (addG D 6) W'→(∃ g,v = .agg #[.slice (some ⟨g,0,none⟩) 2 2,.slice (some ⟨b1,0,none⟩) 2 2,.slice none 0 0]∧IntB W' (.slice (some ⟨g,0,none⟩) 2 2) 0 1)→K (fr y0 y1 y2 y3 y4 y5 v y7 y8 y9 y10 y11 y12 y13 y14 y15) W'):Oper.wp Tryz.prog oCons2_6 (fr y0 y1 y2 y3 y4 y5 y6 y7 y8 y9 y10 y11 y12 y13 y14 y15) W K Q:=by
  subst hfr hGG
  unfold oCons2_6
  obtain ⟨⟨d4,e4⟩,⟨_,rfl⟩,-⟩:=hd
  obtain ⟨g1,g2⟩:=hG
  obtain ⟨g,rfl⟩:=e4.shape
  go_simp
  exact hK _ _ (KeepX.refl _ _) ⟨g1,g2⟩ ⟨g,rfl,e4⟩
 have st7 {D:Nat→Bool} {y0 y1 y2 y3 y4 y5 y6 y7 y8 y9 y10 y11 y12 y13 y14 y15:Value} {W:World} {K:Act→World→Prop} (hD:D 7=false) (hcl:ClG opsCons2.toArray D) (hd:True) (hG:GG D W) (hK:∀ (v:Value) (W':World),(KeepX 64 W W')→GG (addG D 7) W'→(IntB W' v 1 0)→K (fr y0 y1 y2 y3 y4 y5 y6 v y8 y9 y10 y11 y12 y13 y14 y15) W'):Oper.wp Tryz.prog oCons2_7 (fr y0 y1 y2 y3 y4 y5 y6 y7 y8 y9 y10 y11 y12 y13 y14 y15) W K Q:=by
  subst hfr hGG
  unfold oCons2_7
  obtain ⟨g1,g2⟩:=hG
  have d16:=hcl.no (j:=16) (i:=7) rfl (by kernel_rfl) hD
  have hb:=g1 d16
  have hba:=(Below.refl W.heap.size W).alloc (Nat.le_refl _) (.cells #[.int .i64 1,.int .i64 0] 3)
  go_simp
  exact hK _ _ (KeepX.below hba) ⟨fun _=>btt hb hba,fun h=>(by rw [show addG D 7 16=D 16 from rfl,d16] at h; cases h)⟩ ⟨_,rfl,heap_alloc_new _ _⟩
 have st8 {D:Nat→Bool} {y0 y1 y2 y3 y4 y5 y6 y7 y8 y9 y10 y11 y12 y13 y14 y15:Value} {W:World} {K:Act→World→Prop} (hD:D 8=false) (hcl:ClG opsCons2.toArray D) (hd:True) (hG:GG D W) (hK:∀ (v:Value) (W':World),(KeepX 64 W W')→GG (addG D 8) W'→(v = .slice (some ⟨b1,0,none⟩) 2 2)→K (fr y0 y1 y2 y3 y4 y5 y6 y7 v y9 y10 y11 y12 y13 y14 y15) W'):Oper.wp Tryz.prog oCons2_8 (fr y0 y1 y2 y3 y4 y5 y6 y7 y8 y9 y10 y11 y12 y13 y14 y15) W K Q:=by
  subst hfr hGG
  unfold oCons2_8
  obtain ⟨g1,g2⟩:=hG
  go_simp
  exact hK _ _ (KeepX.refl _ _) ⟨g1,g2⟩ rfl
 have st9 {D:Nat→Bool} {y0 y1 y2 y3 y4 y5 y6 y7 y8 y9 y10 y11 y12 y13 y14 y15:Value} {W:World} {K:Act→World→Prop} (hD:D 9=false) (hcl:ClG opsCons2.toArray D) (hd:(D 7=true∧IntB W y7 1 0)∧(D 8=true∧y8 = .slice (some ⟨b1,0,none⟩) 2 2)∧True) (hG:GG D W) (hK:∀ (v:Value) (W':World),(KeepX 64 W W')→GG (addG D 9) W'→(∃ g,v = .agg #[.slice (some ⟨g,0,none⟩) 2 2,.slice (some ⟨b1,0,none⟩) 2 2,.slice none 0 0]∧IntB W' (.slice (some ⟨g,0,none⟩) 2 2) 1 0)→K (fr y0 y1 y2 y3 y4 y5 y6 y7 y8 v y10 y11 y12 y13 y14 y15) W'):Oper.wp Tryz.prog oCons2_9 (fr y0 y1 y2 y3 y4 y5 y6 y7 y8 y9 y10 y11 y12 y13 y14 y15) W K Q:=by
  subst hfr hGG
  unfold oCons2_9
  obtain ⟨⟨d7,e7⟩,⟨_,rfl⟩,-⟩:=hd
  obtain ⟨g1,g2⟩:=hG
  obtain ⟨g,rfl⟩:=e7.shape
  go_simp
  exact hK _ _ (KeepX.refl _ _) ⟨g1,g2⟩ ⟨g,rfl,e7⟩
 have st10 {D:Nat→Bool} {y0 y1 y2 y3 y4 y5 y6 y7 y8 y9 y10 y11 y12 y13 y14 y15:Value} {W:World} {K:Act→World→Prop} (hD:D 10=false) (hcl:ClG opsCons2.toArray D) (hd:True) (hG:GG D W) (hK:∀ (v:Value) (W':World),(KeepX 64 W W')→GG (addG D 10) W'→(IntB W' v 1 1)→K (fr y0 y1 y2 y3 y4 y5 y6 y7 y8 y9 v y11 y12 y13 y14 y15) W'):Oper.wp Tryz.prog oCons2_10 (fr y0 y1 y2 y3 y4 y5 y6 y7 y8 y9 y10 y11 y12 y13 y14 y15) W K Q:=by
  subst hfr hGG
  unfold oCons2_10
  obtain ⟨g1,g2⟩:=hG
  have d16:=hcl.no (j:=16) (i:=10) rfl (by kernel_rfl) hD
  have hb:=g1 d16
  have hba:=(Below.refl W.heap.size W).alloc (Nat.le_refl _) (.cells #[.int .i64 1,.int .i64 1] 3)
  go_simp
  exact hK _ _ (KeepX.below hba) ⟨fun _=>btt hb hba,fun h=>(by rw [show addG D 10 16=D 16 from rfl,d16] at h; cases h)⟩ ⟨_,rfl,heap_alloc_new _ _⟩
 have st11 {D:Nat→Bool} {y0 y1 y2 y3 y4 y5 y6 y7 y8 y9 y10 y11 y12 y13 y14 y15:Value} {W:World} {K:Act→World→Prop} (hD:D 11=false) (hcl:ClG opsCons2.toArray D) (hd:True) (hG:GG D W) (hK:∀ (v:Value) (W':World),(KeepX 64 W W')→GG (addG D 11) W'→(v = .slice (some ⟨b1,0,none⟩) 2 2)→K (fr y0 y1 y2 y3 y4 y5 y6 y7 y8 y9 y10 v y12 y13 y14 y15) W'):Oper.wp Tryz.prog oCons2_11 (fr y0 y1 y2 y3 y4 y5 y6 y7 y8 y9 y10 y11 y12 y13 y14 y15) W K Q:=by
  subst hfr hGG
  unfold oCons2_11
  obtain ⟨g1,g2⟩:=hG
  go_simp
  exact hK _ _ (KeepX.refl _ _) ⟨g1,g2⟩ rfl
 have st12 {D:Nat→Bool} {y0 y1 y2 y3 y4 y5 y6 y7 y8 y9 y10 y11 y12 y13 y14 y15:Value} {W:World} {K:Act→World→Prop} (hD:D 12=false) (hcl:ClG opsCons2.toArray D) (hd:(D 11=true∧y11 = .slice (some ⟨b1,0,none⟩) 2 2)∧True) (hG:GG D W) (hK:∀ (v:Value) (W':World),(KeepX 64 W W')→GG (addG D 12) W'→(v = .slice (some ⟨b1,1,none⟩) 1 1)→K (fr y0 y1 y2 y3 y4 y5 y6 y7 y8 y9 y10 y11 v y13 y14 y15) W'):Oper.wp Tryz.prog oCons2_12 (fr y0 y1 y2 y3 y4 y5 y6 y7 y8 y9 y10 y11 y12 y13 y14 y15) W K Q:=by
  subst hfr hGG
  unfold oCons2_12
  obtain ⟨⟨_,rfl⟩,-⟩:=hd
  obtain ⟨g1,g2⟩:=hG
  go_simp
  exact hK _ _ (KeepX.refl _ _) ⟨g1,g2⟩ rfl
 have st13 {D:Nat→Bool} {y0 y1 y2 y3 y4 y5 y6 y7 y8 y9 y10 y11 y12 y13 y14 y15:Value} {W:World} {K:Act→World→Prop} (hD:D 13=false) (hcl:ClG opsCons2.toArray D) (hd:(D 10=true∧IntB W y10 1 1)∧(D 12=true∧y12 = .slice (some ⟨b1,1,none⟩) 1 1)∧True) (hG:GG D W) (hK:∀ (v:Value) (W':World),(KeepX 64 W W')→GG (addG D 13) W'→(∃ g,v = .agg #[.slice (some ⟨g,0,none⟩) 2 2,.slice (some ⟨b1,1,none⟩) 1 1,.slice none 0 0]∧IntB W' (.slice (some ⟨g,0,none⟩) 2 2) 1 1)→K (fr y0 y1 y2 y3 y4 y5 y6 y7 y8 y9 y10 y11 y12 v y14 y15) W'):Oper.wp Tryz.prog oCons2_13 (fr y0 y1 y2 y3 y4 y5 y6 y7 y8 y9 y10 y11 y12 y13 y14 y15) W K Q:=by
  subst hfr hGG
  unfold oCons2_13
  obtain ⟨⟨d10,e10⟩,⟨_,rfl⟩,-⟩:=hd
  obtain ⟨g1,g2⟩:=hG
  obtain ⟨g,rfl⟩:=e10.shape
  go_simp
  exact hK _ _ (KeepX.refl _ _) ⟨g1,g2⟩ ⟨g,rfl,e10⟩
 have st14 {D:Nat→Bool} {y0 y1 y2 y3 y4 y5 y6 y7 y8 y9 y10 y11 y12 y13 y14 y15:Value} {W:World} {K:Act→World→Prop} (hD:D 14=false) (hcl:ClG opsCons2.toArray D) (hd:(D 3=true∧∃ g,y3 = .agg #[.slice (some ⟨g,0,none⟩) 2 2,.slice (some ⟨b1,0,none⟩) 1 2,.slice none 0 0]∧IntB W (.slice (some ⟨g,0,none⟩) 2 2) 0 0)∧(D 6=true∧∃ g,y6 = .agg #[.slice (some ⟨g,0,none⟩) 2 2,.slice (some ⟨b1,0,none⟩) 2 2,.slice none 0 0]∧IntB W (.slice (some ⟨g,0,none⟩) 2 2) 0 1)∧(D 9=true∧∃ g,y9 = .agg #[.slice (some ⟨g,0,none⟩) 2 2,.slice (some ⟨b1,0,none⟩) 2 2,.slice none 0 0]∧IntB W (.slice (some ⟨g,0,none⟩) 2 2) 1 0)∧(D 13=true∧∃ g,y13 = .agg #[.slice (some ⟨g,0,none⟩) 2 2,.slice (some ⟨b1,1,none⟩) 1 1,.slice none 0 0]∧IntB W (.slice (some ⟨g,0,none⟩) 2 2) 1 1)∧True) (hG:GG D W) (hK:∀ (v:Value) (W':World),(KeepX 64 W W')→GG (addG D 14) W'→(∃ g g0 g1 g2 g3,v = .slice (some ⟨g,0,none⟩) 4 4∧W'.heap[g]? = some (.cells #[.slice (some ⟨g0,0,none⟩) 2 2,.slice (some ⟨b1,0,none⟩) 1 2,.slice none 0 0,.slice (some ⟨g1,0,none⟩) 2 2,.slice (some ⟨b1,0,none⟩) 2 2,.slice none 0 0,.slice (some ⟨g2,0,none⟩) 2 2,.slice (some ⟨b1,0,none⟩) 2 2,.slice none 0 0,.slice (some ⟨g3,0,none⟩) 2 2,.slice (some ⟨b1,1,none⟩) 1 1,.slice none 0 0] 128)∧IntB W' (.slice (some ⟨g0,0,none⟩) 2 2) 0 0∧IntB W' (.slice (some ⟨g1,0,none⟩) 2 2) 0 1∧IntB W' (.slice (some ⟨g2,0,none⟩) 2 2) 1 0∧IntB W' (.slice (some ⟨g3,0,none⟩) 2 2) 1 1)→K (fr y0 y1 y2 y3 y4 y5 y6 y7 y8 y9 y10 y11 y12 y13 v y15) W'):Oper.wp Tryz.prog oCons2_14 (fr y0 y1 y2 y3 y4 y5 y6 y7 y8 y9 y10 y11 y12 y13 y14 y15) W K Q:=by
  subst hfr hGG
  unfold oCons2_14
  obtain ⟨⟨d3,e3⟩,⟨d6,e6⟩,⟨d9,e9⟩,⟨d13,e13⟩,-⟩:=hd
  obtain ⟨g1,g2⟩:=hG
  have d16:=hcl.no (j:=16) (i:=14) rfl (by kernel_rfl) hD
  have hb:=g1 d16
  obtain ⟨h0,rfl,i0⟩:=e3
  obtain ⟨h1,rfl,i1⟩:=e6
  obtain ⟨h2,rfl,i2⟩:=e9
  obtain ⟨h3,rfl,i3⟩:=e13
  have hba:=(Below.refl W.heap.size W).alloc (Nat.le_refl _) (.cells #[.slice (some ⟨h0,0,none⟩) 2 2,.slice (some ⟨b1,0,none⟩) 1 2,.slice none 0 0,.slice (some ⟨h1,0,none⟩) 2 2,.slice (some ⟨b1,0,none⟩) 2 2,.slice none 0 0,.slice (some ⟨h2,0,none⟩) 2 2,.slice (some ⟨b1,0,none⟩) 2 2,.slice none 0 0,.slice (some ⟨h3,0,none⟩) 2 2,.slice (some ⟨b1,1,none⟩) 1 1,.slice none 0 0] 128)
  have hka:=KeepX.below (E:=64) hba
  go_simp
  exact hK _ _ hka ⟨fun _=>btt hb hba,fun h=>(by rw [show addG D 14 16=D 16 from rfl,d16] at h; cases h)⟩ ⟨_,h0,h1,h2,h3,rfl,heap_alloc_new _ _,i0.stab hka,i1.stab hka,i2.stab hka,i3.stab hka⟩
 have st15 {D:Nat→Bool} {y0 y1 y2 y3 y4 y5 y6 y7 y8 y9 y10 y11 y12 y13 y14 y15:Value} {W:World} {K:Act→World→Prop} (hD:D 15=false) (hcl:ClG opsCons2.toArray D) (hd:(D 14=true∧∃ g g0 g1 g2 g3,y14 = .slice (some ⟨g,0,none⟩) 4 4∧W.heap[g]? = some (.cells #[.slice (some ⟨g0,0,none⟩) 2 2,.slice (some ⟨b1,0,none⟩) 1 2,.slice none 0 0,.slice (some ⟨g1,0,none⟩) 2 2,.slice (some ⟨b1,0,none⟩) 2 2,.slice none 0 0,.slice (some ⟨g2,0,none⟩) 2 2,.slice (some ⟨b1,0,none⟩) 2 2,.slice none 0 0,.slice (some ⟨g3,0,none⟩) 2 2,.slice (some ⟨b1,1,none⟩) 1 1,.slice none 0 0] 128)∧IntB W (.slice (some ⟨g0,0,none⟩) 2 2) 0 0∧IntB W (.slice (some ⟨g1,0,none⟩) 2 2) 0 1∧IntB W (.slice (some ⟨g2,0,none⟩) 2 2) 1 0∧IntB W (.slice (some ⟨g3,0,none⟩) 2 2) 1 1)∧True) (hG:GG D W) (hK:∀ (v:Value) (W':World),(KeepX 64 W W')→GG (addG D 15) W'→(∃ g g0 g1 g2 g3,v = .agg #[.int .i64 2,.int .i64 2,.int .i64 2,.slice (some ⟨g,0,none⟩) 4 4]∧W'.heap[g]? = some (.cells #[.slice (some ⟨g0,0,none⟩) 2 2,.slice (some ⟨b1,0,none⟩) 1 2,.slice none 0 0,.slice (some ⟨g1,0,none⟩) 2 2,.slice (some ⟨b1,0,none⟩) 2 2,.slice none 0 0,.slice (some ⟨g2,0,none⟩) 2 2,.slice (some ⟨b1,0,none⟩) 2 2,.slice none 0 0,.slice (some ⟨g3,0,none⟩) 2 2,.slice (some ⟨b1,1,none⟩) 1 1,.slice none 0 0] 128)∧IntB W' (.slice (some ⟨g0,0,none⟩) 2 2) 0 0∧IntB W' (.slice (some ⟨g1,0,none⟩) 2 2) 0 1∧IntB W' (.slice (some ⟨g2,0,none⟩) 2 2) 1 0∧IntB W' (.slice (some ⟨g3,0,none⟩) 2 2) 1 1)→K (fr y0 y1 y2 y3 y4 y5 y6 y7 y8 y9 y10 y11 y12 y13 y14 v) W'):Oper.wp Tryz.prog oCons2_15 (fr y0 y1 y2 y3 y4 y5 y6 y7 y8 y9 y10 y11 y12 y13 y14 y15) W K Q:=by
  subst hfr hGG
  unfold oCons2_15
  obtain ⟨⟨d14,e14⟩,-⟩:=hd
  obtain ⟨g1,g2⟩:=hG
  obtain ⟨g,h0,h1,h2,h3,rfl,hh⟩:=e14
  go_simp
  exact hK _ _ (KeepX.refl _ _) ⟨g1,g2⟩ ⟨g,h0,h1,h2,h3,rfl,hh⟩
 have st16 {D:Nat→Bool} {y0 y1 y2 y3 y4 y5 y6 y7 y8 y9 y10 y11 y12 y13 y14 y15:Value} {W:World} {K:Act→World→Prop} (hD:D 16=false) (hcl:ClG opsCons2.toArray D) (hd:(D 15=true∧∃ g g0 g1 g2 g3,y15 = .agg #[.int .i64 2,.int .i64 2,.int .i64 2,.slice (some ⟨g,0,none⟩) 4 4]∧W.heap[g]? = some (.cells #[.slice (some ⟨g0,0,none⟩) 2 2,.slice (some ⟨b1,0,none⟩) 1 2,.slice none 0 0,.slice (some ⟨g1,0,none⟩) 2 2,.slice (some ⟨b1,0,none⟩) 2 2,.slice none 0 0,.slice (some ⟨g2,0,none⟩) 2 2,.slice (some ⟨b1,0,none⟩) 2 2,.slice none 0 0,.slice (some ⟨g3,0,none⟩) 2 2,.slice (some ⟨b1,1,none⟩) 1 1,.slice none 0 0] 128)∧IntB W (.slice (some ⟨g0,0,none⟩) 2 2) 0 0∧IntB W (.slice (some ⟨g1,0,none⟩) 2 2) 0 1∧IntB W (.slice (some ⟨g2,0,none⟩) 2 2) 1 0∧IntB W (.slice (some ⟨g3,0,none⟩) 2 2) 1 1)∧True) (hG:GG D W) (hK:∀ (v:Value) (W':World),(KeepX 64 W W')→GG (addG D 16) W'→(True)→K (fr y0 y1 y2 y3 y4 y5 y6 y7 y8 y9 y10 y11 y12 y13 y14 y15) W'):Oper.wp Tryz.prog oCons2_16 (fr y0 y1 y2 y3 y4 y5 y6 y7 y8 y9 y10 y11 y12 y13 y14 y15) W K Q:=by
  subst hfr hGG
  unfold oCons2_16
  obtain ⟨⟨d15,e15⟩,-⟩:=hd
  obtain ⟨g1,g2⟩:=hG
  have hb:=g1 hD
  have k0:=(hb.block b0 (Array.getElem?_eq_some_iff.1 q0).1).trans q0
  obtain ⟨g,h0,h1,h2,h3,rfl,hh,i0,i1,i2,i3⟩:=e15
  obtain ⟨p0,p1,p2,p3⟩:=boxL4 k0
  obtain ⟨f0,f1,f2,f3⟩:=freeL4 k0
  go_simp
  refine storeEnd4 (u0:=.int .i64 2) (u1:=.int .i64 2) (u2:=.int .i64 2) (u3:=.slice (some ⟨g,0,none⟩) 4 4) k0 ?_
  intro W9 hW9 hb9 hk9 hm9 _ _ _ _
  rw [← hW9]
  exact hK undef _ hk9 ⟨fun h=>(by cases h),fun _=>⟨hb9 _ _ (Nat.le_refl _) (hb.mono (Nat.le_of_lt (Array.getElem?_eq_some_iff.1 q0).1)),(KeepX.below hb).trans hk9,g,h0,h1,h2,h3,hm9,(hk9 _ _ _ hh (by decide)).trans hh,i0.stab hk9,i1.stab hk9,i2.stab hk9,i3.stab hk9⟩⟩ trivial
 subst hfr hGG
 refine wp_region_rg (l:=opsCons2) (fun ys=>⟨#[.pointer (some ⟨b0,0,none⟩),.slice (some ⟨b1,0,none⟩) 2 2,x2,x3,x4,ys 0,ys 1,ys 2,ys 3,ys 4,ys 5,ys 6,ys 7,ys 8,ys 9,ys 10,ys 11,ys 12,ys 13,ys 14,ys 15],[]⟩) [fun (W:World) (v:Value)=>IntB W v 0 0,fun (_:World) (v:Value)=>v = .slice (some ⟨b1,0,none⟩) 2 2,fun (_:World) (v:Value)=>v = .slice (some ⟨b1,0,none⟩) 1 2,fun (W:World) (v:Value)=>∃ g,v = .agg #[.slice (some ⟨g,0,none⟩) 2 2,.slice (some ⟨b1,0,none⟩) 1 2,.slice none 0 0]∧IntB W (.slice (some ⟨g,0,none⟩) 2 2) 0 0,fun (W:World) (v:Value)=>IntB W v 0 1,fun (_:World) (v:Value)=>v = .slice (some ⟨b1,0,none⟩) 2 2,fun (W:World) (v:Value)=>∃ g,v = .agg #[.slice (some ⟨g,0,none⟩) 2 2,.slice (some ⟨b1,0,none⟩) 2 2,.slice none 0 0]∧IntB W (.slice (some ⟨g,0,none⟩) 2 2) 0 1,fun (W:World) (v:Value)=>IntB W v 1 0,fun (_:World) (v:Value)=>v = .slice (some ⟨b1,0,none⟩) 2 2,fun (W:World) (v:Value)=>∃ g,v = .agg #[.slice (some ⟨g,0,none⟩) 2 2,.slice (some ⟨b1,0,none⟩) 2 2,.slice none 0 0]∧IntB W (.slice (some ⟨g,0,none⟩) 2 2) 1 0,fun (W:World) (v:Value)=>IntB W v 1 1,fun (_:World) (v:Value)=>v = .slice (some ⟨b1,0,none⟩) 2 2,fun (_:World) (v:Value)=>v = .slice (some ⟨b1,1,none⟩) 1 1,fun (W:World) (v:Value)=>∃ g,v = .agg #[.slice (some ⟨g,0,none⟩) 2 2,.slice (some ⟨b1,1,none⟩) 1 1,.slice none 0 0]∧IntB W (.slice (some ⟨g,0,none⟩) 2 2) 1 1,fun (W:World) (v:Value)=>∃ g g0 g1 g2 g3,v = .slice (some ⟨g,0,none⟩) 4 4∧W.heap[g]? = some (.cells #[.slice (some ⟨g0,0,none⟩) 2 2,.slice (some ⟨b1,0,none⟩) 1 2,.slice none 0 0,.slice (some ⟨g1,0,none⟩) 2 2,.slice (some ⟨b1,0,none⟩) 2 2,.slice none 0 0,.slice (some ⟨g2,0,none⟩) 2 2,.slice (some ⟨b1,0,none⟩) 2 2,.slice none 0 0,.slice (some ⟨g3,0,none⟩) 2 2,.slice (some ⟨b1,1,none⟩) 1 1,.slice none 0 0] 128)∧IntB W (.slice (some ⟨g0,0,none⟩) 2 2) 0 0∧IntB W (.slice (some ⟨g1,0,none⟩) 2 2) 0 1∧IntB W (.slice (some ⟨g2,0,none⟩) 2 2) 1 0∧IntB W (.slice (some ⟨g3,0,none⟩) 2 2) 1 1,fun (W:World) (v:Value)=>∃ g g0 g1 g2 g3,v = .agg #[.int .i64 2,.int .i64 2,.int .i64 2,.slice (some ⟨g,0,none⟩) 4 4]∧W.heap[g]? = some (.cells #[.slice (some ⟨g0,0,none⟩) 2 2,.slice (some ⟨b1,0,none⟩) 1 2,.slice none 0 0,.slice (some ⟨g1,0,none⟩) 2 2,.slice (some ⟨b1,0,none⟩) 2 2,.slice none 0 0,.slice (some ⟨g2,0,none⟩) 2 2,.slice (some ⟨b1,0,none⟩) 2 2,.slice none 0 0,.slice (some ⟨g3,0,none⟩) 2 2,.slice (some ⟨b1,1,none⟩) 1 1,.slice none 0 0] 128)∧IntB W (.slice (some ⟨g0,0,none⟩) 2 2) 0 0∧IntB W (.slice (some ⟨g1,0,none⟩) 2 2) 0 1∧IntB W (.slice (some ⟨g2,0,none⟩) 2 2) 1 0∧IntB W (.slice (some ⟨g3,0,none⟩) 2 2) 1 1,fun (_:World) (_:Value)=>True] (fun W W'=>KeepX 64 W W') (fun D ys W=>(D 16=false→Below w.heap.size w W)∧(D 16=true→Below b0 w W∧KeepX 64 w W∧∃ g g0 g1 g2 g3,W.heap[b0]? = some (.cells #[.int .i64 2,.int .i64 2,.int .i64 2,.slice (some ⟨g,0,none⟩) 4 4] 64)∧W.heap[g]? = some (.cells #[.slice (some ⟨g0,0,none⟩) 2 2,.slice (some ⟨b1,0,none⟩) 1 2,.slice none 0 0,.slice (some ⟨g1,0,none⟩) 2 2,.slice (some ⟨b1,0,none⟩) 2 2,.slice none 0 0,.slice (some ⟨g2,0,none⟩) 2 2,.slice (some ⟨b1,0,none⟩) 2 2,.slice none 0 0,.slice (some ⟨g3,0,none⟩) 2 2,.slice (some ⟨b1,1,none⟩) 1 1,.slice none 0 0] 128)∧IntB W (.slice (some ⟨g0,0,none⟩) 2 2) 0 0∧IntB W (.slice (some ⟨g1,0,none⟩) 2 2) 0 1∧IntB W (.slice (some ⟨g2,0,none⟩) 2 2) 1 0∧IntB W (.slice (some ⟨g3,0,none⟩) 2 2) 1 1)) (fun i=>([x5,x6,x7,x8,x9,x10,x11,x12,x13,x14,x15,x16,x17,x18,x19,x20,undef]:List Value).getD i undef) (by kernel_rfl) (by kernel_rfl) ⟨fun W W' v h r=>IntB.stab h r,fun _ _ _ h _=>h,fun _ _ _ h _=>h,fun W W' v ⟨g,e,h⟩ r=>⟨g,e,IntB.stab h r⟩,fun W W' v h r=>IntB.stab h r,fun _ _ _ h _=>h,fun W W' v ⟨g,e,h⟩ r=>⟨g,e,IntB.stab h r⟩,fun W W' v h r=>IntB.stab h r,fun _ _ _ h _=>h,fun W W' v ⟨g,e,h⟩ r=>⟨g,e,IntB.stab h r⟩,fun W W' v h r=>IntB.stab h r,fun _ _ _ h _=>h,fun _ _ _ h _=>h,fun W W' v ⟨g,e,h⟩ r=>⟨g,e,IntB.stab h r⟩,fun W W' v ⟨g,h0,h1,h2,h3,e,h,i0,i1,i2,i3⟩ r=>⟨g,h0,h1,h2,h3,e,(r _ _ _ h (by decide)).trans h,IntB.stab i0 r,IntB.stab i1 r,IntB.stab i2 r,IntB.stab i3 r⟩,fun W W' v ⟨g,h0,h1,h2,h3,e,h,i0,i1,i2,i3⟩ r=>⟨g,h0,h1,h2,h3,e,(r _ _ _ h (by decide)).trans h,IntB.stab i0 r,IntB.stab i1 r,IntB.stab i2 r,IntB.stab i3 r⟩,fun _ _ _ h _=>h,trivial⟩ ?g0 ?gx ⟨fun D ys W K h1 h2 h3 h4 h5=>by rw [if_pos (by rfl)]; exact st0 h1 h2 trivial h4 h5,fun D ys W K h1 h2 h3 h4 h5=>by rw [if_pos (by rfl)]; exact st1 h1 h2 trivial h4 h5,fun D ys W K h1 h2 h3 h4 h5=>by rw [if_pos (by rfl)]; exact st2 h1 h2 h3 h4 h5,fun D ys W K h1 h2 h3 h4 h5=>by rw [if_pos (by rfl)]; exact st3 h1 h2 h3 h4 h5,fun D ys W K h1 h2 h3 h4 h5=>by rw [if_pos (by rfl)]; exact st4 h1 h2 trivial h4 h5,fun D ys W K h1 h2 h3 h4 h5=>by rw [if_pos (by rfl)]; exact st5 h1 h2 trivial h4 h5,fun D ys W K h1 h2 h3 h4 h5=>by rw [if_pos (by rfl)]; exact st6 h1 h2 h3 h4 h5,fun D ys W K h1 h2 h3 h4 h5=>by rw [if_pos (by rfl)]; exact st7 h1 h2 trivial h4 h5,fun D ys W K h1 h2 h3 h4 h5=>by rw [if_pos (by rfl)]; exact st8 h1 h2 trivial h4 h5,fun D ys W K h1 h2 h3 h4 h5=>by rw [if_pos (by rfl)]; exact st9 h1 h2 h3 h4 h5,fun D ys W K h1 h2 h3 h4 h5=>by rw [if_pos (by rfl)]; exact st10 h1 h2 trivial h4 h5,fun D ys W K h1 h2 h3 h4 h5=>by rw [if_pos (by rfl)]; exact st11 h1 h2 trivial h4 h5,fun D ys W K h1 h2 h3 h4 h5=>by rw [if_pos (by rfl)]; exact st12 h1 h2 h3 h4 h5,fun D ys W K h1 h2 h3 h4 h5=>by rw [if_pos (by rfl)]; exact st13 h1 h2 h3 h4 h5,fun D ys W K h1 h2 h3 h4 h5=>by rw [if_pos (by rfl)]; exact st14 h1 h2 h3 h4 h5,fun D ys W K h1 h2 h3 h4 h5=>by rw [if_pos (by rfl)]; exact st15 h1 h2 h3 h4 h5,fun D ys W K h1 h2 h3 h4 h5=>by rw [if_pos (by rfl)]; exact st16 h1 h2 ⟨h3.1,trivial⟩ h4 h5,trivial⟩ ?fin
 case g0=>exact ⟨fun _=>below_drewN (Below.refl w.heap.size w) 1,fun h=>by cases h⟩
 case gx=>exact fun D D' _ W h ⟨h1,h2⟩=>⟨fun q=>h1 ((h 16 (by decide)).trans q),fun q=>h2 ((h 16 (by decide)).trans q)⟩
 case fin=>
  intro ys W hG hp
  have e1:ys 1 = .slice (some ⟨b1,0,none⟩) 2 2:=hp 1 (by decide)
  have e2:ys 2 = .slice (some ⟨b1,0,none⟩) 1 2:=hp 2 (by decide)
  have e5:ys 5 = .slice (some ⟨b1,0,none⟩) 2 2:=hp 5 (by decide)
  have e8:ys 8 = .slice (some ⟨b1,0,none⟩) 2 2:=hp 8 (by decide)
  have e11:ys 11 = .slice (some ⟨b1,0,none⟩) 2 2:=hp 11 (by decide)
  have e12:ys 12 = .slice (some ⟨b1,1,none⟩) 1 1:=hp 12 (by decide)
  show Q .normal ⟨#[.pointer (some ⟨b0,0,none⟩),.slice (some ⟨b1,0,none⟩) 2 2,x2,x3,x4,(ys 0),(ys 1),(ys 2),(ys 3),(ys 4),(ys 5),(ys 6),(ys 7),(ys 8),(ys 9),(ys 10),(ys 11),(ys 12),(ys 13),(ys 14),(ys 15)],[]⟩ W
  rw [e1,e2,e5,e8,e11,e12]
  exact hfin (ys 0) (ys 3) (ys 4) (ys 6) (ys 7) (ys 9) (ys 10) (ys 13) (ys 14) (ys 15) (ys 16) W hG (hp 0 (by decide)) (hp 3 (by decide)) (hp 4 (by decide)) (hp 6 (by decide)) (hp 7 (by decide)) (hp 9 (by decide)) (hp 10 (by decide)) (hp 13 (by decide)) (hp 14 (by decide)) (hp 15 (by decide)) (hp 16 (by decide))
end Go.Proofs.YtmikofeildnpdaaGreat
