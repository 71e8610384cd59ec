/- Texts of this claim, put together: YC YM0 YP0 YP1 YN0. -/
import Derived.Test.YtmikofeildnpdaaGreatKZzf

set_option maxRecDepth 100000
set_option maxHeartbeats 12800000
namespace Go.Proofs.YtmikofeildnpdaaGreat
open Go.RowKit
theorem fewS_of {ss:List (List (List Int))}(h:fewA ss=true):FewS ss:=⟨by have:=few_le h;omega,by have:=few_le h;omega⟩
theorem ECs.stabP:Stab 66 ECs:=fun _ _ _ _ ⟨u0,u1,u2,h,h0,h1,h2,hl⟩ hx=>⟨u0,u1,u2,h,ownsRow_X h0 (by decide) hx,h1.otherX (by decide) (by decide) hx,h2.otherX (by decide) (by decide) hx,hl⟩
def PrX (w:World) (v:Value) (n1 ins outs:Int) (cs:List Cs) (n2:Int) (ss:List (List (List Int))) (r:Int):Prop:=
 ∃sa sc aa ac,v = .agg #[.int .i64 n1,.int .i64 ins,.int .i64 outs,.slice sa cs.length sc,.int .i64 n2,.slice aa ss.length ac,.int .i64 r]∧TaskV w (.agg #[.int .i64 n1,.int .i64 ins,.int .i64 outs,.slice sa cs.length sc]) n1 ins outs cs∧AdvC w (.agg #[.int .i64 n2,.slice aa ss.length ac]) n2 ss
theorem PrX.keep {w w':World}{v:Value}{n1 ins outs:Int}{cs:List Cs}{n2:Int}{ss:List (List (List Int))}{r:Int}(h:PrX w v n1 ins outs cs n2 ss r) (hb:Below w.heap.size w w'):PrX w' v n1 ins outs cs n2 ss r:=by
 obtain⟨sa,sc,aa,ac,h1,h2,h3⟩:=h;exact⟨sa,sc,aa,ac,h1,h2.keep hb,h3.keep hb⟩
theorem PrX.prV {w:World}{v:Value}{n:Nat}{ins outs:Int}{cs:List Cs}{ss:List (List (List Int))}{r:Int}(h:PrX w v n ins outs cs n ss r):PrV w v n ins outs cs ss r:=by
 obtain⟨sa,sc,aa,ac,h1,h2,h3⟩:=h;exact⟨_,_,h1,h2,h3⟩
theorem PrV.prX {w:World}{v:Value}{n:Nat}{ins outs:Int}{cs:List Cs}{ss:List (List (List Int))}{r:Int}(h:PrV w v n ins outs cs ss r):PrX w v n ins outs cs n ss r:=by
 obtain⟨sa,sc,aa,ac,h1,h2,h3⟩:=h.shape;exact⟨sa,sc,aa,ac,h1,h2,h3⟩
def prE (n1 ins outs:Int) (cs:List Cs) (n2:Int) (ss:List (List (List Int))) (r:Int):Int:=
 if chkT n1 ins outs cs ≠ 0 then chkT n1 ins outs cs else if chkA n2 ss ≠ 0 then chkA n2 ss else if n1 ≠ n2 then 22 else if r < 0∨6 < r then 2 else 0
theorem prE_ok {n1 ins outs:Int}{cs:List Cs}{n2:Int}{ss:List (List (List Int))}{r:Int}(h:prE n1 ins outs cs n2 ss r=0):chkT n1 ins outs cs=0∧chkA n2 ss=0∧n1=n2∧0≤r∧r≤6:=by
 unfold prE at h;split at h
 ·rename_i k;exact absurd h k
 ·rename_i k1
  split at h
  ·rename_i k;exact absurd h k
  ·rename_i k2
   split at h
   ·cases h
   ·rename_i k3
    split at h
    ·cases h
    ·rename_i k4
     exact⟨Decidable.not_not.1 k1,Decidable.not_not.1 k2,Decidable.not_not.1 k3,by omega,by omega⟩
theorem boxPr {w:World}{n1 ins outs:Int}{cs:List Cs}{n2:Int}{ss:List (List (List Int))}{r:Int}{W1:World}{sa aa:Option Addr}{sc ac:Nat}(hW:W1=w.alloc (.cells #[.int .i64 n1,.int .i64 ins,.int .i64 outs,.slice sa cs.length sc,.int .i64 n2,.slice aa ss.length ac,.int .i64 r] 66)) :
  Below w.heap.size w W1∧W1.heap[w.heap.size]? = some (.cells #[.int .i64 n1,.int .i64 ins,.int .i64 outs,.slice sa cs.length sc,.int .i64 n2,.slice aa ss.length ac,.int .i64 r] 66):=by
 rw[hW];exact⟨(Below.refl _ _).alloc (Nat.le_refl _) _,heap_alloc_new _ _⟩
theorem refFewP {w:World}{v:Value}{n1 ins outs:Int}{cs:List Cs}{n2:Int}{ss:List (List (List Int))}{r:Int}(h:PrX w v n1 ins outs cs n2 ss r) :
  Calls Tryz.prog 35 #[v] w fun e w'=>e = .returned (.bool (fewT cs && fewA ss))∧Below w.heap.size w w':=by
 obtain⟨sa,sc,aa,ac,rfl,hT,hA⟩:=h;obtain⟨W1,hW1⟩:=exF (w.alloc (.cells #[.int .i64 n1,.int .i64 ins,.int .i64 outs,.slice sa cs.length sc,.int .i64 n2,.slice aa ss.length ac,.int .i64 r] 66));obtain⟨hb1,m1⟩:=boxPr hW1;have hK:=qH (fun W (hb:Below W1.heap.size W1 W)=>boxL7 ((hb.block _ (Array.getElem?_eq_some_iff.1 m1).1).trans m1));obtain⟨p0,p1,p2,p3,p4,p5,p6⟩:=boxL7 m1;have HT:=refFewT (hT.keep hb1);have HA:=fun W (hb:Below W1.heap.size W1 W)=>refFew ((hA.keep hb1).keep hb).adv;obtain⟨A,hAA⟩:=exE (fewT cs);obtain⟨B,hBB⟩:=exE (fewA ss);rw[hAA] at HT;simp only[hBB] at HA;rw[hAA,hBB];replace HT:=qH HT;replace HA:=qH HA;clear hT hA m1 hAA hBB;cases A
 ·go_enter Tryz.func35, Tryz.ntmps35
  go_wp2_with fail
  rw[←hW1];replace hW1:=qH hW1;refine HT.out.mono ?_;rintro e W2 ⟨rfl,hb2⟩;have hf:=bt hb1 hb2 hb1.size;clear p0 p1 p2 p3 p4 p5 p6 hK;go_wp2;go_ret;exact⟨rfl,hf⟩
 ·go_enter Tryz.func35, Tryz.ntmps35
  go_wp2_with fail
  rw[←hW1];replace hW1:=qH hW1;refine HT.out.mono ?_;rintro e W2 ⟨rfl,hb2⟩;clear p0 p1 p2 p3 p4 p5 p6;obtain⟨p0,p1,p2,p3,p4,p5,p6⟩:=hK.out W2 hb2;go_wp2_with fail
  refine(HA.out W2 hb2).mono ?_;rintro e W3 ⟨rfl,hb3⟩;have hf:=bt hb1 (btt hb2 hb3) hb1.size;clear p0 p1 p2 p3 p4 p5 p6 hK;go_wp2;go_ret;exact⟨by rw[Bool.true_and];rfl,hf⟩
theorem refCheckP {w:World}{v:Value}{n1 ins outs:Int}{cs:List Cs}{n2:Int}{ss:List (List (List Int))}{r:Int}(h:PrX w v n1 ins outs cs n2 ss r) :
  Calls Tryz.prog 41 #[v] w fun e w'=>e = .returned (.int .i64 (prE n1 ins outs cs n2 ss r))∧Below w.heap.size w w':=by
 obtain⟨sa,sc,aa,ac,rfl,hT,hA⟩:=h;obtain⟨W1,hW1⟩:=exF (w.alloc (.cells #[.int .i64 n1,.int .i64 ins,.int .i64 outs,.slice sa cs.length sc,.int .i64 n2,.slice aa ss.length ac,.int .i64 r] 66));obtain⟨hb1,m1⟩:=boxPr hW1;have hK:=qH (fun W (hb:Below W1.heap.size W1 W)=>boxL7 ((hb.block _ (Array.getElem?_eq_some_iff.1 m1).1).trans m1));obtain⟨p0,p1,p2,p3,p4,p5,p6⟩:=boxL7 m1;have HT:=refCheckT (hT.keep hb1);have HA:=fun W (hb:Below W1.heap.size W1 W)=>refCheckA ((hA.keep hb1).keep hb).adv;obtain⟨A,hAA⟩:=exE (chkT n1 ins outs cs);obtain⟨B,hBB⟩:=exE (chkA n2 ss);have hpe:prE n1 ins outs cs n2 ss r=if A ≠ 0 then A else if B ≠ 0 then B else if n1 ≠ n2 then 22 else if r < 0∨6 < r then 2 else 0:=by rw[prE,hAA,hBB]
 rw[hAA] at HT;simp only[hBB] at HA;rw[hpe];replace HT:=qH HT;replace HA:=qH HA;clear hT hA m1 hAA hBB hpe;by_cases h1:A=0
 rotate_left
 ·have hAb:(A != 0)=true:=by simp[h1]
  rw[if_pos h1];go_enter Tryz.func41, Tryz.ntmps41
  go_wp2_with fail
  rw[←hW1];replace hW1:=qH hW1;refine HT.out.mono ?_;rintro e W2 ⟨rfl,hb2⟩;have hf:=bt hb1 hb2 hb1.size;clear p0 p1 p2 p3 p4 p5 p6 hK;go_wp2;go_ret;exact⟨rfl,hf⟩
 subst h1;rw[if_neg (fun h=>h rfl)];by_cases h2:B=0
 rotate_left
 ·have hBb:(B != 0)=true:=by simp[h2]
  rw[if_pos h2];go_enter Tryz.func41, Tryz.ntmps41
  go_wp2_with fail
  rw[←hW1];replace hW1:=qH hW1;refine HT.out.mono ?_;rintro e W2 ⟨rfl,hb2⟩;clear p0 p1 p2 p3 p4 p5 p6;obtain⟨p0,p1,p2,p3,p4,p5,p6⟩:=hK.out W2 hb2;go_wp2_with fail
  refine(HA.out W2 hb2).mono ?_;rintro e W3 ⟨rfl,hq3⟩;have hb13:=btt hb2 hq3;have hf:=bt hb1 hb13 hb1.size;clear p0 p1 p2 p3 p4 p5 p6 hK;go_wp2;go_ret;exact⟨rfl,hf⟩
 subst h2;rw[if_neg (fun h=>h rfl)];by_cases h3:n1=n2
 rotate_left
 ·have hNb:(n1 != n2)=true:=by simp[h3]
  rw[if_pos h3];go_enter Tryz.func41, Tryz.ntmps41
  go_wp2_with fail
  rw[←hW1];replace hW1:=qH hW1;refine HT.out.mono ?_;rintro e W2 ⟨rfl,hb2⟩;clear p0 p1 p2 p3 p4 p5 p6;obtain⟨p0,p1,p2,p3,p4,p5,p6⟩:=hK.out W2 hb2;go_wp2_with fail
  refine(HA.out W2 hb2).mono ?_;rintro e W3 ⟨rfl,hq3⟩;have hb13:=btt hb2 hq3;have hf:=bt hb1 hb13 hb1.size;clear p0 p1 p2 p3 p4 p5 p6;obtain⟨p0,p1,p2,p3,p4,p5,p6⟩:=hK.out W3 hb13;clear hK;go_wp2;go_ret;exact⟨rfl,hf⟩
 subst h3;have hNf:(n1 != n1)=false:=by simp
 rw[if_neg (fun h=>h rfl)];by_cases h4:r < 0
 ·have hd:decide (r < 0)=true:=decide_eq_true h4;rw[if_pos (.inl h4)];go_enter Tryz.func41, Tryz.ntmps41
  go_wp2_with fail
  rw[←hW1];replace hW1:=qH hW1;refine HT.out.mono ?_;rintro e W2 ⟨rfl,hb2⟩;clear p0 p1 p2 p3 p4 p5 p6;obtain⟨p0,p1,p2,p3,p4,p5,p6⟩:=hK.out W2 hb2;go_wp2_with fail
  refine(HA.out W2 hb2).mono ?_;rintro e W3 ⟨rfl,hq3⟩;have hb13:=btt hb2 hq3;have hf:=bt hb1 hb13 hb1.size;clear p0 p1 p2 p3 p4 p5 p6;obtain⟨p0,p1,p2,p3,p4,p5,p6⟩:=hK.out W3 hb13;clear hK;go_wp2;go_ret;exact⟨rfl,hf⟩
 have hd:decide (r < 0)=false:=decide_eq_false h4;by_cases h5:6 < r
 ·have hd5:decide (6 < r)=true:=decide_eq_true h5;rw[if_pos (.inr h5)];go_enter Tryz.func41, Tryz.ntmps41
  go_wp2_with fail
  rw[←hW1];replace hW1:=qH hW1;refine HT.out.mono ?_;rintro e W2 ⟨rfl,hb2⟩;clear p0 p1 p2 p3 p4 p5 p6;obtain⟨p0,p1,p2,p3,p4,p5,p6⟩:=hK.out W2 hb2;go_wp2_with fail
  refine(HA.out W2 hb2).mono ?_;rintro e W3 ⟨rfl,hq3⟩;have hb13:=btt hb2 hq3;have hf:=bt hb1 hb13 hb1.size;clear p0 p1 p2 p3 p4 p5 p6;obtain⟨p0,p1,p2,p3,p4,p5,p6⟩:=hK.out W3 hb13;clear hK;go_wp2;go_ret;exact⟨rfl,hf⟩
 ·have hd5:decide (6 < r)=false:=decide_eq_false h5;rw[if_neg (by omega)];go_enter Tryz.func41, Tryz.ntmps41
  go_wp2_with fail
  rw[←hW1];replace hW1:=qH hW1;refine HT.out.mono ?_;rintro e W2 ⟨rfl,hb2⟩;clear p0 p1 p2 p3 p4 p5 p6;obtain⟨p0,p1,p2,p3,p4,p5,p6⟩:=hK.out W2 hb2;go_wp2_with fail
  refine(HA.out W2 hb2).mono ?_;rintro e W3 ⟨rfl,hq3⟩;have hb13:=btt hb2 hq3;have hf:=bt hb1 hb13 hb1.size;clear p0 p1 p2 p3 p4 p5 p6;obtain⟨p0,p1,p2,p3,p4,p5,p6⟩:=hK.out W3 hb13;clear hK;go_wp2;go_ret;exact⟨rfl,hf⟩
theorem symProblemGood {w:World}{v u:Value}{n:Nat}{ins outs:Int}{cs:List Cs}{ss:List (List (List Int))}{r:Int}{a:List Int}(h:PrV w v n ins outs cs ss r) (hO:PrOK n ins outs cs ss r) (hu:Ints w u a) (ha:IsP n a) :
  Calls Tryz.prog 36 #[v,u] w fun e w'=>∃x,e = .returned (.tuple #[x,.int .i64 0])∧PrV w' x n ins outs (renT a cs) (renA a ss) r∧Below w.heap.size w w':=by
 have hOK:=TskOK.of hO.tz;have h1:=hOK.n1;have h5:=hOK.n5;have hk:=qH h;obtain⟨sa,sc,aa,ac,rfl,hT,hA⟩:=h.shape;obtain⟨n',hn',hW⟩:=wfN_of hA.adv hO.az;obtain rfl:n'=n:=by omega
 obtain⟨ua,uc,hus⟩:∃ua uc,u = .slice ua a.length uc:=by obtain⟨ua,uc,_,_,h,_⟩:=hu;exact⟨ua,uc,h⟩
 subst hus;obtain⟨W1,hW1⟩:=exF ((w.alloc (.cells #[.int .i64 (n':Int),.int .i64 ins,.int .i64 outs,.slice sa cs.length sc,.int .i64 (n':Int),.slice aa ss.length ac,.int .i64 r] 66)).alloc (.cells #[.int .i64 0,.int .i64 0,.int .i64 0,.slice none 0 0,.int .i64 0,.slice none 0 0,.int .i64 0] 66));have hb1:Below w.heap.size w W1:=by rw[hW1];exact((Below.refl _ _).alloc (Nat.le_refl _) _).alloc (by simp) _
 have m0:W1.heap[w.heap.size]? = some (.cells #[.int .i64 (n':Int),.int .i64 ins,.int .i64 outs,.slice sa cs.length sc,.int .i64 (n':Int),.slice aa ss.length ac,.int .i64 r] 66):=by rw[hW1];exact(Below.heap_alloc _ _ _ (by simp)).trans (heap_alloc_new _ _)
 have m1:W1.heap[w.heap.size+1]? = some (.cells #[.int .i64 0,.int .i64 0,.int .i64 0,.slice none 0 0,.int .i64 0,.slice none 0 0,.int .i64 0] 66):=by
  have h:=heap_alloc_new (w.alloc (.cells #[.int .i64 (n':Int),.int .i64 ins,.int .i64 outs,.slice sa cs.length sc,.int .i64 (n':Int),.slice aa ss.length ac,.int .i64 r] 66)) (.cells #[.int .i64 0,.int .i64 0,.int .i64 0,.slice none 0 0,.int .i64 0,.slice none 0 0,.int .i64 0] 66);rw[World.size_alloc] at h;rw[hW1];exact h
 have hK:=qH (fun W (hb:Below W1.heap.size W1 W)=>boxL7 ((hb.block _ (Array.getElem?_eq_some_iff.1 m0).1).trans m0));have hK1:=qH (fun W (hb:Below W1.heap.size W1 W)=>(hb.block _ (Array.getElem?_eq_some_iff.1 m1).1).trans m1);obtain⟨p0,p1,p2,p3,p4,p5,p6⟩:=boxL7 m0;have HP:=qH (problemC (hk.out.keep hb1) hO);have HF:=fun W (hb:Below W1.heap.size W1 W)=>fitsC ((hu.keep hb1).keep hb) (n':Int);simp only[(fit_isP h1 h5).2 ha] at HF;replace HF:=qH HF;have HT:=qH (fun W (hb:Below W1.heap.size W1 W)=>permuteTaskO ((hT.keep hb1).keep hb) hO.tz (fun c hc=>Nat.le_trans (calmLen hO.tz c hc) (by decide)) ha ((hu.keep hb1).keep hb));have HA:=qH (fun W (hb:Below W1.heap.size W1 W)=>renamedC ((hA.keep hb1).keep hb).adv hW ha ((hu.keep hb1).keep hb));obtain⟨CT,hCT⟩:=exE (renT a cs);obtain⟨RS,hRS⟩:=exE (renA a ss);simp only[hCT] at HT;simp only[hRS] at HA;rw[hCT,hRS];clear h hT hA hO hOK hu ha hn' hW m0 m1 hCT hRS;go_enter Tryz.func36, Tryz.ntmps36
 go_wp2_with fail
 rw[←hW1];replace hW1:=qH hW1;refine HP.out.mono ?_;rintro e W2 ⟨rfl,hb2⟩;clear p0 p1 p2 p3 p4 p5 p6;obtain⟨p0,p1,p2,p3,p4,p5,p6⟩:=hK.out W2 hb2;go_wp2_with fail
 refine(HF.out W2 hb2).mono ?_;rintro e W3 ⟨rfl,hq3⟩;have hb3:=btt hb2 hq3;clear p0 p1 p2 p3 p4 p5 p6 hq3;obtain⟨p0,p1,p2,p3,p4,p5,p6⟩:=hK.out W3 hb3;go_wp2_with fail
 refine(HT.out W3 hb3).mono ?_;rintro e W4 ⟨rt,rfl,_,hT4,hq4⟩;have hb4:=btt hb3 hq4;have hT4h:=qH hT4;obtain⟨tv,rfl,hS4,_⟩:=hT4;obtain⟨ta,tc,hts⟩:=hS4.shape;subst hts;obtain⟨W5,hW5⟩:=exF (W4.alloc (.cells #[.int .i64 (n':Int),.int .i64 ins,.int .i64 outs,.slice ta CT.length tc] 64));have hb5a:Below W4.heap.size W4 W5:=by rw[hW5];exact(Below.refl _ _).alloc (Nat.le_refl _) _
 have m5:W5.heap[W4.heap.size]? = some (.cells #[.int .i64 (n':Int),.int .i64 ins,.int .i64 outs,.slice ta CT.length tc] 64):=by rw[hW5];exact heap_alloc_new _ _
 have hb5:=btt hb4 hb5a;have hT5:=qH (hT4h.out.keep hb5a);clear p0 p1 p2 p3 p4 p5 p6 hq4 hS4 HP HF HT;obtain⟨p0,p1,p2,p3,p4,p5,p6⟩:=hK.out W5 hb5;obtain⟨k0,k1,k2,k3⟩:=box4' m5;go_upto_region 8 with fail
 rw[←hW5];replace hW5:=qH hW5;go_wp2_with fail
 refine(HA.out W5 hb5).mono ?_;rintro e W6 ⟨ra,rfl,hA6,hq6⟩;have hb6:=btt hb5 hq6;have hA6h:=qH hA6;obtain⟨av,rfl,hA6a,_⟩:=hA6;obtain⟨xa,xc,rfl⟩:=hA6a.shape;obtain⟨W7,hW7⟩:=exF (W6.alloc (.cells #[.int .i64 (n':Int),.slice xa RS.length xc] 24));obtain⟨hb7a,j0,j1,_⟩:=boxAdv hW7;have hb7:=btt hb6 hb7a;have hr7:=btt hq6 hb7a;have hT7:=qH (hT5.out.keep hr7);have hA7:=qH (hA6h.out.keep hb7a);have m57:=(hr7.block _ (Array.getElem?_eq_some_iff.1 m5).1).trans m5;have m7:=hK1.out W7 hb7;clear p0 p1 p2 p3 p4 p5 p6 k0 k1 k2 k3 hq6 hA6a HA m5;obtain⟨p0,p1,p2,p3,p4,p5,p6⟩:=hK.out W7 hb7;obtain⟨k0,k1,k2,k3⟩:=box4' m57;obtain⟨z0,z1,z2,z3,z4,z5,z6⟩:=boxL7 m7;obtain⟨f0,f1,f2,f3,f4,f5,f6⟩:=freeL7 m7;have hfin:=bt hb1 hb7 hb1.size;clear hK hK1 m57;go_upto_region 11 with fail
 rw[←hW7];replace hW7:=qH hW7;go_wp2;refine storeEnd7 (u0:=.int .i64 (n':Int)) (u1:=.int .i64 ins) (u2:=.int .i64 outs) (u3:=.slice ta CT.length tc) (u4:=.int .i64 (n':Int)) (u5:=.slice xa RS.length xc) (u6:=.int .i64 r) m7 ?_;intro W9 hW9 hb9 hk9 _ e0 e1 e2 e3 e4 e5 e6;rw[←hW9]
 have hT9:TaskV W9 (.agg #[.int .i64 (n':Int),.int .i64 ins,.int .i64 outs,.slice ta CT.length tc]) (n':Int) ins outs CT:=by
  obtain⟨tv,he,h2,h3⟩:=hT7.out;injection he with he;simp only[Array.mk.injEq,List.cons.injEq,and_true,true_and] at he;subst he;exact⟨_,rfl,h3 _ _ (h2.other (E':=66) ECs.stabP (by decide) hk9)⟩
 have hA9:OwAdv W9 (.agg #[.int .i64 (n':Int),.slice xa RS.length xc]) (n':Int) RS:=by
  obtain⟨av,he,h2,h3⟩:=hA7.out;injection he with he;simp only[Array.mk.injEq,List.cons.injEq,and_true,true_and] at he;subst he;exact⟨_,rfl,h2.other (E':=66) (ESt.stab (by decide)) (by decide) hk9,h3⟩
 refine bodyPost_ret (v:=.tuple #[.agg #[.int .i64 (n':Int),.int .i64 ins,.int .i64 outs,.slice ta CT.length tc,.int .i64 (n':Int),.slice xa RS.length xc,.int .i64 r],.int .i64 0]) (by simp[results,Tryz.results36,go_sem,e0,e1,e2,e3,e4,e5,e6]) rfl ?_;exact⟨_,rfl,⟨_,_,rfl,hT9,hA9.advC⟩,hb9 _ _ (by omega) hfin⟩
theorem problemAll {w:World}{v:Value}{n1 ins outs:Int}{cs:List Cs}{n2:Int}{ss:List (List (List Int))}{r:Int}(h:PrX w v n1 ins outs cs n2 ss r) (hm:movesN ss≤1000000000) :
  Calls Tryz.prog 76 #[v] w fun e w'=>e = .returned (.int .i64 (prE n1 ins outs cs n2 ss r))∧Below w.heap.size w w':=by
 obtain⟨sa,sc,aa,ac,rfl,hT,hA⟩:=h;obtain⟨W1,hW1⟩:=exF (w.alloc (.cells #[.int .i64 n1,.int .i64 ins,.int .i64 outs,.slice sa cs.length sc,.int .i64 n2,.slice aa ss.length ac,.int .i64 r] 66));obtain⟨hb1,m1⟩:=boxPr hW1;have hK:=qH (fun W (hb:Below W1.heap.size W1 W)=>boxL7 ((hb.block _ (Array.getElem?_eq_some_iff.1 m1).1).trans m1));obtain⟨p0,p1,p2,p3,p4,p5,p6⟩:=boxL7 m1;have HT:=checkT (hT.keep hb1);have HA:=fun W (hb:Below W1.heap.size W1 W)=>checkA ((hA.keep hb1).keep hb).adv hm;obtain⟨A,hAA⟩:=exE (chkT n1 ins outs cs);obtain⟨B,hBB⟩:=exE (chkA n2 ss);have hpe:prE n1 ins outs cs n2 ss r=if A ≠ 0 then A else if B ≠ 0 then B else if n1 ≠ n2 then 22 else if r < 0∨6 < r then 2 else 0:=by rw[prE,hAA,hBB]
 rw[hAA] at HT;simp only[hBB] at HA;rw[hpe];replace HT:=qH HT;replace HA:=qH HA;clear hT hA m1 hAA hBB hpe;by_cases h1:A=0
 rotate_left
 ·have hAb:(A != 0)=true:=by simp[h1]
  rw[if_pos h1];go_enter Tryz.func76, Tryz.ntmps76
  go_wp2_with fail
  rw[←hW1];replace hW1:=qH hW1;refine HT.out.mono ?_;rintro e W2 ⟨rfl,hb2⟩;have hf:=bt hb1 hb2 hb1.size;clear p0 p1 p2 p3 p4 p5 p6 hK;go_wp2;go_ret;exact⟨rfl,hf⟩
 subst h1;rw[if_neg (fun h=>h rfl)];by_cases h2:B=0
 rotate_left
 ·have hBb:(B != 0)=true:=by simp[h2]
  rw[if_pos h2];go_enter Tryz.func76, Tryz.ntmps76
  go_wp2_with fail
  rw[←hW1];replace hW1:=qH hW1;refine HT.out.mono ?_;rintro e W2 ⟨rfl,hb2⟩;clear p0 p1 p2 p3 p4 p5 p6;obtain⟨p0,p1,p2,p3,p4,p5,p6⟩:=hK.out W2 hb2;go_wp2_with fail
  refine(HA.out W2 hb2).mono ?_;rintro e W3 ⟨rfl,hq3⟩;have hb13:=btt hb2 hq3;have hf:=bt hb1 hb13 hb1.size;clear p0 p1 p2 p3 p4 p5 p6 hK;go_wp2;go_ret;exact⟨rfl,hf⟩
 subst h2;rw[if_neg (fun h=>h rfl)];by_cases h3:n1=n2
 rotate_left
 ·have hNb:(n1 != n2)=true:=by simp[h3]
  rw[if_pos h3];go_enter Tryz.func76, Tryz.ntmps76
  go_wp2_with fail
  rw[←hW1];replace hW1:=qH hW1;refine HT.out.mono ?_;rintro e W2 ⟨rfl,hb2⟩;clear p0 p1 p2 p3 p4 p5 p6;obtain⟨p0,p1,p2,p3,p4,p5,p6⟩:=hK.out W2 hb2;go_wp2_with fail
  refine(HA.out W2 hb2).mono ?_;rintro e W3 ⟨rfl,hq3⟩;have hb13:=btt hb2 hq3;have hf:=bt hb1 hb13 hb1.size;clear p0 p1 p2 p3 p4 p5 p6;obtain⟨p0,p1,p2,p3,p4,p5,p6⟩:=hK.out W3 hb13;clear hK;go_wp2;go_ret;exact⟨rfl,hf⟩
 subst h3;have hNf:(n1 != n1)=false:=by simp
 rw[if_neg (fun h=>h rfl)];by_cases h4:r < 0
 ·have hd:decide (r < 0)=true:=decide_eq_true h4;rw[if_pos (.inl h4)];go_enter Tryz.func76, Tryz.ntmps76
  go_wp2_with fail
  rw[←hW1];replace hW1:=qH hW1;refine HT.out.mono ?_;rintro e W2 ⟨rfl,hb2⟩;clear p0 p1 p2 p3 p4 p5 p6;obtain⟨p0,p1,p2,p3,p4,p5,p6⟩:=hK.out W2 hb2;go_wp2_with fail
  refine(HA.out W2 hb2).mono ?_;rintro e W3 ⟨rfl,hq3⟩;have hb13:=btt hb2 hq3;have hf:=bt hb1 hb13 hb1.size;clear p0 p1 p2 p3 p4 p5 p6;obtain⟨p0,p1,p2,p3,p4,p5,p6⟩:=hK.out W3 hb13;clear hK;go_wp2;go_ret;exact⟨rfl,hf⟩
 have hd:decide (r < 0)=false:=decide_eq_false h4;by_cases h5:6 < r
 ·have hd5:decide (6 < r)=true:=decide_eq_true h5;rw[if_pos (.inr h5)];go_enter Tryz.func76, Tryz.ntmps76
  go_wp2_with fail
  rw[←hW1];replace hW1:=qH hW1;refine HT.out.mono ?_;rintro e W2 ⟨rfl,hb2⟩;clear p0 p1 p2 p3 p4 p5 p6;obtain⟨p0,p1,p2,p3,p4,p5,p6⟩:=hK.out W2 hb2;go_wp2_with fail
  refine(HA.out W2 hb2).mono ?_;rintro e W3 ⟨rfl,hq3⟩;have hb13:=btt hb2 hq3;have hf:=bt hb1 hb13 hb1.size;clear p0 p1 p2 p3 p4 p5 p6;obtain⟨p0,p1,p2,p3,p4,p5,p6⟩:=hK.out W3 hb13;clear hK;go_wp2;go_ret;exact⟨rfl,hf⟩
 ·have hd5:decide (6 < r)=false:=decide_eq_false h5;rw[if_neg (by omega)];go_enter Tryz.func76, Tryz.ntmps76
  go_wp2_with fail
  rw[←hW1];replace hW1:=qH hW1;refine HT.out.mono ?_;rintro e W2 ⟨rfl,hb2⟩;clear p0 p1 p2 p3 p4 p5 p6;obtain⟨p0,p1,p2,p3,p4,p5,p6⟩:=hK.out W2 hb2;go_wp2_with fail
  refine(HA.out W2 hb2).mono ?_;rintro e W3 ⟨rfl,hq3⟩;have hb13:=btt hb2 hq3;have hf:=bt hb1 hb13 hb1.size;clear p0 p1 p2 p3 p4 p5 p6;obtain⟨p0,p1,p2,p3,p4,p5,p6⟩:=hK.out W3 hb13;clear hK;go_wp2;go_ret;exact⟨rfl,hf⟩
def pbE (n1 ins outs:Int) (cs:List Cs) (n2:Int) (ss:List (List (List Int))) (r:Int) (a:List Int):Int:=if prE n1 ins outs cs n2 ss r ≠ 0 then prE n1 ins outs cs n2 ss r else fitE a n1
theorem PrX.zero (w:World):PrX w (.agg #[.int .i64 0,.int .i64 0,.int .i64 0,.slice none 0 0,.int .i64 0,.slice none 0 0,.int .i64 0]) 0 0 0 [] 0 [] 0:=
 ⟨none,0,none,0,rfl,⟨_,rfl,none,0,0,0,rfl,by simp,by intro j hj;simp at hj,by simp⟩,(OwAdv.zero w).advC⟩
theorem sameProbT {w:World}{u v:Value}{n1 ins outs:Int}{cs:List Cs}{n2:Int}{ss:List (List (List Int))}{r:Int}(hx:PrX w u n1 ins outs cs n2 ss r) (hy:PrX w v n1 ins outs cs n2 ss r) :
  Calls Tryz.prog 40 #[u,v] w fun e w'=>e = .returned (.bool true)∧Below w.heap.size w w':=by
 obtain⟨sa,sc,aa,ac,rfl,hT,hA⟩:=hx;obtain⟨ta,tc,ba,bc,rfl,hT2,hA2⟩:=hy;obtain⟨W1,hW1⟩:=exF ((w.alloc (.cells #[.int .i64 n1,.int .i64 ins,.int .i64 outs,.slice sa cs.length sc,.int .i64 n2,.slice aa ss.length ac,.int .i64 r] 66)).alloc (.cells #[.int .i64 n1,.int .i64 ins,.int .i64 outs,.slice ta cs.length tc,.int .i64 n2,.slice ba ss.length bc,.int .i64 r] 66));have hb1:Below w.heap.size w W1:=by rw[hW1];exact((Below.refl _ _).alloc (Nat.le_refl _) _).alloc (by simp) _
 have m0:W1.heap[w.heap.size]? = some (.cells #[.int .i64 n1,.int .i64 ins,.int .i64 outs,.slice sa cs.length sc,.int .i64 n2,.slice aa ss.length ac,.int .i64 r] 66):=by rw[hW1];exact(Below.heap_alloc _ _ _ (by simp)).trans (heap_alloc_new _ _)
 have m1:W1.heap[w.heap.size+1]? = some (.cells #[.int .i64 n1,.int .i64 ins,.int .i64 outs,.slice ta cs.length tc,.int .i64 n2,.slice ba ss.length bc,.int .i64 r] 66):=by
  have h:=heap_alloc_new (w.alloc (.cells #[.int .i64 n1,.int .i64 ins,.int .i64 outs,.slice sa cs.length sc,.int .i64 n2,.slice aa ss.length ac,.int .i64 r] 66)) (.cells #[.int .i64 n1,.int .i64 ins,.int .i64 outs,.slice ta cs.length tc,.int .i64 n2,.slice ba ss.length bc,.int .i64 r] 66);rw[World.size_alloc] at h;rw[hW1];exact h
 have hK:=qH (fun W (hb:Below W1.heap.size W1 W)=>And.intro (boxL7 ((hb.block _ (Array.getElem?_eq_some_iff.1 m0).1).trans m0)) (boxL7 ((hb.block _ (Array.getElem?_eq_some_iff.1 m1).1).trans m1)));obtain⟨⟨p0,p1,p2,p3,p4,p5,p6⟩,q0,q1,q2,q3,q4,q5,q6⟩:=hK.out W1 (Below.refl _ _);have HT:=refSameT (hT.keep hb1) (hT2.keep hb1);rw[decide_eq_true rfl] at HT;have HA:=fun W (hb:Below W1.heap.size W1 W)=>sameRef ((hA.keep hb1).keep hb).adv ((hA2.keep hb1).keep hb).adv;simp only[decide_true,Bool.and_self] at HA;replace HT:=qH HT;replace HA:=qH HA;have err:(r == r)=true:=by simp
 clear hT hA hT2 hA2 m0 m1;go_enter Tryz.func40, Tryz.ntmps40
 go_wp2_with fail
 rw[←hW1];replace hW1:=qH hW1;refine HT.out.mono ?_;rintro e W2 ⟨rfl,hb2⟩;clear p0 p1 p2 p3 p4 p5 p6 q0 q1 q2 q3 q4 q5 q6;obtain⟨⟨p0,p1,p2,p3,p4,p5,p6⟩,q0,q1,q2,q3,q4,q5,q6⟩:=hK.out W2 hb2;go_wp2_with fail
 refine(HA.out W2 hb2).mono ?_;rintro e W3 ⟨rfl,hb3⟩;have hf:=bt hb1 (btt hb2 hb3) hb1.size;clear p0 p1 p2 p3 p4 p5 p6 q0 q1 q2 q3 q4 q5 q6 hK;go_wp2;go_ret;exact⟨rfl,hf⟩
theorem symProblemBad {w:World}{v u:Value}{n1 ins outs:Int}{cs:List Cs}{n2:Int}{ss:List (List (List Int))}{r:Int}{a:List Int}(h:PrX w v n1 ins outs cs n2 ss r) (hu:Ints w u a) (hm:movesN ss≤1000000000) (hE:pbE n1 ins outs cs n2 ss r a ≠ 0) :
  Calls Tryz.prog 36 #[v,u] w fun e w'=>e = .returned (.tuple #[.agg #[.int .i64 0,.int .i64 0,.int .i64 0,.slice none 0 0,.int .i64 0,.slice none 0 0,.int .i64 0],.int .i64 (pbE n1 ins outs cs n2 ss r a)])∧Below w.heap.size w w':=by
 have hh:=qH h;obtain⟨sa,sc,aa,ac,rfl,_,_⟩:=h;obtain⟨ua,uc,hus⟩:∃ua uc,u = .slice ua a.length uc:=by obtain⟨ua,uc,_,_,h,_⟩:=hu;exact⟨ua,uc,h⟩
 subst hus;obtain⟨W1,hW1⟩:=exF ((w.alloc (.cells #[.int .i64 n1,.int .i64 ins,.int .i64 outs,.slice sa cs.length sc,.int .i64 n2,.slice aa ss.length ac,.int .i64 r] 66)).alloc (.cells #[.int .i64 0,.int .i64 0,.int .i64 0,.slice none 0 0,.int .i64 0,.slice none 0 0,.int .i64 0] 66));have hb1:Below w.heap.size w W1:=by rw[hW1];exact((Below.refl _ _).alloc (Nat.le_refl _) _).alloc (by simp) _
 have m0:W1.heap[w.heap.size]? = some (.cells #[.int .i64 n1,.int .i64 ins,.int .i64 outs,.slice sa cs.length sc,.int .i64 n2,.slice aa ss.length ac,.int .i64 r] 66):=by rw[hW1];exact(Below.heap_alloc _ _ _ (by simp)).trans (heap_alloc_new _ _)
 have m1:W1.heap[w.heap.size+1]? = some (.cells #[.int .i64 0,.int .i64 0,.int .i64 0,.slice none 0 0,.int .i64 0,.slice none 0 0,.int .i64 0] 66):=by
  have h:=heap_alloc_new (w.alloc (.cells #[.int .i64 n1,.int .i64 ins,.int .i64 outs,.slice sa cs.length sc,.int .i64 n2,.slice aa ss.length ac,.int .i64 r] 66)) (.cells #[.int .i64 0,.int .i64 0,.int .i64 0,.slice none 0 0,.int .i64 0,.slice none 0 0,.int .i64 0] 66);rw[World.size_alloc] at h;rw[hW1];exact h
 have hK0:=qH m0;have hK:=qH (fun W (hb:Below W1.heap.size W1 W)=>boxL7 ((hb.block _ (Array.getElem?_eq_some_iff.1 m0).1).trans m0));obtain⟨p0,p1,p2,p3,p4,p5,p6⟩:=boxL7 m0;have HX:=problemAll (hh.out.keep hb1) hm;have HF:=fun W (hb:Below W1.heap.size W1 W)=>fitsC ((hu.keep hb1).keep hb) n1;obtain⟨P,hP⟩:=exE (prE n1 ins outs cs n2 ss r);obtain⟨F,hF1⟩:=exE (fitE a n1);have hr:pbE n1 ins outs cs n2 ss r a=if P ≠ 0 then P else F:=by rw[pbE,hP,hF1]
 rw[hP] at HX;rw[hr] at hE⊢;simp only[hF1] at HF;replace HX:=qH HX;replace HF:=qH HF;clear hr hP hF1 hu m0;by_cases h1:P=0
 ·subst h1;rw[if_neg (fun h=>h rfl)] at hE⊢;have hFb:(F != 0)=true:=by simp[hE]
  go_enter Tryz.func36, Tryz.ntmps36
  go_wp2_with fail
  rw[←hW1];replace hW1:=qH hW1;refine HX.out.mono ?_;rintro e W2 ⟨rfl,hb2⟩;clear p0 p1 p2 p3 p4 p5 p6;obtain⟨p0,p1,p2,p3,p4,p5,p6⟩:=hK.out W2 hb2;go_wp2_with fail
  refine(HF.out W2 hb2).mono ?_;rintro e W3 ⟨rfl,hb3⟩;have hb13:=btt hb2 hb3;clear p0 p1 p2 p3 p4 p5 p6;have m3:=(hb13.block _ (Array.getElem?_eq_some_iff.1 m1).1).trans m1;obtain⟨z0,z1,z2,z3,z4,z5,z6⟩:=boxL7 m3;obtain⟨f0,f1,f2,f3,f4,f5,f6⟩:=freeL7 m3;have hfin:=bt hb1 hb13 hb1.size;clear HX HF hK hK0 m1;go_wp2;refine storeEnd7 (u0:=.int .i64 0) (u1:=.int .i64 0) (u2:=.int .i64 0) (u3:=.slice none 0 0) (u4:=.int .i64 0) (u5:=.slice none 0 0) (u6:=.int .i64 0) m3 ?_;intro W9 hW9 hb9 _ _ e0 e1 e2 e3 e4 e5 e6;rw[←hW9];refine bodyPost_ret (v:=.tuple #[.agg #[.int .i64 0,.int .i64 0,.int .i64 0,.slice none 0 0,.int .i64 0,.slice none 0 0,.int .i64 0],.int .i64 F]) (by simp[results,Tryz.results36,go_sem,e0,e1,e2,e3,e4,e5,e6]) rfl ?_;exact⟨rfl,hb9 _ _ (by omega) hfin⟩
 ·rw[if_pos h1];have hPb:(P != 0)=true:=by simp[h1]
  go_enter Tryz.func36, Tryz.ntmps36
  go_wp2_with fail
  rw[←hW1];replace hW1:=qH hW1;refine HX.out.mono ?_;rintro e W3 ⟨rfl,hb13⟩;clear p0 p1 p2 p3 p4 p5 p6;have m3:=(hb13.block _ (Array.getElem?_eq_some_iff.1 m1).1).trans m1;obtain⟨z0,z1,z2,z3,z4,z5,z6⟩:=boxL7 m3;obtain⟨f0,f1,f2,f3,f4,f5,f6⟩:=freeL7 m3;have hfin:=bt hb1 hb13 hb1.size;clear HX HF hK hK0 m1;go_wp2;refine storeEnd7 (u0:=.int .i64 0) (u1:=.int .i64 0) (u2:=.int .i64 0) (u3:=.slice none 0 0) (u4:=.int .i64 0) (u5:=.slice none 0 0) (u6:=.int .i64 0) m3 ?_;intro W9 hW9 hb9 _ _ e0 e1 e2 e3 e4 e5 e6;rw[←hW9];refine bodyPost_ret (v:=.tuple #[.agg #[.int .i64 0,.int .i64 0,.int .i64 0,.slice none 0 0,.int .i64 0,.slice none 0 0,.int .i64 0],.int .i64 P]) (by simp[results,Tryz.results36,go_sem,e0,e1,e2,e3,e4,e5,e6]) rfl ?_;exact⟨rfl,hb9 _ _ (by omega) hfin⟩
theorem refProblemBad {w:World}{v u:Value}{n1 ins outs:Int}{cs:List Cs}{n2:Int}{ss:List (List (List Int))}{r:Int}{a:List Int}(h:PrX w v n1 ins outs cs n2 ss r) (hu:Ints w u a) (hE:pbE n1 ins outs cs n2 ss r a ≠ 0) :
  Calls Tryz.prog 37 #[v,u] w fun e w'=>e = .returned (.tuple #[.agg #[.int .i64 0,.int .i64 0,.int .i64 0,.slice none 0 0,.int .i64 0,.slice none 0 0,.int .i64 0],.int .i64 (pbE n1 ins outs cs n2 ss r a)])∧Below w.heap.size w w':=by
 have hh:=qH h;obtain⟨sa,sc,aa,ac,rfl,_,_⟩:=h;obtain⟨ua,uc,hus⟩:∃ua uc,u = .slice ua a.length uc:=by obtain⟨ua,uc,_,_,h,_⟩:=hu;exact⟨ua,uc,h⟩
 subst hus;obtain⟨W1,hW1⟩:=exF ((w.alloc (.cells #[.int .i64 n1,.int .i64 ins,.int .i64 outs,.slice sa cs.length sc,.int .i64 n2,.slice aa ss.length ac,.int .i64 r] 66)).alloc (.cells #[.int .i64 0,.int .i64 0,.int .i64 0,.slice none 0 0,.int .i64 0,.slice none 0 0,.int .i64 0] 66));have hb1:Below w.heap.size w W1:=by rw[hW1];exact((Below.refl _ _).alloc (Nat.le_refl _) _).alloc (by simp) _
 have m0:W1.heap[w.heap.size]? = some (.cells #[.int .i64 n1,.int .i64 ins,.int .i64 outs,.slice sa cs.length sc,.int .i64 n2,.slice aa ss.length ac,.int .i64 r] 66):=by rw[hW1];exact(Below.heap_alloc _ _ _ (by simp)).trans (heap_alloc_new _ _)
 have m1:W1.heap[w.heap.size+1]? = some (.cells #[.int .i64 0,.int .i64 0,.int .i64 0,.slice none 0 0,.int .i64 0,.slice none 0 0,.int .i64 0] 66):=by
  have h:=heap_alloc_new (w.alloc (.cells #[.int .i64 n1,.int .i64 ins,.int .i64 outs,.slice sa cs.length sc,.int .i64 n2,.slice aa ss.length ac,.int .i64 r] 66)) (.cells #[.int .i64 0,.int .i64 0,.int .i64 0,.slice none 0 0,.int .i64 0,.slice none 0 0,.int .i64 0] 66);rw[World.size_alloc] at h;rw[hW1];exact h
 have hK0:=qH m0;have hK:=qH (fun W (hb:Below W1.heap.size W1 W)=>boxL7 ((hb.block _ (Array.getElem?_eq_some_iff.1 m0).1).trans m0));obtain⟨p0,p1,p2,p3,p4,p5,p6⟩:=boxL7 m0;have HX:=refCheckP (hh.out.keep hb1);have HF:=fun W (hb:Below W1.heap.size W1 W)=>refFits ((hu.keep hb1).keep hb) n1;obtain⟨P,hP⟩:=exE (prE n1 ins outs cs n2 ss r);obtain⟨F,hF1⟩:=exE (fitE a n1);have hr:pbE n1 ins outs cs n2 ss r a=if P ≠ 0 then P else F:=by rw[pbE,hP,hF1]
 rw[hP] at HX;rw[hr] at hE⊢;simp only[hF1] at HF;replace HX:=qH HX;replace HF:=qH HF;clear hr hP hF1 hu m0;by_cases h1:P=0
 ·subst h1;rw[if_neg (fun h=>h rfl)] at hE⊢;have hFb:(F != 0)=true:=by simp[hE]
  go_enter Tryz.func37, Tryz.ntmps37
  go_wp2_with fail
  rw[←hW1];replace hW1:=qH hW1;refine HX.out.mono ?_;rintro e W2 ⟨rfl,hb2⟩;clear p0 p1 p2 p3 p4 p5 p6;obtain⟨p0,p1,p2,p3,p4,p5,p6⟩:=hK.out W2 hb2;go_wp2_with fail
  refine(HF.out W2 hb2).mono ?_;rintro e W3 ⟨rfl,hb3⟩;have hb13:=btt hb2 hb3.below;clear p0 p1 p2 p3 p4 p5 p6;have m3:=(hb13.block _ (Array.getElem?_eq_some_iff.1 m1).1).trans m1;obtain⟨z0,z1,z2,z3,z4,z5,z6⟩:=boxL7 m3;obtain⟨f0,f1,f2,f3,f4,f5,f6⟩:=freeL7 m3;have hfin:=bt hb1 hb13 hb1.size;clear HX HF hK hK0 m1;go_wp2;refine storeEnd7 (u0:=.int .i64 0) (u1:=.int .i64 0) (u2:=.int .i64 0) (u3:=.slice none 0 0) (u4:=.int .i64 0) (u5:=.slice none 0 0) (u6:=.int .i64 0) m3 ?_;intro W9 hW9 hb9 _ _ e0 e1 e2 e3 e4 e5 e6;rw[←hW9];refine bodyPost_ret (v:=.tuple #[.agg #[.int .i64 0,.int .i64 0,.int .i64 0,.slice none 0 0,.int .i64 0,.slice none 0 0,.int .i64 0],.int .i64 F]) (by simp[results,Tryz.results37,go_sem,e0,e1,e2,e3,e4,e5,e6]) rfl ?_;exact⟨rfl,hb9 _ _ (by omega) hfin⟩
 ·rw[if_pos h1];have hPb:(P != 0)=true:=by simp[h1]
  go_enter Tryz.func37, Tryz.ntmps37
  go_wp2_with fail
  rw[←hW1];replace hW1:=qH hW1;refine HX.out.mono ?_;rintro e W3 ⟨rfl,hb13⟩;clear p0 p1 p2 p3 p4 p5 p6;have m3:=(hb13.block _ (Array.getElem?_eq_some_iff.1 m1).1).trans m1;obtain⟨z0,z1,z2,z3,z4,z5,z6⟩:=boxL7 m3;obtain⟨f0,f1,f2,f3,f4,f5,f6⟩:=freeL7 m3;have hfin:=bt hb1 hb13 hb1.size;clear HX HF hK hK0 m1;go_wp2;refine storeEnd7 (u0:=.int .i64 0) (u1:=.int .i64 0) (u2:=.int .i64 0) (u3:=.slice none 0 0) (u4:=.int .i64 0) (u5:=.slice none 0 0) (u6:=.int .i64 0) m3 ?_;intro W9 hW9 hb9 _ _ e0 e1 e2 e3 e4 e5 e6;rw[←hW9];refine bodyPost_ret (v:=.tuple #[.agg #[.int .i64 0,.int .i64 0,.int .i64 0,.slice none 0 0,.int .i64 0,.slice none 0 0,.int .i64 0],.int .i64 P]) (by simp[results,Tryz.results37,go_sem,e0,e1,e2,e3,e4,e5,e6]) rfl ?_;exact⟨rfl,hb9 _ _ (by omega) hfin⟩
end Go.Proofs.YtmikofeildnpdaaGreat
namespace Go.Proofs.YtmikofeildnpdaaGreat
open Go.RowKit Go.ChangeShapes Go.WideShapes Go.ChangeAt Go.Deep Go.WideElems
section
variable {H:Type} {enc:TypeId × Value→H} {w:World}
theorem adv_of_cells {v0 v1:Value}{d:DataW H}{p:List MemPlace}{fuel:Nat}(h:DataW.trod enc Tryz.prog w 0 (fun _=>true) true fuel 24 [v0,v1]=some (d,p)) (hw:∀n∈d.weights Tryz.prog 24,n≤reachBytes) :
  ∃(n:Int) (ss:List (List (List Int))),v0 = .int .i64 n∧AdvC w (.agg #[v0,v1]) n ss:=by
 have k82 : Tryz.prog.cellsOf 98=1:=by kernel_rfl
 have b82 : Tryz.prog.bytesOf 98=24:=by kernel_rfl
 have k3 : Tryz.prog.cellsOf 3=1:=by kernel_rfl
 have k22 : Tryz.prog.cellsOf 22=1:=by kernel_rfl
 obtain⟨y0,y1,n,hx,_,h0,h1⟩:=trod_struct2 Tryz.underlying24 h;simp only[k3,k22,List.drop_zero,List.take_succ_cons,List.take_zero,List.drop_succ_cons] at h0 h1;simp only[Prod.mk.injEq] at hx;obtain⟨rfl,rfl⟩:=hx;obtain⟨i0,e0,_⟩:=DataW.trod_int Tryz.underlying3 h0;obtain rfl:v0 = .int .i64 i0:=by simpa using e0
 refine⟨i0,?_⟩
 have hw1:∀n∈y1.1.weights Tryz.prog 22,n≤reachBytes:=fun n hn=>hw n (by
  simp only[DataW.weights,Tryz.underlying24,DataW.weightsEach,List.map_cons,List.map_nil,List.mem_append];exact .inr (.inl hn))
 obtain⟨d1,p1⟩:=y1;rcases open_slice1 Tryz.underlying22 k82 h1 with⟨h2,_⟩|⟨a,len,cap,m,n,V,D,Pl,h2,_,hl,hm,hmm,h3,hx⟩
 ·obtain rfl:v1 = .slice none 0 0:=by simpa using h2
  exact⟨[],rfl,none,0,0,0,rfl,by simp,by intro j hj;simp at hj,by simp⟩
 ·obtain rfl:v1 = .slice (some a) len cap:=by simpa using h2
  simp only[if_true] at hmm;subst hmm;obtain⟨rfl,_⟩:=Prod.mk.injEq ..▸h3;have hsz:=hw1 ((len+(m - len)) * 24) (by simp[DataW.weights,Tryz.underlying22,b82]);unfold reachBytes at hsz
  have hxs:∀i,i < len→∃xs,KSC 8 w (V i) xs:=fun i hi=>by
   obtain⟨g1,g2⟩:=hx i (by omega);refine ksc_of_trod g2 fun n hn=>hw1 n ?_;simp only[DataW.weights,Tryz.underlying22,List.mem_cons,List.mem_append];right;left
   exact weightsAll_mem (List.mem_map_of_mem (List.mem_range.2 hi)) n hn
  have hlen:len≤5864062014805:=by omega
  obtain⟨X,hX⟩:∃X:Nat→List (List Int),∀i,i < len→KSC 8 w (V i) (X i):=⟨fun i=>if h:i < len then (hxs i h).choose else [],fun i hi=>by simp only[hi,dif_pos];exact(hxs i hi).choose_spec⟩;refine⟨(List.range len).map X,rfl,some a,m,a.block,a.off,by simp,fun h0=>?_,fun j hj=>?_,by simpa using hlen⟩
  ·have hk:=(hx 0 (by have:0 < len:=(by simpa using h0);omega)).1;rw[show a.add 0=a by simp[Addr.add]] at hk;rw[←addr_spot hk]
  ·have hj':j < len:=(by simpa using hj);have hk0:=(hx 0 (by omega)).1;rw[show a.add 0=a by simp[Addr.add]] at hk0
   have e1:a.add j=⟨a.block,a.off+j,none⟩:=by
    rw[addr_spot hk0];exact add_plain _ _ _
   refine⟨V j,by rw[←e1];exact(hx j (by omega)).1,?_⟩;have:((List.range len).map X).getD j []=X j:=by simp[hj']
   rw[this];exact hX j hj'
theorem caseRows {cs:List Value}{x:DataW H × List MemPlace}{fuel:Nat}(h:DataW.trod enc Tryz.prog w 0 (fun _=>true) true fuel 128 cs=some x) (hw:∀n∈x.1.weights Tryz.prog 128,n≤reachBytes) :
  ∃(u0 u1 u2:Value) (c:Cs),cs = [u0,u1,u2]∧Ints w u0 c.1∧Intss w u1 c.2.1∧Intss w u2 c.2.2:=by
 have k128 : Tryz.prog.cellsOf 128=3:=by kernel_rfl
 have k25 : Tryz.prog.cellsOf 25=1:=by kernel_rfl
 have k39 : Tryz.prog.cellsOf 39=1:=by kernel_rfl
 have k3 : Tryz.prog.cellsOf 3=1:=by kernel_rfl
 have b3 : Tryz.prog.bytesOf 3=8:=by kernel_rfl
 have b25 : Tryz.prog.bytesOf 25=24:=by kernel_rfl
 obtain⟨y0,y1,y2,n,hx,hl,h0,h1,h2⟩:=trod_struct3 Tryz.underlying128 h;rw[k128] at hl
 obtain⟨u0,u1,u2,rfl⟩:∃a b c,cs = [a,b,c]:=by
  match cs,hl with
  | [a,b,c],_=>exact⟨a,b,c,rfl⟩
 simp only[k25,k39,List.drop_zero,List.take_succ_cons,List.take_zero,List.drop_succ_cons] at h0 h1 h2;subst hx
 have hwx:∀n,(n∈y0.1.weights Tryz.prog 25∨n∈y1.1.weights Tryz.prog 39∨n∈y2.1.weights Tryz.prog 39)→n≤reachBytes:=fun n hn=>hw n (by
  simp only[DataW.weights,Tryz.underlying128,DataW.weightsEach,List.map_cons,List.map_nil,List.mem_append];rcases hn with hn|hn|hn
  ·exact .inl hn
  ·exact .inr (.inl hn)
  ·exact .inr (.inr (.inl hn)))
 obtain⟨x0,i0⟩:=ints_of_trod Tryz.underlying25 Tryz.underlying3 k3 b3 h0 (fun n hn=>hwx n (.inl hn));obtain⟨x1,i1⟩:=intss_of_trod Tryz.underlying39 Tryz.underlying25 Tryz.underlying3 k25 b25 k3 b3 h1 (fun n hn=>hwx n (.inr (.inl hn)));obtain⟨x2,i2⟩:=intss_of_trod Tryz.underlying39 Tryz.underlying25 Tryz.underlying3 k25 b25 k3 b3 h2 (fun n hn=>hwx n (.inr (.inr hn)));exact⟨u0,u1,u2,(x0,x1,x2),rfl,i0,i1,i2⟩
theorem choose_lt21 {α:Type} [Inhabited α] {n:Nat}{p:Nat→α→Prop}(h:∀i,i < n→∃x,p i x):∃X:Nat→α,∀i,i < n→p i (X i):=
 ⟨fun i=>if h':i < n then (h i h').choose else default,fun i hi=>by simp only[hi,dif_pos];exact(h i hi).choose_spec⟩
theorem cases_of_trod {v:Value}{d:DataW H}{ps:List MemPlace}{fuel:Nat}(h:DataW.trod enc Tryz.prog w 0 (fun _=>true) true fuel 62 [v]=some (d,ps)) (hw:∀n∈d.weights Tryz.prog 62,n≤reachBytes):∃cs,CsS w v cs:=by
 have k128 : Tryz.prog.cellsOf 128=3:=by kernel_rfl
 have b128 : Tryz.prog.bytesOf 128=72:=by kernel_rfl
 rcases open_slice Tryz.underlying62 h with⟨h1,_⟩|⟨a,len,cap,m,n,D,Pl,h1,_,hl,hm,hmm,h2,hx⟩
 ·obtain rfl:v = .slice none 0 0:=by simpa using h1
  exact⟨[],none,0,0,0,rfl,by simp,by intro j hj;simp at hj,by simp⟩
 ·obtain rfl:v = .slice (some a) len cap:=by simpa using h1
  simp only[if_true] at hmm;subst hmm;obtain⟨rfl,_⟩:=Prod.mk.injEq ..▸h2;have hsz:=hw ((len+(m - len)) * 72) (by simp[DataW.weights,Tryz.underlying62,b128]);unfold reachBytes at hsz;rw[k128] at hx
  obtain⟨X,hX⟩:=choose_lt21 (α:=Cs) (n:=len) (p:=fun i c=>∃u0 u1 u2,w.cell? (a.add (i * 3))=some u0∧w.cell? (a.add (i * 3+1))=some u1∧w.cell? (a.add (i * 3+2))=some u2∧Ints w u0 c.1∧Intss w u1 c.2.1∧Intss w u2 c.2.2) (fun i hi=>by
   obtain⟨cs',g1,g2⟩:=hx i (by omega)
   obtain⟨u0,u1,u2,c,rfl,j0,j1,j2⟩:=caseRows g2 (fun n hn=>hw n (by
    simp only[DataW.weights,Tryz.underlying62,List.mem_cons,List.mem_append];right;left
    exact weightsAll_mem (List.mem_map_of_mem (List.mem_range.2 hi)) n hn))
   obtain⟨_,_,hcell⟩:=World.cells?_some g1;have h0:=hcell 0 (by simp);have h1:=hcell 1 (by simp);have h2:=hcell 2 (by simp);rw[add_add] at h0 h1 h2;exact⟨c,u0,u1,u2,h0,h1,h2,j0,j1,j2⟩)
  have hlen:len≤1954687338268:=by omega
  have hall:∀j,j < len→((List.range len).map X).getD j csNil=X j:=fun j hj=>by simp[hj]
  refine⟨(List.range len).map X,some a,m,a.block,a.off,by simp,fun h0=>?_,fun j hj=>?_,by simpa using hlen⟩
  ·obtain⟨u0,_,_,hk,_⟩:=hX 0 (by simpa using h0);rw[show a.add (0 * 3)=a by simp[Addr.add]] at hk;rw[←addr_spot hk]
  ·have hj':j < len:=(by simpa using hj);rw[hall j hj'];obtain⟨_,_,_,hk0,_⟩:=hX 0 (by omega);rw[show a.add (0 * 3)=a by simp[Addr.add]] at hk0;have hsp:=addr_spot hk0;obtain⟨u0,u1,u2,g0,g1,g2,j0,j1,j2⟩:=hX j hj'
   have e:∀i,a.add (j * 3+i)=⟨a.block,a.off+j * 3+i,none⟩:=fun i=>by
    rw[hsp,Nat.add_assoc];exact add_plain _ _ _
   have e0:=e 0;rw[Nat.add_zero,Nat.add_zero] at e0;exact⟨u0,u1,u2,by rw[←e0];exact g0,by rw[←e 1];exact g1,by rw[←e 2];exact g2,j0,j1,j2⟩
theorem prob_of_trod {r:Reach}{b0:Nat}{v:Value}{d:DataW H}{p:List MemPlace}(hv:Value.okWide Tryz.prog w r b0 66 v) (h:DataW.Trod enc Tryz.prog w 0 (fun _=>true) true 66 v d p) (hw:∀n∈d.weights Tryz.prog 66,n≤reachBytes) :
  ∃(x:Int × Int × Int × List Cs × Int × List (List (List Int)) × Int),PrX w v x.1 x.2.1 x.2.2.1 x.2.2.2.1 x.2.2.2.2.1 x.2.2.2.2.2.1 x.2.2.2.2.2.2:=by
 have k66 : Tryz.prog.cellsOf 66=7:=by kernel_rfl
 have k64 : Tryz.prog.cellsOf 64=4:=by kernel_rfl
 have k24 : Tryz.prog.cellsOf 24=2:=by kernel_rfl
 have k3 : Tryz.prog.cellsOf 3=1:=by kernel_rfl
 have k62 : Tryz.prog.cellsOf 62=1:=by kernel_rfl
 obtain⟨cs,rfl,hsz⟩:=okWide_struct Tryz.underlying66 hv;rw[k66] at hsz
 obtain⟨c0,c1,c2,c3,c4,c5,c6,rfl⟩:∃c0 c1 c2 c3 c4 c5 c6,cs = #[c0,c1,c2,c3,c4,c5,c6]:=by
  obtain⟨l⟩:=cs;match l,hsz with
  | [a,b,c,d,e,f,g],_=>exact⟨a,b,c,d,e,f,g,rfl⟩
 obtain⟨fuel,hf⟩:=h;obtain⟨y0,y1,y2,n,hx,_,h0,h1,h2⟩:=trod_struct3 Tryz.underlying66 hf;simp only[Value.cells,k64,k24,k3,List.drop_zero,List.take_succ_cons,List.take_zero,List.drop_succ_cons] at h0 h1 h2;simp only[Prod.mk.injEq] at hx;obtain⟨rfl,rfl⟩:=hx
 have hwx:∀n,(n∈y0.1.weights Tryz.prog 64∨n∈y1.1.weights Tryz.prog 24)→n≤reachBytes:=fun n hn=>hw n (by
  simp only[DataW.weights,Tryz.underlying66,DataW.weightsEach,List.map_cons,List.map_nil,List.mem_append];rcases hn with hn|hn
  ·exact .inl hn
  ·exact .inr (.inl hn))
 obtain⟨i6,e6,_⟩:=DataW.trod_int Tryz.underlying3 h2;obtain rfl:c6 = .int .i64 i6:=by simpa using e6
 obtain⟨dA,pA⟩:=y1;obtain⟨i4,ss,rfl,hA⟩:=adv_of_cells h1 (fun n hn=>hwx n (.inr hn));obtain⟨z0,z1,z2,z3,n2,hz,_,g0,g1,g2,g3⟩:=Go.Joins.trod_struct4 Tryz.underlying64 h0;simp only[k62,k3,List.drop_zero,List.take_succ_cons,List.take_zero,List.drop_succ_cons] at g0 g1 g2 g3;obtain⟨i0,e0,_⟩:=DataW.trod_int Tryz.underlying3 g0;obtain⟨i1,e1,_⟩:=DataW.trod_int Tryz.underlying3 g1;obtain⟨i2,e2,_⟩:=DataW.trod_int Tryz.underlying3 g2;obtain rfl:c0 = .int .i64 i0:=by simpa using e0
 obtain rfl:c1 = .int .i64 i1:=by simpa using e1
 obtain rfl:c2 = .int .i64 i2:=by simpa using e2
 subst hz;obtain⟨d3,p3⟩:=z3
 obtain⟨cl,hC⟩:=cases_of_trod g3 (fun n hn=>hwx n (.inl (by
  simp only[DataW.weights,Tryz.underlying64,DataW.weightsEach,List.map_cons,List.map_nil,List.mem_append];exact .inr (.inr (.inr (.inl hn))))))
 obtain⟨sa,sc,rfl⟩:=hC.shape;obtain⟨aa,ac,he⟩:=advShape' hA.adv;injection he with he;simp only[Array.mk.injEq,List.cons.injEq,and_true,true_and] at he;subst he;exact⟨(i0,i1,i2,cl,i4,ss,i6),sa,sc,aa,ac,rfl,⟨_,rfl,hC⟩,hA⟩
end
end Go.Proofs.YtmikofeildnpdaaGreat
