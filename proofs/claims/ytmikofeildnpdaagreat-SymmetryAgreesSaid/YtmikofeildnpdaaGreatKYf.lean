/- Texts of this claim, put together: A4 A5 A6. -/
import Derived.Test.YtmikofeildnpdaaGreatKYe
import Derived.Test.YtmikofeildnpdaaGreatKYc
import Derived.StillTailTactics

set_option maxRecDepth 100000
set_option maxHeartbeats 12800000
/- Sets and rounds: Check and Compare of the program and of the reference. -/
namespace Go.Proofs.YtmikofeildnpdaaGreat
open Go.RowKit
theorem chkSet_1 {n x:Int} (h:n < 1∨5 < n):chkSet n x=1:=by rw [chkSet,procE,if_pos h]; rfl
theorem chkSet_2 {n x:Int} (h1:1≤n) (h5:n≤5) (h:x < 0∨twoI n≤x):chkSet n x=2:=by rw [chkSet,procE,if_neg (show ¬ (n < 1∨5 < n) by omega),if_neg (by decide),if_pos h]
theorem chkSet_0 {n x:Int} (h1:1≤n) (h5:n≤5) (h:0≤x∧x < twoI n):chkSet n x=0:=by rw [chkSet,procE,if_neg (show ¬ (n < 1∨5 < n) by omega),if_neg (by decide),if_neg (by omega)]
theorem setCheck (n x:Int) (w:World):Calls Tryz.prog 130 #[.int .i64 n,.int .i64 x] w fun e w'=>e = .returned (.int .i64 (chkSet n x))∧w=w':=by
 have HP:=procs n w
 by_cases hn:n < 1∨5 < n
 ·rw [procE,if_pos hn] at HP
  replace HP:=Lib.hid HP
  have hE:=Lib.hid (chkSet_1 (x:=x) hn)
  clear hn
  go_enter Tryz.func130, Tryz.ntmps130
  go_wp2_with (go_at_call 181; refine HP.out.mono ?_; rintro e w1 ⟨rfl,rfl⟩)
  go_ret
  exact ⟨ret_int hE.out.symm,rfl⟩
 ·rw [procE,if_neg hn] at HP
  replace HP:=Lib.hid HP
  have g1:1≤n:=by omega
  have g5:n≤5:=by omega
  clear hn
  by_cases h0:x < 0
  ·have hE:=Lib.hid (chkSet_2 g1 g5 (.inl h0))
   have h0':decide (x < 0)=true:=decide_eq_true h0
   go_enter Tryz.func130, Tryz.ntmps130
   go_wp2_with (go_at_call 181; refine HP.out.mono ?_; rintro e w1 ⟨rfl,rfl⟩)
   go_ret
   exact ⟨ret_int hE.out.symm,rfl⟩
  ·have h0':decide (x < 0)=false:=decide_eq_false h0
   rcases powN n g1 g5 with rfl | rfl | rfl | rfl | rfl
   ·by_cases hx:2≤x
    ·have hE:=Lib.hid (chkSet_2 (n:=1) g1 g5 (.inr (show twoI 1≤x from hx)))
     have hx':(x / 2 != 0)=true:=by
      have:x / 2 ≠ 0:=by omega
      simpa using this
     go_enter Tryz.func130, Tryz.ntmps130
     go_wp2_with (go_at_call 181; refine HP.out.mono ?_; rintro e w1 ⟨rfl,rfl⟩)
     go_ret
     exact ⟨ret_int hE.out.symm,rfl⟩
    ·have hE:=Lib.hid (chkSet_0 (n:=1) g1 g5 (show 0≤x∧x < twoI 1 from ⟨by omega,show x < 2 by omega⟩))
     have hx':(x / 2 != 0)=false:=by
      have:x / 2=0:=by omega
      simp [this]
     go_enter Tryz.func130, Tryz.ntmps130
     go_wp2_with (go_at_call 181; refine HP.out.mono ?_; rintro e w1 ⟨rfl,rfl⟩)
     go_ret
     exact ⟨ret_int hE.out.symm,rfl⟩
   ·by_cases hx:4≤x
    ·have hE:=Lib.hid (chkSet_2 (n:=2) g1 g5 (.inr (show twoI 2≤x from hx)))
     have hx':(x / 4 != 0)=true:=by
      have:x / 4 ≠ 0:=by omega
      simpa using this
     go_enter Tryz.func130, Tryz.ntmps130
     go_wp2_with (go_at_call 181; refine HP.out.mono ?_; rintro e w1 ⟨rfl,rfl⟩)
     go_ret
     exact ⟨ret_int hE.out.symm,rfl⟩
    ·have hE:=Lib.hid (chkSet_0 (n:=2) g1 g5 (show 0≤x∧x < twoI 2 from ⟨by omega,show x < 4 by omega⟩))
     have hx':(x / 4 != 0)=false:=by
      have:x / 4=0:=by omega
      simp [this]
     go_enter Tryz.func130, Tryz.ntmps130
     go_wp2_with (go_at_call 181; refine HP.out.mono ?_; rintro e w1 ⟨rfl,rfl⟩)
     go_ret
     exact ⟨ret_int hE.out.symm,rfl⟩
   ·by_cases hx:8≤x
    ·have hE:=Lib.hid (chkSet_2 (n:=3) g1 g5 (.inr (show twoI 3≤x from hx)))
     have hx':(x / 8 != 0)=true:=by
      have:x / 8 ≠ 0:=by omega
      simpa using this
     go_enter Tryz.func130, Tryz.ntmps130
     go_wp2_with (go_at_call 181; refine HP.out.mono ?_; rintro e w1 ⟨rfl,rfl⟩)
     go_ret
     exact ⟨ret_int hE.out.symm,rfl⟩
    ·have hE:=Lib.hid (chkSet_0 (n:=3) g1 g5 (show 0≤x∧x < twoI 3 from ⟨by omega,show x < 8 by omega⟩))
     have hx':(x / 8 != 0)=false:=by
      have:x / 8=0:=by omega
      simp [this]
     go_enter Tryz.func130, Tryz.ntmps130
     go_wp2_with (go_at_call 181; refine HP.out.mono ?_; rintro e w1 ⟨rfl,rfl⟩)
     go_ret
     exact ⟨ret_int hE.out.symm,rfl⟩
   ·by_cases hx:16≤x
    ·have hE:=Lib.hid (chkSet_2 (n:=4) g1 g5 (.inr (show twoI 4≤x from hx)))
     have hx':(x / 16 != 0)=true:=by
      have:x / 16 ≠ 0:=by omega
      simpa using this
     go_enter Tryz.func130, Tryz.ntmps130
     go_wp2_with (go_at_call 181; refine HP.out.mono ?_; rintro e w1 ⟨rfl,rfl⟩)
     go_ret
     exact ⟨ret_int hE.out.symm,rfl⟩
    ·have hE:=Lib.hid (chkSet_0 (n:=4) g1 g5 (show 0≤x∧x < twoI 4 from ⟨by omega,show x < 16 by omega⟩))
     have hx':(x / 16 != 0)=false:=by
      have:x / 16=0:=by omega
      simp [this]
     go_enter Tryz.func130, Tryz.ntmps130
     go_wp2_with (go_at_call 181; refine HP.out.mono ?_; rintro e w1 ⟨rfl,rfl⟩)
     go_ret
     exact ⟨ret_int hE.out.symm,rfl⟩
   ·by_cases hx:32≤x
    ·have hE:=Lib.hid (chkSet_2 (n:=5) g1 g5 (.inr (show twoI 5≤x from hx)))
     have hx':(x / 32 != 0)=true:=by
      have:x / 32 ≠ 0:=by omega
      simpa using this
     go_enter Tryz.func130, Tryz.ntmps130
     go_wp2_with (go_at_call 181; refine HP.out.mono ?_; rintro e w1 ⟨rfl,rfl⟩)
     go_ret
     exact ⟨ret_int hE.out.symm,rfl⟩
    ·have hE:=Lib.hid (chkSet_0 (n:=5) g1 g5 (show 0≤x∧x < twoI 5 from ⟨by omega,show x < 32 by omega⟩))
     have hx':(x / 32 != 0)=false:=by
      have:x / 32=0:=by omega
      simp [this]
     go_enter Tryz.func130, Tryz.ntmps130
     go_wp2_with (go_at_call 181; refine HP.out.mono ?_; rintro e w1 ⟨rfl,rfl⟩)
     go_ret
     exact ⟨ret_int hE.out.symm,rfl⟩
theorem refSetCheck (n x:Int) (w:World):Calls Tryz.prog 126 #[.int .i64 n,.int .i64 x] w fun e w'=>e = .returned (.int .i64 (chkSet n x))∧w=w':=by
 have HP:=refProcs n w
 by_cases hn:n < 1∨5 < n
 ·rw [procE,if_pos hn] at HP
  replace HP:=Lib.hid HP
  have hE:=Lib.hid (chkSet_1 (x:=x) hn)
  clear hn
  go_enter Tryz.func126, Tryz.ntmps126
  go_wp2_with (go_at_call 88; refine HP.out.mono ?_; rintro e w1 ⟨rfl,rfl⟩)
  go_ret
  exact ⟨ret_int hE.out.symm,rfl⟩
 ·rw [procE,if_neg hn] at HP
  replace HP:=Lib.hid HP
  have g1:1≤n:=by omega
  have g5:n≤5:=by omega
  clear hn
  by_cases h0:x < 0
  ·have hE:=Lib.hid (chkSet_2 g1 g5 (.inl h0))
   have h0':decide (x < 0)=true:=decide_eq_true h0
   go_enter Tryz.func126, Tryz.ntmps126
   go_wp2_with (go_at_call 88; refine HP.out.mono ?_; rintro e w1 ⟨rfl,rfl⟩)
   go_ret
   exact ⟨ret_int hE.out.symm,rfl⟩
  ·have h0':decide (x < 0)=false:=decide_eq_false h0
   obtain ⟨t,ht⟩:=exE (twoI n)
   have hpw:=powerCall n
   rw [ht] at hpw
   by_cases hx:t≤x
   ·have hE:=Lib.hid (chkSet_2 g1 g5 (.inr (show twoI n≤x by omega)))
    have hx':decide (t≤x)=true:=decide_eq_true hx
    replace hpw:=Lib.hid (fun W=>hpw W (by omega) g5)
    clear ht
    go_enter Tryz.func126, Tryz.ntmps126
    go_wp2_with (first | (go_at_call 88; refine HP.out.mono ?_; rintro e w1 ⟨rfl,rfl⟩) | (go_at_call 179; refine (hpw.out _).mono ?_; rintro e w2 ⟨rfl,rfl⟩))
    go_ret
    exact ⟨ret_int hE.out.symm,rfl⟩
   ·have hE:=Lib.hid (chkSet_0 g1 g5 (show 0≤x∧x < twoI n by omega))
    have hx':decide (t≤x)=false:=decide_eq_false hx
    replace hpw:=Lib.hid (fun W=>hpw W (by omega) g5)
    clear ht
    go_enter Tryz.func126, Tryz.ntmps126
    go_wp2_with (first | (go_at_call 88; refine HP.out.mono ?_; rintro e w1 ⟨rfl,rfl⟩) | (go_at_call 179; refine (hpw.out _).mono ?_; rintro e w2 ⟨rfl,rfl⟩))
    go_ret
    exact ⟨ret_int hE.out.symm,rfl⟩
def chkRd (r:List Int):Int:=if chkGr (r.getD 0 0) ((r.drop 1).take 5) ≠ 0 then chkGr (r.getD 0 0) ((r.drop 1).take 5) else chkSet (r.getD 0 0) (r.getD 6 0)
theorem chkRd_1 {n h0 h1 h2 h3 h4 f:Int} (h:chkGr n [h0,h1,h2,h3,h4] ≠ 0):chkRd [n,h0,h1,h2,h3,h4,f]=chkGr n [h0,h1,h2,h3,h4]:=if_pos h
theorem chkRd_2 {n h0 h1 h2 h3 h4 f:Int} (h:chkGr n [h0,h1,h2,h3,h4]=0):chkRd [n,h0,h1,h2,h3,h4,f]=chkSet n f:=if_neg (fun k=>k h)
theorem boxCells {w:World} {cs:Array Value} {t:TypeId} {j:Nat} {v:Value} (h:cs[j]? = some v):(w.alloc (.cells cs t)).cell? ⟨w.heap.size,j,none⟩=some v:=by
 rw [cell_of_row _ w.heap.size j cs t (0,0) (heap_alloc_new w _)]; exact h
theorem roundCheck (n h0 h1 h2 h3 h4 f:Int) (w:World):Calls Tryz.prog 94 #[.agg #[.int .i64 n,.int .i64 h0,.int .i64 h1,.int .i64 h2,.int .i64 h3,.int .i64 h4,.int .i64 f]] w fun e w'=>e = .returned (.int .i64 (chkRd [n,h0,h1,h2,h3,h4,f]))∧Below w.heap.size w w':=by
 have HG:=fun W=>graphCheck n h0 h1 h2 h3 h4 W
 have hb:Below w.heap.size w (w.alloc (.cells #[.int .i64 n,.int .i64 h0,.int .i64 h1,.int .i64 h2,.int .i64 h3,.int .i64 h4,.int .i64 f] 87)):=(Below.refl _ _).alloc (Nat.le_refl _) _
 by_cases hz:chkGr n [h0,h1,h2,h3,h4]=0
 ·have hE:=Lib.hid (chkRd_2 (f:=f) hz)
  simp only [hz] at HG
  replace HG:=Lib.hid HG
  clear hz
  go_enter Tryz.func94, Tryz.ntmps94
  go_wp2_with fail
  refine (HG.out _).mono ?_; rintro e w1 ⟨rfl,hb1⟩
  have c0:w1.cell? ⟨w.heap.size,0,none⟩=some (.int .i64 n):=cell_kept hb1 (boxCells rfl)
  have c6:w1.cell? ⟨w.heap.size,6,none⟩=some (.int .i64 f):=cell_kept hb1 (boxCells rfl)
  have hs:w1.heap[w.heap.size]? = some (.cells #[.int .i64 n,.int .i64 h0,.int .i64 h1,.int .i64 h2,.int .i64 h3,.int .i64 h4,.int .i64 f] 87):=(hb1.block _ (by simp)).trans (heap_alloc_new w _)
  go_wp2_with fail
  refine (setCheck n f _).mono ?_; rintro e w2 ⟨rfl,rfl⟩
  go_wp2
  go_ret
  exact ⟨ret_int hE.out.symm,bt hb hb1 hb.size⟩
 ·have hE:=Lib.hid (chkRd_1 (f:=f) hz)
  obtain ⟨E,hEE⟩:=exE (chkGr n [h0,h1,h2,h3,h4])
  rw [hEE] at hz hE
  simp only [hEE] at HG
  replace HG:=Lib.hid HG
  have hz':(E != 0)=true:=by simpa using hz
  clear hEE hz
  go_enter Tryz.func94, Tryz.ntmps94
  go_wp2_with fail
  refine (HG.out _).mono ?_; rintro e w1 ⟨rfl,hb1⟩
  go_wp2
  go_ret
  exact ⟨ret_int hE.out.symm,bt hb hb1 hb.size⟩
theorem refRoundCheck (n h0 h1 h2 h3 h4 f:Int) (w:World):Calls Tryz.prog 89 #[.agg #[.int .i64 n,.int .i64 h0,.int .i64 h1,.int .i64 h2,.int .i64 h3,.int .i64 h4,.int .i64 f]] w fun e w'=>e = .returned (.int .i64 (chkRd [n,h0,h1,h2,h3,h4,f]))∧Below w.heap.size w w':=by
 have HG:=fun W=>refGraphCheck n h0 h1 h2 h3 h4 W
 have hb:Below w.heap.size w (w.alloc (.cells #[.int .i64 n,.int .i64 h0,.int .i64 h1,.int .i64 h2,.int .i64 h3,.int .i64 h4,.int .i64 f] 87)):=(Below.refl _ _).alloc (Nat.le_refl _) _
 by_cases hz:chkGr n [h0,h1,h2,h3,h4]=0
 ·have hE:=Lib.hid (chkRd_2 (f:=f) hz)
  simp only [hz] at HG
  replace HG:=Lib.hid HG
  clear hz
  go_enter Tryz.func89, Tryz.ntmps89
  go_wp2_with fail
  refine (HG.out _).mono ?_; rintro e w1 ⟨rfl,hb1⟩
  have c0:w1.cell? ⟨w.heap.size,0,none⟩=some (.int .i64 n):=cell_kept hb1 (boxCells rfl)
  have c6:w1.cell? ⟨w.heap.size,6,none⟩=some (.int .i64 f):=cell_kept hb1 (boxCells rfl)
  have hs:w1.heap[w.heap.size]? = some (.cells #[.int .i64 n,.int .i64 h0,.int .i64 h1,.int .i64 h2,.int .i64 h3,.int .i64 h4,.int .i64 f] 87):=(hb1.block _ (by simp)).trans (heap_alloc_new w _)
  go_wp2_with fail
  refine (refSetCheck n f _).mono ?_; rintro e w2 ⟨rfl,rfl⟩
  go_wp2
  go_ret
  exact ⟨ret_int hE.out.symm,bt hb hb1 hb.size⟩
 ·have hE:=Lib.hid (chkRd_1 (f:=f) hz)
  obtain ⟨E,hEE⟩:=exE (chkGr n [h0,h1,h2,h3,h4])
  rw [hEE] at hz hE
  simp only [hEE] at HG
  replace HG:=Lib.hid HG
  have hz':(E != 0)=true:=by simpa using hz
  clear hEE hz
  go_enter Tryz.func89, Tryz.ntmps89
  go_wp2_with fail
  refine (HG.out _).mono ?_; rintro e w1 ⟨rfl,hb1⟩
  go_wp2
  go_ret
  exact ⟨ret_int hE.out.symm,bt hb hb1 hb.size⟩
end Go.Proofs.YtmikofeildnpdaaGreat

/- Rounds: Compare of the program and of the reference; subsets. -/
namespace Go.Proofs.YtmikofeildnpdaaGreat
open Go.RowKit
theorem cmpL_snoc {f g:Int}:∀ {x y:List Int},x.length=y.length→cmpL (x ++ [f]) (y ++ [g])=if cmpL x y=0 then cmpI f g else cmpL x y
 | [],[],_=>by
  show cmpL [f] [g]=if (0:Int)=0 then cmpI f g else 0
  rw [if_pos rfl,cmpL]
  by_cases h:cmpI f g=0
  ·rw [if_pos h,h]; rfl
  ·rw [if_neg h]
 | a::x,b::y,h=>by
  rw [List.cons_append,List.cons_append,cmpL,cmpL]
  by_cases hc:cmpI a b=0
  ·rw [if_pos hc,if_pos hc]; exact cmpL_snoc (by simpa using h)
  ·rw [if_neg hc,if_neg hc,if_neg hc]
theorem cmpL_zero:∀ {x y:List Int},cmpL x y=0↔x=y
 | [],[]=>by simp [cmpL]
 | [],b::y=>by simp [cmpL]
 | a::x,[]=>by simp [cmpL]
 | a::x,b::y=>by
  rw [cmpL]
  by_cases hc:cmpI a b=0
  ·rw [if_pos hc,cmpL_zero]
   have:=cmpI_zero.1 hc
   simp [this]
  ·rw [if_neg hc]
   constructor
   ·intro h; exact absurd h hc
   ·intro h; injection h with h1 h2; exact absurd (cmpI_zero.2 h1) hc
theorem cmp7_1 {n h0 h1 h2 h3 h4 f m g0 g1 g2 g3 g4 g:Int} (h : [n,h0,h1,h2,h3,h4] ≠ [m,g0,g1,g2,g3,g4]):cmpL [n,h0,h1,h2,h3,h4,f] [m,g0,g1,g2,g3,g4,g]=cmpL [n,h0,h1,h2,h3,h4] [m,g0,g1,g2,g3,g4]:=by
 have:=cmpL_snoc (f:=f) (g:=g) (x:=[n,h0,h1,h2,h3,h4]) (y:=[m,g0,g1,g2,g3,g4]) rfl
 rw [if_neg (fun k=>h (cmpL_zero.1 k))] at this
 exact this
theorem cmp7_2 {n h0 h1 h2 h3 h4 f m g0 g1 g2 g3 g4 g:Int} (h : [n,h0,h1,h2,h3,h4] = [m,g0,g1,g2,g3,g4]):cmpL [n,h0,h1,h2,h3,h4,f] [m,g0,g1,g2,g3,g4,g]=cmpI f g:=by
 have:=cmpL_snoc (f:=f) (g:=g) (x:=[n,h0,h1,h2,h3,h4]) (y:=[m,g0,g1,g2,g3,g4]) rfl
 rw [if_pos (cmpL_zero.2 h)] at this
 exact this
theorem roundCompare (n h0 h1 h2 h3 h4 f m g0 g1 g2 g3 g4 g:Int) (w:World):Calls Tryz.prog 101 #[.agg #[.int .i64 n,.int .i64 h0,.int .i64 h1,.int .i64 h2,.int .i64 h3,.int .i64 h4,.int .i64 f],.agg #[.int .i64 m,.int .i64 g0,.int .i64 g1,.int .i64 g2,.int .i64 g3,.int .i64 g4,.int .i64 g]] w fun e w'=>e = .returned (.int .i64 (cmpL [n,h0,h1,h2,h3,h4,f] [m,g0,g1,g2,g3,g4,g]))∧Below w.heap.size w w':=by
 have hb:Below w.heap.size w ((w.alloc (.cells #[.int .i64 n,.int .i64 h0,.int .i64 h1,.int .i64 h2,.int .i64 h3,.int .i64 h4,.int .i64 f] 87)).alloc (.cells #[.int .i64 m,.int .i64 g0,.int .i64 g1,.int .i64 g2,.int .i64 g3,.int .i64 g4,.int .i64 g] 87)):=((Below.refl _ _).alloc (Nat.le_refl _) _).alloc (by simp) _
 have HG:=Lib.hid (fun W=>graphCompare n h0 h1 h2 h3 h4 m g0 g1 g2 g3 g4 W)
 by_cases he : [n,h0,h1,h2,h3,h4,f] = [m,g0,g1,g2,g3,g4,g]
 ·have hE:=Lib.hid (show cmpL [n,h0,h1,h2,h3,h4,f] [m,g0,g1,g2,g3,g4,g]=0 from cmpL_zero.2 he)
  have he':=Lib.hid (eqL_true.2 he)
  clear he
  go_enter Tryz.func101, Tryz.ntmps101
  have he1:=he'.out
  go_wp2
  go_ret
  exact ⟨ret_int hE.out.symm,hb⟩
 ·have he':=eqL_false.2 he
  clear he
  by_cases hg : [n,h0,h1,h2,h3,h4] = [m,g0,g1,g2,g3,g4]
  ·have hE:=Lib.hid (cmp7_2 (f:=f) (g:=g) hg)
   have hg':=Lib.hid (eqL_true.2 hg)
   clear hg
   go_enter Tryz.func101, Tryz.ntmps101
   have hg1:=hg'.out
   go_wp2_with fail
   refine (cmpInt f g _).mono ?_; rintro e w1 ⟨rfl,rfl⟩
   go_wp2
   go_ret
   exact ⟨ret_int hE.out.symm,hb⟩
  ·have hE:=Lib.hid (cmp7_1 (f:=f) (g:=g) hg)
   have hg':=eqL_false.2 hg
   clear hg
   go_enter Tryz.func101, Tryz.ntmps101
   go_wp2_with fail
   refine (HG.out _).mono ?_; rintro e w1 ⟨rfl,hb1⟩
   go_wp2
   go_ret
   exact ⟨ret_int hE.out.symm,bt hb hb1 hb.size⟩
theorem refRoundCompare (n h0 h1 h2 h3 h4 f m g0 g1 g2 g3 g4 g:Int) (w:World):Calls Tryz.prog 103 #[.agg #[.int .i64 n,.int .i64 h0,.int .i64 h1,.int .i64 h2,.int .i64 h3,.int .i64 h4,.int .i64 f],.agg #[.int .i64 m,.int .i64 g0,.int .i64 g1,.int .i64 g2,.int .i64 g3,.int .i64 g4,.int .i64 g]] w fun e w'=>e = .returned (.int .i64 (cmpL [n,h0,h1,h2,h3,h4,f] [m,g0,g1,g2,g3,g4,g]))∧Below w.heap.size w w':=by
 have hb:Below w.heap.size w ((w.alloc (.cells #[.int .i64 n,.int .i64 h0,.int .i64 h1,.int .i64 h2,.int .i64 h3,.int .i64 h4,.int .i64 f] 87)).alloc (.cells #[.int .i64 m,.int .i64 g0,.int .i64 g1,.int .i64 g2,.int .i64 g3,.int .i64 g4,.int .i64 g] 87)):=((Below.refl _ _).alloc (Nat.le_refl _) _).alloc (by simp) _
 have HG:=fun W=>refGraphCompare n h0 h1 h2 h3 h4 m g0 g1 g2 g3 g4 W
 have hs0:((w.alloc (.cells #[.int .i64 n,.int .i64 h0,.int .i64 h1,.int .i64 h2,.int .i64 h3,.int .i64 h4,.int .i64 f] 87)).alloc (.cells #[.int .i64 m,.int .i64 g0,.int .i64 g1,.int .i64 g2,.int .i64 g3,.int .i64 g4,.int .i64 g] 87)).heap[w.heap.size]? = some (.cells #[.int .i64 n,.int .i64 h0,.int .i64 h1,.int .i64 h2,.int .i64 h3,.int .i64 h4,.int .i64 f] 87):=(Below.heap_alloc _ _ _ (by simp)).trans (heap_alloc_new w _)
 have hs1:((w.alloc (.cells #[.int .i64 n,.int .i64 h0,.int .i64 h1,.int .i64 h2,.int .i64 h3,.int .i64 h4,.int .i64 f] 87)).alloc (.cells #[.int .i64 m,.int .i64 g0,.int .i64 g1,.int .i64 g2,.int .i64 g3,.int .i64 g4,.int .i64 g] 87)).heap[w.heap.size+1]? = some (.cells #[.int .i64 m,.int .i64 g0,.int .i64 g1,.int .i64 g2,.int .i64 g3,.int .i64 g4,.int .i64 g] 87):=by have:=heap_alloc_new (w.alloc (.cells #[.int .i64 n,.int .i64 h0,.int .i64 h1,.int .i64 h2,.int .i64 h3,.int .i64 h4,.int .i64 f] 87)) (.cells #[.int .i64 m,.int .i64 g0,.int .i64 g1,.int .i64 g2,.int .i64 g3,.int .i64 g4,.int .i64 g] 87); rwa [World.size_alloc] at this
 by_cases hg : [n,h0,h1,h2,h3,h4] = [m,g0,g1,g2,g3,g4]
 ·have hE:=Lib.hid (cmp7_2 (f:=f) (g:=g) hg)
  simp only [cmpL_zero.2 hg] at HG
  replace HG:=Lib.hid HG
  clear hg
  replace hs0:=Lib.hid hs0; replace hs1:=Lib.hid hs1
  by_cases l1:f < g
  ·have l1':decide (f < g)=true:=decide_eq_true l1
   have hc:=Lib.hid (cmpI_lt l1)
   clear l1
   go_enter Tryz.func103, Tryz.ntmps103
   go_wp2_with fail
   refine (HG.out _).mono ?_; rintro e w1 ⟨rfl,hb1⟩
   have k0:=(hb1.block _ (by simp; omega)).trans hs0.out
   have k1:=(hb1.block _ (by simp)).trans hs1.out
   have c0:w1.cell? ⟨w.heap.size,6,none⟩=some (.int .i64 f):=by rw [cell_of_row _ _ 6 _ _ _ k0]; rfl
   have c1:w1.cell? ⟨w.heap.size+1,6,none⟩=some (.int .i64 g):=by rw [cell_of_row _ _ 6 _ _ _ k1]; rfl
   go_wp2
   go_ret
   exact ⟨ret_int (by rw [hE.out,hc.out]),bt hb hb1 hb.size⟩
  ·have l1':decide (f < g)=false:=decide_eq_false l1
   by_cases l2:g < f
   ·have l2':decide (g < f)=true:=decide_eq_true l2
    have hc:=Lib.hid (cmpI_gt l2)
    clear l1 l2
    go_enter Tryz.func103, Tryz.ntmps103
    go_wp2_with fail
    refine (HG.out _).mono ?_; rintro e w1 ⟨rfl,hb1⟩
    have k0:=(hb1.block _ (by simp; omega)).trans hs0.out
    have k1:=(hb1.block _ (by simp)).trans hs1.out
    have c0:w1.cell? ⟨w.heap.size,6,none⟩=some (.int .i64 f):=by rw [cell_of_row _ _ 6 _ _ _ k0]; rfl
    have c1:w1.cell? ⟨w.heap.size+1,6,none⟩=some (.int .i64 g):=by rw [cell_of_row _ _ 6 _ _ _ k1]; rfl
    go_wp2
    go_ret
    exact ⟨ret_int (by rw [hE.out,hc.out]),bt hb hb1 hb.size⟩
   ·have l2':decide (g < f)=false:=decide_eq_false l2
    have hc:=Lib.hid (cmpI_zero.2 (show f=g by omega))
    clear l1 l2
    go_enter Tryz.func103, Tryz.ntmps103
    go_wp2_with fail
    refine (HG.out _).mono ?_; rintro e w1 ⟨rfl,hb1⟩
    have k0:=(hb1.block _ (by simp; omega)).trans hs0.out
    have k1:=(hb1.block _ (by simp)).trans hs1.out
    have c0:w1.cell? ⟨w.heap.size,6,none⟩=some (.int .i64 f):=by rw [cell_of_row _ _ 6 _ _ _ k0]; rfl
    have c1:w1.cell? ⟨w.heap.size+1,6,none⟩=some (.int .i64 g):=by rw [cell_of_row _ _ 6 _ _ _ k1]; rfl
    go_wp2
    go_ret
    exact ⟨ret_int (by rw [hE.out,hc.out]),bt hb hb1 hb.size⟩
 ·have hE:=Lib.hid (cmp7_1 (f:=f) (g:=g) hg)
  obtain ⟨c,hc⟩:=exE (cmpL [n,h0,h1,h2,h3,h4] [m,g0,g1,g2,g3,g4])
  rw [hc] at hE
  have hz:c ≠ 0:=fun k=>hg (cmpL_zero.1 (by rw [hc]; exact k))
  simp only [hc] at HG
  replace HG:=Lib.hid HG
  have hz':(c != 0)=true:=by simpa using hz
  clear hg hc hz hs0 hs1
  go_enter Tryz.func103, Tryz.ntmps103
  go_wp2_with fail
  refine (HG.out _).mono ?_; rintro e w1 ⟨rfl,hb1⟩
  go_wp2
  go_ret
  exact ⟨ret_int hE.out.symm,bt hb hb1 hb.size⟩
def insideB (a b:Int):Bool:=[0,1,2,3,4].all fun p=>!hasI a p || hasI b p
def insGo (a b:Int):List Int→Bool
 | []=>true
 | p::r=>if hasI a p && !hasI b p then false else insGo a b r
theorem insideB_eq (a b:Int):insGo a b [0,1,2,3,4]=insideB a b:=by
 simp only [insGo,insideB,List.all_cons,List.all_nil]
 cases hasI a 0 <;> cases hasI b 0 <;> cases hasI a 1 <;> cases hasI b 1 <;> cases hasI a 2 <;> cases hasI b 2 <;> cases hasI a 3 <;> cases hasI b 3 <;> cases hasI a 4 <;> cases hasI b 4 <;> rfl
theorem insGo_stop {a b p:Int} {r:List Int} (h1:hasI a p=true) (h2:hasI b p=false):insGo a b (p::r)=false:=by rw [insGo,h1,h2]; rfl
theorem insGo_1 {a b p:Int} {r:List Int} (h1:hasI a p=false):insGo a b (p::r)=insGo a b r:=by rw [insGo,h1]; rfl
theorem insGo_2 {a b p:Int} {r:List Int} (h2:hasI b p=true):insGo a b (p::r)=insGo a b r:=by rw [insGo,h2]; cases hasI a p <;> rfl
theorem refInside (a b:Int) (w:World) (ha:0≤a) (ha1:a≤1000000) (hb:0≤b) (hb1:b≤1000000):Calls Tryz.prog 90 #[.int .i64 a,.int .i64 b] w fun e w'=>e = .returned (.bool (insideB a b))∧w=w':=by
 obtain ⟨E,hE⟩:=exE (insideB a b)
 have hE0:=Lib.hid (show insGo a b [0,1,2,3,4]=E by rw [insideB_eq,hE])
 rw [hE]
 clear hE
 go_enter Tryz.func90, Tryz.ntmps90
 go_wp2
 go_loop [5] (fun iv=>∃ k:Int,iv = .int .i64 k∧((k=0∧Hid (insGo a b [0,1,2,3,4]=E))∨(k=1∧Hid (insGo a b [1,2,3,4]=E))∨(k=2∧Hid (insGo a b [2,3,4]=E))∨(k=3∧Hid (insGo a b [3,4]=E))∨(k=4∧Hid (insGo a b [4]=E))∨(k=5∧Hid (insGo a b []=E)))) (fun iv=>5 - (intOf iv).toNat)
 case atStart=>exact ⟨0,rfl,.inl ⟨rfl,hE0⟩⟩
 case round=>
  clear hE0
  obtain ⟨k,rfl,hk⟩:=hrel
  rcases hk with ⟨rfl,hg⟩ | ⟨rfl,hg⟩ | ⟨rfl,hg⟩ | ⟨rfl,hg⟩ | ⟨rfl,hg⟩ | ⟨rfl,hg⟩
  ·have H1:=fun W=>refHas a 0 W ha ha1 (by omega) (by omega)
   have H2:=fun W=>refHas b 0 W hb hb1 (by omega) (by omega)
   by_cases q1:hasI a 0=true
   ·simp only [q1] at H1
    replace H1:=Lib.hid H1
    by_cases q2:hasI b 0=true
    ·simp only [q2] at H2
     replace H2:=Lib.hid H2
     replace q1:=Lib.hid q1; replace q2:=Lib.hid q2
     go_wp2_with fail
     refine (H1.out _).mono ?_; rintro e w1 ⟨rfl,rfl⟩
     go_wp2_with fail
     refine (H2.out _).mono ?_; rintro e w1 ⟨rfl,rfl⟩
     go_wp2
     go_round
     case rel=>exact ⟨1,rfl,.inr (.inl ⟨rfl,by show _=_; rw [← hg.out,insGo_2 q2.out]⟩)⟩
     case measure=>simp [intOf]
    ·replace q2:=eq_false_of_ne_true q2
     simp only [q2] at H2
     replace H2:=Lib.hid H2
     replace q1:=Lib.hid q1; replace q2:=Lib.hid q2
     go_wp2_with fail
     refine (H1.out _).mono ?_; rintro e w1 ⟨rfl,rfl⟩
     go_wp2_with fail
     refine (H2.out _).mono ?_; rintro e w1 ⟨rfl,rfl⟩
     go_wp2
     go_ret
     exact ⟨ret_bool (by rw [← hg.out,insGo_stop q1.out q2.out]),rfl⟩
   ·replace q1:=eq_false_of_ne_true q1
    simp only [q1] at H1
    replace H1:=Lib.hid H1
    replace q1:=Lib.hid q1
    clear H2
    go_wp2_with fail
    refine (H1.out _).mono ?_; rintro e w1 ⟨rfl,rfl⟩
    go_wp2
    go_round
    case rel=>exact ⟨1,rfl,.inr (.inl ⟨rfl,by show _=_; rw [← hg.out,insGo_1 q1.out]⟩)⟩
    case measure=>simp [intOf]
  ·have H1:=fun W=>refHas a 1 W ha ha1 (by omega) (by omega)
   have H2:=fun W=>refHas b 1 W hb hb1 (by omega) (by omega)
   by_cases q1:hasI a 1=true
   ·simp only [q1] at H1
    replace H1:=Lib.hid H1
    by_cases q2:hasI b 1=true
    ·simp only [q2] at H2
     replace H2:=Lib.hid H2
     replace q1:=Lib.hid q1; replace q2:=Lib.hid q2
     go_wp2_with fail
     refine (H1.out _).mono ?_; rintro e w1 ⟨rfl,rfl⟩
     go_wp2_with fail
     refine (H2.out _).mono ?_; rintro e w1 ⟨rfl,rfl⟩
     go_wp2
     go_round
     case rel=>exact ⟨2,rfl,.inr (.inr (.inl ⟨rfl,by show _=_; rw [← hg.out,insGo_2 q2.out]⟩))⟩
     case measure=>simp [intOf]
    ·replace q2:=eq_false_of_ne_true q2
     simp only [q2] at H2
     replace H2:=Lib.hid H2
     replace q1:=Lib.hid q1; replace q2:=Lib.hid q2
     go_wp2_with fail
     refine (H1.out _).mono ?_; rintro e w1 ⟨rfl,rfl⟩
     go_wp2_with fail
     refine (H2.out _).mono ?_; rintro e w1 ⟨rfl,rfl⟩
     go_wp2
     go_ret
     exact ⟨ret_bool (by rw [← hg.out,insGo_stop q1.out q2.out]),rfl⟩
   ·replace q1:=eq_false_of_ne_true q1
    simp only [q1] at H1
    replace H1:=Lib.hid H1
    replace q1:=Lib.hid q1
    clear H2
    go_wp2_with fail
    refine (H1.out _).mono ?_; rintro e w1 ⟨rfl,rfl⟩
    go_wp2
    go_round
    case rel=>exact ⟨2,rfl,.inr (.inr (.inl ⟨rfl,by show _=_; rw [← hg.out,insGo_1 q1.out]⟩))⟩
    case measure=>simp [intOf]
  ·have H1:=fun W=>refHas a 2 W ha ha1 (by omega) (by omega)
   have H2:=fun W=>refHas b 2 W hb hb1 (by omega) (by omega)
   by_cases q1:hasI a 2=true
   ·simp only [q1] at H1
    replace H1:=Lib.hid H1
    by_cases q2:hasI b 2=true
    ·simp only [q2] at H2
     replace H2:=Lib.hid H2
     replace q1:=Lib.hid q1; replace q2:=Lib.hid q2
     go_wp2_with fail
     refine (H1.out _).mono ?_; rintro e w1 ⟨rfl,rfl⟩
     go_wp2_with fail
     refine (H2.out _).mono ?_; rintro e w1 ⟨rfl,rfl⟩
     go_wp2
     go_round
     case rel=>exact ⟨3,rfl,.inr (.inr (.inr (.inl ⟨rfl,by show _=_; rw [← hg.out,insGo_2 q2.out]⟩)))⟩
     case measure=>simp [intOf]
    ·replace q2:=eq_false_of_ne_true q2
     simp only [q2] at H2
     replace H2:=Lib.hid H2
     replace q1:=Lib.hid q1; replace q2:=Lib.hid q2
     go_wp2_with fail
     refine (H1.out _).mono ?_; rintro e w1 ⟨rfl,rfl⟩
     go_wp2_with fail
     refine (H2.out _).mono ?_; rintro e w1 ⟨rfl,rfl⟩
     go_wp2
     go_ret
     exact ⟨ret_bool (by rw [← hg.out,insGo_stop q1.out q2.out]),rfl⟩
   ·replace q1:=eq_false_of_ne_true q1
    simp only [q1] at H1
    replace H1:=Lib.hid H1
    replace q1:=Lib.hid q1
    clear H2
    go_wp2_with fail
    refine (H1.out _).mono ?_; rintro e w1 ⟨rfl,rfl⟩
    go_wp2
    go_round
    case rel=>exact ⟨3,rfl,.inr (.inr (.inr (.inl ⟨rfl,by show _=_; rw [← hg.out,insGo_1 q1.out]⟩)))⟩
    case measure=>simp [intOf]
  ·have H1:=fun W=>refHas a 3 W ha ha1 (by omega) (by omega)
   have H2:=fun W=>refHas b 3 W hb hb1 (by omega) (by omega)
   by_cases q1:hasI a 3=true
   ·simp only [q1] at H1
    replace H1:=Lib.hid H1
    by_cases q2:hasI b 3=true
    ·simp only [q2] at H2
     replace H2:=Lib.hid H2
     replace q1:=Lib.hid q1; replace q2:=Lib.hid q2
     go_wp2_with fail
     refine (H1.out _).mono ?_; rintro e w1 ⟨rfl,rfl⟩
     go_wp2_with fail
     refine (H2.out _).mono ?_; rintro e w1 ⟨rfl,rfl⟩
     go_wp2
     go_round
     case rel=>exact ⟨4,rfl,.inr (.inr (.inr (.inr (.inl ⟨rfl,by show _=_; rw [← hg.out,insGo_2 q2.out]⟩))))⟩
     case measure=>simp [intOf]
    ·replace q2:=eq_false_of_ne_true q2
     simp only [q2] at H2
     replace H2:=Lib.hid H2
     replace q1:=Lib.hid q1; replace q2:=Lib.hid q2
     go_wp2_with fail
     refine (H1.out _).mono ?_; rintro e w1 ⟨rfl,rfl⟩
     go_wp2_with fail
     refine (H2.out _).mono ?_; rintro e w1 ⟨rfl,rfl⟩
     go_wp2
     go_ret
     exact ⟨ret_bool (by rw [← hg.out,insGo_stop q1.out q2.out]),rfl⟩
   ·replace q1:=eq_false_of_ne_true q1
    simp only [q1] at H1
    replace H1:=Lib.hid H1
    replace q1:=Lib.hid q1
    clear H2
    go_wp2_with fail
    refine (H1.out _).mono ?_; rintro e w1 ⟨rfl,rfl⟩
    go_wp2
    go_round
    case rel=>exact ⟨4,rfl,.inr (.inr (.inr (.inr (.inl ⟨rfl,by show _=_; rw [← hg.out,insGo_1 q1.out]⟩))))⟩
    case measure=>simp [intOf]
  ·have H1:=fun W=>refHas a 4 W ha ha1 (by omega) (by omega)
   have H2:=fun W=>refHas b 4 W hb hb1 (by omega) (by omega)
   by_cases q1:hasI a 4=true
   ·simp only [q1] at H1
    replace H1:=Lib.hid H1
    by_cases q2:hasI b 4=true
    ·simp only [q2] at H2
     replace H2:=Lib.hid H2
     replace q1:=Lib.hid q1; replace q2:=Lib.hid q2
     go_wp2_with fail
     refine (H1.out _).mono ?_; rintro e w1 ⟨rfl,rfl⟩
     go_wp2_with fail
     refine (H2.out _).mono ?_; rintro e w1 ⟨rfl,rfl⟩
     go_wp2
     go_round
     case rel=>exact ⟨5,rfl,.inr (.inr (.inr (.inr (.inr (⟨rfl,by show _=_; rw [← hg.out,insGo_2 q2.out]⟩)))))⟩
     case measure=>simp [intOf]
    ·replace q2:=eq_false_of_ne_true q2
     simp only [q2] at H2
     replace H2:=Lib.hid H2
     replace q1:=Lib.hid q1; replace q2:=Lib.hid q2
     go_wp2_with fail
     refine (H1.out _).mono ?_; rintro e w1 ⟨rfl,rfl⟩
     go_wp2_with fail
     refine (H2.out _).mono ?_; rintro e w1 ⟨rfl,rfl⟩
     go_wp2
     go_ret
     exact ⟨ret_bool (by rw [← hg.out,insGo_stop q1.out q2.out]),rfl⟩
   ·replace q1:=eq_false_of_ne_true q1
    simp only [q1] at H1
    replace H1:=Lib.hid H1
    replace q1:=Lib.hid q1
    clear H2
    go_wp2_with fail
    refine (H1.out _).mono ?_; rintro e w1 ⟨rfl,rfl⟩
    go_wp2
    go_round
    case rel=>exact ⟨5,rfl,.inr (.inr (.inr (.inr (.inr (⟨rfl,by show _=_; rw [← hg.out,insGo_1 q1.out]⟩)))))⟩
    case measure=>simp [intOf]
  ·go_wp2
   go_ret
   exact ⟨ret_bool (by rw [← hg.out]; rfl),rfl⟩
end Go.Proofs.YtmikofeildnpdaaGreat

/- Adversaries: Moves, Few, move of the reference. -/
namespace Go.Proofs.YtmikofeildnpdaaGreat
open Go.RowKit
def movesN (ss:List (List (List Int))):Nat:=(ss.map List.length).foldr (· + ·) 0
def mvPre (ss:List (List (List Int))) (k:Nat):Nat:=movesN (ss.take k)
theorem movesN_app (a b:List (List (List Int))):movesN (a++b)=movesN a+movesN b:=by
 unfold movesN
 induction a with
 | nil=>simp
 | cons x a ih=>simp only [List.cons_append,List.map_cons,List.foldr_cons,ih]; omega
theorem mvPre_succ {ss:List (List (List Int))} {k:Nat} (h:k < ss.length):mvPre ss (k+1)=mvPre ss k+(ss.getD k []).length:=by
 rw [mvPre,take_snoc h [],movesN_app]; simp [mvPre,movesN]
theorem mvPre_le (ss:List (List (List Int))) (k:Nat):mvPre ss k≤movesN ss:=by
 have:=movesN_app (ss.take k) (ss.drop k)
 rw [List.take_append_drop] at this
 rw [mvPre]; omega
theorem mvPre_all (ss:List (List (List Int))):mvPre ss ss.length=movesN ss:=by rw [mvPre,List.take_length]
theorem movesN_big:∀ (ss:List (List (List Int))) (B:Nat),(∀ s∈ss,s.length≤B)→movesN ss≤ss.length * B
 | [],B,_=>by simp [movesN]
 | s::ss,B,h=>by
  have h1:=h s (by simp)
  have h2:=movesN_big ss B fun s hs=>h s (by simp [hs])
  have e:movesN (s::ss)=s.length+movesN ss:=rfl
  rw [e,List.length_cons,Nat.add_mul]; omega
def AdvV (w:World) (v:Value) (n:Int) (ss:List (List (List Int))):Prop:=∃ sv,v = .agg #[.int .i64 n,sv]∧KSS 8 w sv ss
theorem AdvV.keep {w w':World} {v:Value} {n:Int} {ss:List (List (List Int))} (h:AdvV w v n ss) (hb:Below w.heap.size w w'):AdvV w' v n ss:=by
 obtain ⟨sv,h1,h2⟩:=h; exact ⟨sv,h1,h2.keep hb⟩
theorem refMoves {w:World} {v:Value} {n:Int} {ss:List (List (List Int))} (h:AdvV w v n ss) (hl:ss.length≤256):Calls Tryz.prog 48 #[v] w fun e w'=>e = .returned (.int .i64 (movesN ss))∧Below w.heap.size w w':=by
 obtain ⟨sv,rfl,a,c,b,off,rfl,ha,hc,_⟩:=h
 have hb:=(Below.refl w.heap.size w).alloc (Nat.le_refl _) (.cells #[.int .i64 n,.slice a ss.length c] 24)
 have hcb:=hc.keep hb
 have hB:∀ s∈ss,s.length≤2199023255552:=fun s hs=>by
  obtain ⟨j,hj,rfl⟩:=List.mem_iff_getElem.1 hs
  obtain ⟨u,_,_,_,_,_,_,_,_,hl⟩:=hc j hj
  rwa [getD_eq hj] at hl
 have hM:=movesN_big ss _ hB
 have hM2:ss.length * 2199023255552≤256 * 2199023255552:=Nat.mul_le_mul_right _ hl
 have hP:=mvPre_le ss
 have hA:=Lib.hid (mvPre_all ss)
 clear hB hc
 go_enter Tryz.func48, Tryz.ntmps48
 go_wp2
 go_loop [3,4] (fun nv iv=>∃ k:Nat,k≤ss.length∧iv = .int .i64 k∧nv = .int .i64 (mvPre ss k)) (fun _ iv=>ss.length - (intOf iv).toNat)
 case atStart=>exact ⟨0,by omega,rfl,rfl⟩
 case round=>
  obtain ⟨k,hk,rfl,rfl⟩:=hrel
  have p1:=hP k
  by_cases hlt:k < ss.length
  ·obtain rfl:=ha (by omega)
   obtain ⟨u,hcu,hu⟩:=hcb k hlt
   obtain ⟨ua,uc,rfl⟩:=hu.shape
   have hs:=mvPre_succ hlt
   have p2:=hP (k+1)
   obtain ⟨p,hp⟩:=exE (mvPre ss k)
   obtain ⟨m,hm⟩:=exE ((ss.getD k []).length)
   rw [hp] at p1 hs
   rw [hm] at hs hcu
   rw [hs] at p2
   rw [hp]
   replace hs:=Lib.hid hs
   clear hp hm hP ha hcb hu
   go_wp2
   go_round
   case rel=>exact ⟨k+1,by omega,by go_num,by rw [hs.out]; go_num⟩
   case measure=>simp [intOf]; omega
  ·obtain rfl:k=ss.length:=by omega
   clear ha hcb hP
   go_wp2
   go_ret
   exact ⟨ret_int (by rw [hA.out]),hb⟩
end Go.Proofs.YtmikofeildnpdaaGreat
