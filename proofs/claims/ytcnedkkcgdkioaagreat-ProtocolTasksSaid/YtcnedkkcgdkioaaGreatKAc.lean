/- Texts of this claim, put together: A3 A4 A5 A6 Rd. -/
import Derived.Test.YtcnedkkcgdkioaaGreatKAb
import Derived.StillTailTactics
import Derived.OrdersIn

set_option maxRecDepth 100000
set_option maxHeartbeats 12800000
namespace Go.Proofs.YtcnedkkcgdkioaaGreat
open Go.RowKit
theorem isNaN (a:Int) (w:World):Calls Tryz.prog 209 #[.int .i64 a] w fun e w'=>e = .returned (.bool false)∧w=w':=by
 go_enter Tryz.func209, Tryz.ntmps209
 go_wp2;go_ret;exact⟨ret_bool (by simp),rfl⟩
theorem cmpInt (a b:Int) (w:World):Calls Tryz.prog 177 #[.int .i64 a,.int .i64 b] w fun e w'=>e = .returned (.int .i64 (cmpI a b))∧w=w':=by
 by_cases h1:a < b
 ·go_enter Tryz.func177, Tryz.ntmps177
  go_wp2_with (go_at_call 209;refine(isNaN _ _).mono ?_;rintro e w' ⟨rfl,rfl⟩)
  go_ret;exact⟨ret_int (by rw[cmpI,if_pos h1]),rfl⟩
 ·have h1':decide (a < b)=false:=by simpa using h1
  by_cases h2:b < a
  ·go_enter Tryz.func177, Tryz.ntmps177
   go_wp2_with (go_at_call 209;refine(isNaN _ _).mono ?_;rintro e w' ⟨rfl,rfl⟩)
   go_ret;exact⟨ret_int (by rw[cmpI,if_neg (by omega),if_pos h2]),rfl⟩
  ·have h2':decide (b < a)=false:=(by simpa using h2);go_enter Tryz.func177, Tryz.ntmps177
   go_wp2_with (go_at_call 209;refine(isNaN _ _).mono ?_;rintro e w' ⟨rfl,rfl⟩)
   go_ret;exact⟨ret_int (by rw[cmpI,if_neg (by omega),if_neg (by omega)]),rfl⟩
theorem cmpIntQ (a b:Int) (w:World):Calls Tryz.prog 177 #[.int .i64 a,.int .i64 b] w fun e w'=>e = .returned (.int .i64 (cmpI a b))∧Qt w w':=(cmpInt a b w).mono fun _ _ ⟨he,hw⟩=>⟨he,0,hw.symm⟩
theorem quietOn {P:Program}{f:FuncId}{args:Array Value}{w:World}{a n:Nat}{v:Value}(h:Calls P f args (w.drewN (a+n)) fun e w'=>e = .returned v∧Qt (w.drewN (a+n)) w') :
  Calls P f args (w.drewN (a+n)) fun e w''=>e = .returned v∧∃m,w''=w.drewN (a+m):=by
 refine h.mono ?_;rintro e w' ⟨he,k,rfl⟩;exact⟨he,n+k,by rw[World.drewN_drewN];congr 1;omega⟩
theorem cmpL_self:∀x:List Int,cmpL x x=0
 | []=>rfl
 | a::x=>by rw[cmpL,show cmpI a a=0 by simp[cmpI],if_pos rfl,cmpL_self x]
theorem cmpL_hd {a b:Int}{x y:List Int}(h:cmpI a b=0):cmpL (a::x) (b::y)=cmpL x y:=by rw[cmpL,if_pos h]
theorem cmpL_ne {a b:Int}{x y:List Int}(h : ¬cmpI a b=0):cmpL (a::x) (b::y)=cmpI a b:=by rw[cmpL,if_neg h]
theorem cmpI_zero {a b:Int}:cmpI a b=0↔a=b:=by
 unfold cmpI;by_cases h1:a < b
 ·simp[h1];omega
 ·by_cases h2:b < a
  ·simp[h1,h2];omega
  ·simp[h1,h2];omega
theorem cmpI_lt {a b:Int}(h:a < b):cmpI a b = -1:=by rw[cmpI,if_pos h]
theorem cmpI_gt {a b:Int}(h:b < a):cmpI a b=1:=by rw[cmpI,if_neg (by omega),if_pos h]
theorem graphCompare (n h0 h1 h2 h3 h4 m g0 g1 g2 g3 g4:Int) (w:World):Calls Tryz.prog 269 #[.agg #[.int .i64 n,.int .i64 h0,.int .i64 h1,.int .i64 h2,.int .i64 h3,.int .i64 h4],.agg #[.int .i64 m,.int .i64 g0,.int .i64 g1,.int .i64 g2,.int .i64 g3,.int .i64 g4]] w fun e w'=>e = .returned (.int .i64 (cmpL [n,h0,h1,h2,h3,h4] [m,g0,g1,g2,g3,g4]))∧Below w.heap.size w w':=by
 by_cases he : [n,h0,h1,h2,h3,h4] = [m,g0,g1,g2,g3,g4]
 ·have hE:=qH (show cmpL [n,h0,h1,h2,h3,h4] [m,g0,g1,g2,g3,g4]=0 by rw[he];exact cmpL_self _);have he':=qH (eqL_true.2 he);clear he;go_enter Tryz.func269, Tryz.ntmps269
  have he1:=he'.out;go_wp2;go_ret;exact⟨ret_int hE.out.symm,(((Below.refl w.heap.size w).alloc (Nat.le_refl _) _).alloc (by simp) _)⟩
 ·have he':=eqL_false.2 he;clear he;obtain⟨E,hE⟩:=exE (cmpL [n,h0,h1,h2,h3,h4] [m,g0,g1,g2,g3,g4]);rw[hE];by_cases hn:n=m
  ·have hE0:=qH (show cmpL [h0,h1,h2,h3,h4] [g0,g1,g2,g3,g4]=E by rw[←hE];exact(cmpL_hd (cmpI_zero.2 hn)).symm);have hn':(n != m)=false:=(by simp[hn]);replace hn:=qH hn;clear hE;go_enter Tryz.func269, Tryz.ntmps269
   go_wp2;go_loopw [20] (fun iv wr=>∃(k:Int) (dn:Nat),wr=((w.alloc (.cells #[.int .i64 n,.int .i64 h0,.int .i64 h1,.int .i64 h2,.int .i64 h3,.int .i64 h4] 146)).alloc (.cells #[.int .i64 m,.int .i64 g0,.int .i64 g1,.int .i64 g2,.int .i64 g3,.int .i64 g4] 146)).drewN dn∧iv = .int .i64 k∧((k=0∧Hid (cmpL [h0,h1,h2,h3,h4] [g0,g1,g2,g3,g4]=E))∨(k=1∧Hid (cmpL [h1,h2,h3,h4] [g1,g2,g3,g4]=E))∨(k=2∧Hid (cmpL [h2,h3,h4] [g2,g3,g4]=E))∨(k=3∧Hid (cmpL [h3,h4] [g3,g4]=E))∨(k=4∧Hid (cmpL [h4] [g4]=E))∨(k=5∧Hid (cmpL [] []=E)))) (fun iv _=>5 - (intOf iv).toNat)
   case atStart=>exact⟨0,0,(by first|rfl|simp),rfl,.inl ⟨rfl,hE0⟩⟩
   case round=>
    clear hE0;obtain⟨k,dn,rfl,rfl,hk⟩:=hrel;rcases hk with⟨rfl,hg⟩|⟨rfl,hg⟩|⟨rfl,hg⟩|⟨rfl,hg⟩|⟨rfl,hg⟩|⟨rfl,hg⟩
    ·obtain⟨c,hc⟩:=exE (cmpI h0 g0);have hq:=fun W=>cmpIntQ h0 g0 W;simp only[hc] at hq;replace hq:=qH hq;by_cases hz0:c=0
     ·subst hz0;have hz:=qH hc;clear hc;go_wp2;go_quiet ((go_at_call 177;exact quietOn (hq.out _)))
      go_wp2;go_roundw
      case rel=>exact⟨1,_,(by first|exact rfl|exact World.drewN_drewN _ _ _),rfl,.inr (.inl ⟨rfl,by show _=_;rw[←hg.out,cmpL_hd hz.out]⟩)⟩
      case measure=>simp[intOf]
     ·have hz':(c != 0)=true:=(by simpa using hz0);have hz:=qH (show ¬cmpI h0 g0=0 by rw[hc];exact hz0);replace hc:=qH hc;clear hz0;go_wp2;go_quiet ((go_at_call 177;exact quietOn (hq.out _)))
      go_wp2;go_ret;exact⟨ret_int (by rw[←hg.out,cmpL_ne hz.out,hc.out]),(by first|exact below_drewN (((Below.refl w.heap.size w).alloc (Nat.le_refl _) _).alloc (by simp) _) _|exact below_drewN (below_drewN (((Below.refl w.heap.size w).alloc (Nat.le_refl _) _).alloc (by simp) _) _) _|exact below_drewN (below_drewN (below_drewN (((Below.refl w.heap.size w).alloc (Nat.le_refl _) _).alloc (by simp) _) _) _) _)⟩
    ·obtain⟨c,hc⟩:=exE (cmpI h1 g1);have hq:=fun W=>cmpIntQ h1 g1 W;simp only[hc] at hq;replace hq:=qH hq;by_cases hz0:c=0
     ·subst hz0;have hz:=qH hc;clear hc;go_wp2;go_quiet ((go_at_call 177;exact quietOn (hq.out _)))
      go_wp2;go_roundw
      case rel=>exact⟨2,_,(by first|exact rfl|exact World.drewN_drewN _ _ _),rfl,.inr (.inr (.inl ⟨rfl,by show _=_;rw[←hg.out,cmpL_hd hz.out]⟩))⟩
      case measure=>simp[intOf]
     ·have hz':(c != 0)=true:=(by simpa using hz0);have hz:=qH (show ¬cmpI h1 g1=0 by rw[hc];exact hz0);replace hc:=qH hc;clear hz0;go_wp2;go_quiet ((go_at_call 177;exact quietOn (hq.out _)))
      go_wp2;go_ret;exact⟨ret_int (by rw[←hg.out,cmpL_ne hz.out,hc.out]),(by first|exact below_drewN (((Below.refl w.heap.size w).alloc (Nat.le_refl _) _).alloc (by simp) _) _|exact below_drewN (below_drewN (((Below.refl w.heap.size w).alloc (Nat.le_refl _) _).alloc (by simp) _) _) _|exact below_drewN (below_drewN (below_drewN (((Below.refl w.heap.size w).alloc (Nat.le_refl _) _).alloc (by simp) _) _) _) _)⟩
    ·obtain⟨c,hc⟩:=exE (cmpI h2 g2);have hq:=fun W=>cmpIntQ h2 g2 W;simp only[hc] at hq;replace hq:=qH hq;by_cases hz0:c=0
     ·subst hz0;have hz:=qH hc;clear hc;go_wp2;go_quiet ((go_at_call 177;exact quietOn (hq.out _)))
      go_wp2;go_roundw
      case rel=>exact⟨3,_,(by first|exact rfl|exact World.drewN_drewN _ _ _),rfl,.inr (.inr (.inr (.inl ⟨rfl,by show _=_;rw[←hg.out,cmpL_hd hz.out]⟩)))⟩
      case measure=>simp[intOf]
     ·have hz':(c != 0)=true:=(by simpa using hz0);have hz:=qH (show ¬cmpI h2 g2=0 by rw[hc];exact hz0);replace hc:=qH hc;clear hz0;go_wp2;go_quiet ((go_at_call 177;exact quietOn (hq.out _)))
      go_wp2;go_ret;exact⟨ret_int (by rw[←hg.out,cmpL_ne hz.out,hc.out]),(by first|exact below_drewN (((Below.refl w.heap.size w).alloc (Nat.le_refl _) _).alloc (by simp) _) _|exact below_drewN (below_drewN (((Below.refl w.heap.size w).alloc (Nat.le_refl _) _).alloc (by simp) _) _) _|exact below_drewN (below_drewN (below_drewN (((Below.refl w.heap.size w).alloc (Nat.le_refl _) _).alloc (by simp) _) _) _) _)⟩
    ·obtain⟨c,hc⟩:=exE (cmpI h3 g3);have hq:=fun W=>cmpIntQ h3 g3 W;simp only[hc] at hq;replace hq:=qH hq;by_cases hz0:c=0
     ·subst hz0;have hz:=qH hc;clear hc;go_wp2;go_quiet ((go_at_call 177;exact quietOn (hq.out _)))
      go_wp2;go_roundw
      case rel=>exact⟨4,_,(by first|exact rfl|exact World.drewN_drewN _ _ _),rfl,.inr (.inr (.inr (.inr (.inl ⟨rfl,by show _=_;rw[←hg.out,cmpL_hd hz.out]⟩))))⟩
      case measure=>simp[intOf]
     ·have hz':(c != 0)=true:=(by simpa using hz0);have hz:=qH (show ¬cmpI h3 g3=0 by rw[hc];exact hz0);replace hc:=qH hc;clear hz0;go_wp2;go_quiet ((go_at_call 177;exact quietOn (hq.out _)))
      go_wp2;go_ret;exact⟨ret_int (by rw[←hg.out,cmpL_ne hz.out,hc.out]),(by first|exact below_drewN (((Below.refl w.heap.size w).alloc (Nat.le_refl _) _).alloc (by simp) _) _|exact below_drewN (below_drewN (((Below.refl w.heap.size w).alloc (Nat.le_refl _) _).alloc (by simp) _) _) _|exact below_drewN (below_drewN (below_drewN (((Below.refl w.heap.size w).alloc (Nat.le_refl _) _).alloc (by simp) _) _) _) _)⟩
    ·obtain⟨c,hc⟩:=exE (cmpI h4 g4);have hq:=fun W=>cmpIntQ h4 g4 W;simp only[hc] at hq;replace hq:=qH hq;by_cases hz0:c=0
     ·subst hz0;have hz:=qH hc;clear hc;go_wp2;go_quiet ((go_at_call 177;exact quietOn (hq.out _)))
      go_wp2;go_roundw
      case rel=>exact⟨5,_,(by first|exact rfl|exact World.drewN_drewN _ _ _),rfl,.inr (.inr (.inr (.inr (.inr (⟨rfl,by show _=_;rw[←hg.out,cmpL_hd hz.out]⟩)))))⟩
      case measure=>simp[intOf]
     ·have hz':(c != 0)=true:=(by simpa using hz0);have hz:=qH (show ¬cmpI h4 g4=0 by rw[hc];exact hz0);replace hc:=qH hc;clear hz0;go_wp2;go_quiet ((go_at_call 177;exact quietOn (hq.out _)))
      go_wp2;go_ret;exact⟨ret_int (by rw[←hg.out,cmpL_ne hz.out,hc.out]),(by first|exact below_drewN (((Below.refl w.heap.size w).alloc (Nat.le_refl _) _).alloc (by simp) _) _|exact below_drewN (below_drewN (((Below.refl w.heap.size w).alloc (Nat.le_refl _) _).alloc (by simp) _) _) _|exact below_drewN (below_drewN (below_drewN (((Below.refl w.heap.size w).alloc (Nat.le_refl _) _).alloc (by simp) _) _) _) _)⟩
    ·go_wp2;go_ret;exact⟨ret_int hg.out,(by first|exact below_drewN (((Below.refl w.heap.size w).alloc (Nat.le_refl _) _).alloc (by simp) _) _|exact below_drewN (below_drewN (((Below.refl w.heap.size w).alloc (Nat.le_refl _) _).alloc (by simp) _) _) _|exact below_drewN (below_drewN (below_drewN (((Below.refl w.heap.size w).alloc (Nat.le_refl _) _).alloc (by simp) _) _) _) _)⟩
  ·have hE0:=qH (show cmpI n m=E by rw[←hE,cmpL_ne (fun h=>hn (cmpI_zero.1 h))]);have hn':(n != m)=true:=(by simpa using hn);clear hE hn;go_enter Tryz.func269, Tryz.ntmps269
   go_wp2_with (go_at_call 177;refine(cmpInt _ _ _).mono ?_;rintro e w1 ⟨rfl,rfl⟩)
   go_ret;exact⟨ret_int hE0.out,(((Below.refl w.heap.size w).alloc (Nat.le_refl _) _).alloc (by simp) _)⟩
theorem chkSet_1 {n x:Int}(h:n < 1∨5 < n):chkSet n x=1:=by rw[chkSet,procE,if_pos h];rfl
theorem chkSet_2 {n x:Int}(h1:1≤n) (h5:n≤5) (h:x < 0∨twoI n≤x):chkSet n x=2:=by rw[chkSet,procE,if_neg (show ¬(n < 1∨5 < n) by omega),if_neg (by decide),if_pos h]
theorem chkSet_0 {n x:Int}(h1:1≤n) (h5:n≤5) (h:0≤x∧x < twoI n):chkSet n x=0:=by rw[chkSet,procE,if_neg (show ¬(n < 1∨5 < n) by omega),if_neg (by decide),if_neg (by omega)]
theorem setCheck (n x:Int) (w:World):Calls Tryz.prog 268 #[.int .i64 n,.int .i64 x] w fun e w'=>e = .returned (.int .i64 (chkSet n x))∧w=w':=by
 have HP:=procs n w;by_cases hn:n < 1∨5 < n
 ·rw[procE,if_pos hn] at HP;replace HP:=qH HP;have hE:=qH (chkSet_1 (x:=x) hn);clear hn;go_enter Tryz.func268, Tryz.ntmps268
  go_wp2_with (go_at_call 279;refine HP.out.mono ?_;rintro e w1 ⟨rfl,rfl⟩)
  go_ret;exact⟨ret_int hE.out.symm,rfl⟩
 ·rw[procE,if_neg hn] at HP;replace HP:=qH HP;have g1:1≤n:=by omega
  have g5:n≤5:=by omega
  clear hn;by_cases h0:x < 0
  ·have hE:=qH (chkSet_2 g1 g5 (.inl h0));have h0':decide (x < 0)=true:=decide_eq_true h0;go_enter Tryz.func268, Tryz.ntmps268
   go_wp2_with (go_at_call 279;refine HP.out.mono ?_;rintro e w1 ⟨rfl,rfl⟩)
   go_ret;exact⟨ret_int hE.out.symm,rfl⟩
  ·have h0':decide (x < 0)=false:=decide_eq_false h0;rcases powN n g1 g5 with rfl|rfl|rfl|rfl|rfl
   ·by_cases hx:2≤x
    ·have hE:=qH (chkSet_2 (n:=1) g1 g5 (.inr (show twoI 1≤x from hx)))
     have hx':(x / 2 != 0)=true:=by
      have:x / 2 ≠ 0:=by omega
      simpa using this
     go_enter Tryz.func268, Tryz.ntmps268
     go_wp2_with (go_at_call 279;refine HP.out.mono ?_;rintro e w1 ⟨rfl,rfl⟩)
     go_ret;exact⟨ret_int hE.out.symm,rfl⟩
    ·have hE:=qH (chkSet_0 (n:=1) g1 g5 (show 0≤x∧x < twoI 1 from ⟨by omega,show x < 2 by omega⟩))
     have hx':(x / 2 != 0)=false:=by
      have:x / 2=0:=by omega
      simp[this]
     go_enter Tryz.func268, Tryz.ntmps268
     go_wp2_with (go_at_call 279;refine HP.out.mono ?_;rintro e w1 ⟨rfl,rfl⟩)
     go_ret;exact⟨ret_int hE.out.symm,rfl⟩
   ·by_cases hx:4≤x
    ·have hE:=qH (chkSet_2 (n:=2) g1 g5 (.inr (show twoI 2≤x from hx)))
     have hx':(x / 4 != 0)=true:=by
      have:x / 4 ≠ 0:=by omega
      simpa using this
     go_enter Tryz.func268, Tryz.ntmps268
     go_wp2_with (go_at_call 279;refine HP.out.mono ?_;rintro e w1 ⟨rfl,rfl⟩)
     go_ret;exact⟨ret_int hE.out.symm,rfl⟩
    ·have hE:=qH (chkSet_0 (n:=2) g1 g5 (show 0≤x∧x < twoI 2 from ⟨by omega,show x < 4 by omega⟩))
     have hx':(x / 4 != 0)=false:=by
      have:x / 4=0:=by omega
      simp[this]
     go_enter Tryz.func268, Tryz.ntmps268
     go_wp2_with (go_at_call 279;refine HP.out.mono ?_;rintro e w1 ⟨rfl,rfl⟩)
     go_ret;exact⟨ret_int hE.out.symm,rfl⟩
   ·by_cases hx:8≤x
    ·have hE:=qH (chkSet_2 (n:=3) g1 g5 (.inr (show twoI 3≤x from hx)))
     have hx':(x / 8 != 0)=true:=by
      have:x / 8 ≠ 0:=by omega
      simpa using this
     go_enter Tryz.func268, Tryz.ntmps268
     go_wp2_with (go_at_call 279;refine HP.out.mono ?_;rintro e w1 ⟨rfl,rfl⟩)
     go_ret;exact⟨ret_int hE.out.symm,rfl⟩
    ·have hE:=qH (chkSet_0 (n:=3) g1 g5 (show 0≤x∧x < twoI 3 from ⟨by omega,show x < 8 by omega⟩))
     have hx':(x / 8 != 0)=false:=by
      have:x / 8=0:=by omega
      simp[this]
     go_enter Tryz.func268, Tryz.ntmps268
     go_wp2_with (go_at_call 279;refine HP.out.mono ?_;rintro e w1 ⟨rfl,rfl⟩)
     go_ret;exact⟨ret_int hE.out.symm,rfl⟩
   ·by_cases hx:16≤x
    ·have hE:=qH (chkSet_2 (n:=4) g1 g5 (.inr (show twoI 4≤x from hx)))
     have hx':(x / 16 != 0)=true:=by
      have:x / 16 ≠ 0:=by omega
      simpa using this
     go_enter Tryz.func268, Tryz.ntmps268
     go_wp2_with (go_at_call 279;refine HP.out.mono ?_;rintro e w1 ⟨rfl,rfl⟩)
     go_ret;exact⟨ret_int hE.out.symm,rfl⟩
    ·have hE:=qH (chkSet_0 (n:=4) g1 g5 (show 0≤x∧x < twoI 4 from ⟨by omega,show x < 16 by omega⟩))
     have hx':(x / 16 != 0)=false:=by
      have:x / 16=0:=by omega
      simp[this]
     go_enter Tryz.func268, Tryz.ntmps268
     go_wp2_with (go_at_call 279;refine HP.out.mono ?_;rintro e w1 ⟨rfl,rfl⟩)
     go_ret;exact⟨ret_int hE.out.symm,rfl⟩
   ·by_cases hx:32≤x
    ·have hE:=qH (chkSet_2 (n:=5) g1 g5 (.inr (show twoI 5≤x from hx)))
     have hx':(x / 32 != 0)=true:=by
      have:x / 32 ≠ 0:=by omega
      simpa using this
     go_enter Tryz.func268, Tryz.ntmps268
     go_wp2_with (go_at_call 279;refine HP.out.mono ?_;rintro e w1 ⟨rfl,rfl⟩)
     go_ret;exact⟨ret_int hE.out.symm,rfl⟩
    ·have hE:=qH (chkSet_0 (n:=5) g1 g5 (show 0≤x∧x < twoI 5 from ⟨by omega,show x < 32 by omega⟩))
     have hx':(x / 32 != 0)=false:=by
      have:x / 32=0:=by omega
      simp[this]
     go_enter Tryz.func268, Tryz.ntmps268
     go_wp2_with (go_at_call 279;refine HP.out.mono ?_;rintro e w1 ⟨rfl,rfl⟩)
     go_ret;exact⟨ret_int hE.out.symm,rfl⟩
def chkRd (r:List Int):Int:=if chkGr (r.getD 0 0) ((r.drop 1).take 5) ≠ 0 then chkGr (r.getD 0 0) ((r.drop 1).take 5) else chkSet (r.getD 0 0) (r.getD 6 0)
theorem chkRd_1 {n h0 h1 h2 h3 h4 f:Int}(h:chkGr n [h0,h1,h2,h3,h4] ≠ 0):chkRd [n,h0,h1,h2,h3,h4,f]=chkGr n [h0,h1,h2,h3,h4]:=if_pos h
theorem chkRd_2 {n h0 h1 h2 h3 h4 f:Int}(h:chkGr n [h0,h1,h2,h3,h4]=0):chkRd [n,h0,h1,h2,h3,h4,f]=chkSet n f:=if_neg (fun k=>k h)
theorem boxCells {w:World}{cs:Array Value}{t:TypeId}{j:Nat}{v:Value}(h:cs[j]? = some v):(w.alloc (.cells cs t)).cell? ⟨w.heap.size,j,none⟩=some v:=by
 rw[cell_of_row _ w.heap.size j cs t (0,0) (heap_alloc_new w _)];exact h
theorem roundCheck (n h0 h1 h2 h3 h4 f:Int) (w:World):Calls Tryz.prog 245 #[.agg #[.int .i64 n,.int .i64 h0,.int .i64 h1,.int .i64 h2,.int .i64 h3,.int .i64 h4,.int .i64 f]] w fun e w'=>e = .returned (.int .i64 (chkRd [n,h0,h1,h2,h3,h4,f]))∧Below w.heap.size w w':=by
 have HG:=fun W=>graphCheck n h0 h1 h2 h3 h4 W;have hb:Below w.heap.size w (w.alloc (.cells #[.int .i64 n,.int .i64 h0,.int .i64 h1,.int .i64 h2,.int .i64 h3,.int .i64 h4,.int .i64 f] 148)):=(Below.refl _ _).alloc (Nat.le_refl _) _;by_cases hz:chkGr n [h0,h1,h2,h3,h4]=0
 ·have hE:=qH (chkRd_2 (f:=f) hz);simp only[hz] at HG;replace HG:=qH HG;clear hz;go_enter Tryz.func245, Tryz.ntmps245
  go_wp2_with fail
  refine(HG.out _).mono ?_;rintro e w1 ⟨rfl,hb1⟩;have c0:w1.cell? ⟨w.heap.size,0,none⟩=some (.int .i64 n):=cell_kept hb1 (boxCells rfl);have c6:w1.cell? ⟨w.heap.size,6,none⟩=some (.int .i64 f):=cell_kept hb1 (boxCells rfl);have hs:w1.heap[w.heap.size]? = some (.cells #[.int .i64 n,.int .i64 h0,.int .i64 h1,.int .i64 h2,.int .i64 h3,.int .i64 h4,.int .i64 f] 148):=(hb1.block _ (by simp)).trans (heap_alloc_new w _);go_wp2_with fail
  refine(setCheck n f _).mono ?_;rintro e w2 ⟨rfl,rfl⟩;go_wp2;go_ret;exact⟨ret_int hE.out.symm,bt hb hb1 hb.size⟩
 ·have hE:=qH (chkRd_1 (f:=f) hz);obtain⟨E,hEE⟩:=exE (chkGr n [h0,h1,h2,h3,h4]);rw[hEE] at hz hE;simp only[hEE] at HG;replace HG:=qH HG;have hz':(E != 0)=true:=by simpa using hz
  clear hEE hz;go_enter Tryz.func245, Tryz.ntmps245
  go_wp2_with fail
  refine(HG.out _).mono ?_;rintro e w1 ⟨rfl,hb1⟩;go_wp2;go_ret;exact⟨ret_int hE.out.symm,bt hb hb1 hb.size⟩
theorem cmpL_snoc {f g:Int}:∀ {x y:List Int},x.length=y.length→cmpL (x ++ [f]) (y ++ [g])=if cmpL x y=0 then cmpI f g else cmpL x y
 | [],[],_=>by
  show cmpL [f] [g]=if (0:Int)=0 then cmpI f g else 0
  rw[if_pos rfl,cmpL];by_cases h:cmpI f g=0
  ·rw[if_pos h,h];rfl
  ·rw[if_neg h]
 | a::x,b::y,h=>by
  rw[List.cons_append,List.cons_append,cmpL,cmpL];by_cases hc:cmpI a b=0
  ·rw[if_pos hc,if_pos hc];exact cmpL_snoc (by simpa using h)
  ·rw[if_neg hc,if_neg hc,if_neg hc]
theorem cmpL_zero:∀ {x y:List Int},cmpL x y=0↔x=y
 | [],[]=>by simp[cmpL]
 | [],b::y=>by simp[cmpL]
 | a::x,[]=>by simp[cmpL]
 | a::x,b::y=>by
  rw[cmpL];by_cases hc:cmpI a b=0
  ·rw[if_pos hc,cmpL_zero];have:=cmpI_zero.1 hc
   simp[this]
  ·rw[if_neg hc];constructor
   ·intro h;exact absurd h hc
   ·intro h;injection h with h1 h2;exact absurd (cmpI_zero.2 h1) hc
theorem cmp7_1 {n h0 h1 h2 h3 h4 f m g0 g1 g2 g3 g4 g:Int}(h : [n,h0,h1,h2,h3,h4] ≠ [m,g0,g1,g2,g3,g4]):cmpL [n,h0,h1,h2,h3,h4,f] [m,g0,g1,g2,g3,g4,g]=cmpL [n,h0,h1,h2,h3,h4] [m,g0,g1,g2,g3,g4]:=by
 have:=cmpL_snoc (f:=f) (g:=g) (x:=[n,h0,h1,h2,h3,h4]) (y:=[m,g0,g1,g2,g3,g4]) rfl
 rw[if_neg (fun k=>h (cmpL_zero.1 k))] at this;exact this
theorem cmp7_2 {n h0 h1 h2 h3 h4 f m g0 g1 g2 g3 g4 g:Int}(h : [n,h0,h1,h2,h3,h4] = [m,g0,g1,g2,g3,g4]):cmpL [n,h0,h1,h2,h3,h4,f] [m,g0,g1,g2,g3,g4,g]=cmpI f g:=by
 have:=cmpL_snoc (f:=f) (g:=g) (x:=[n,h0,h1,h2,h3,h4]) (y:=[m,g0,g1,g2,g3,g4]) rfl
 rw[if_pos (cmpL_zero.2 h)] at this;exact this
theorem roundCompare (n h0 h1 h2 h3 h4 f m g0 g1 g2 g3 g4 g:Int) (w:World):Calls Tryz.prog 246 #[.agg #[.int .i64 n,.int .i64 h0,.int .i64 h1,.int .i64 h2,.int .i64 h3,.int .i64 h4,.int .i64 f],.agg #[.int .i64 m,.int .i64 g0,.int .i64 g1,.int .i64 g2,.int .i64 g3,.int .i64 g4,.int .i64 g]] w fun e w'=>e = .returned (.int .i64 (cmpL [n,h0,h1,h2,h3,h4,f] [m,g0,g1,g2,g3,g4,g]))∧Below w.heap.size w w':=by
 have hb:Below w.heap.size w ((w.alloc (.cells #[.int .i64 n,.int .i64 h0,.int .i64 h1,.int .i64 h2,.int .i64 h3,.int .i64 h4,.int .i64 f] 148)).alloc (.cells #[.int .i64 m,.int .i64 g0,.int .i64 g1,.int .i64 g2,.int .i64 g3,.int .i64 g4,.int .i64 g] 148)):=((Below.refl _ _).alloc (Nat.le_refl _) _).alloc (by simp) _;have HG:=qH (fun W=>graphCompare n h0 h1 h2 h3 h4 m g0 g1 g2 g3 g4 W);by_cases he : [n,h0,h1,h2,h3,h4,f] = [m,g0,g1,g2,g3,g4,g]
 ·have hE:=qH (show cmpL [n,h0,h1,h2,h3,h4,f] [m,g0,g1,g2,g3,g4,g]=0 from cmpL_zero.2 he);have he':=qH (eqL_true.2 he);clear he;go_enter Tryz.func246, Tryz.ntmps246
  have he1:=he'.out;go_wp2;go_ret;exact⟨ret_int hE.out.symm,hb⟩
 ·have he':=eqL_false.2 he;clear he;by_cases hg : [n,h0,h1,h2,h3,h4] = [m,g0,g1,g2,g3,g4]
  ·have hE:=qH (cmp7_2 (f:=f) (g:=g) hg);have hg':=qH (eqL_true.2 hg);clear hg;go_enter Tryz.func246, Tryz.ntmps246
   have hg1:=hg'.out;go_wp2_with fail
   refine(cmpInt f g _).mono ?_;rintro e w1 ⟨rfl,rfl⟩;go_wp2;go_ret;exact⟨ret_int hE.out.symm,hb⟩
  ·have hE:=qH (cmp7_1 (f:=f) (g:=g) hg);have hg':=eqL_false.2 hg;clear hg;go_enter Tryz.func246, Tryz.ntmps246
   go_wp2_with fail
   refine(HG.out _).mono ?_;rintro e w1 ⟨rfl,hb1⟩;go_wp2;go_ret;exact⟨ret_int hE.out.symm,bt hb hb1 hb.size⟩
def insideB (a b:Int):Bool:=[0,1,2,3,4].all fun p=>!hasI a p || hasI b p
def movesN (ss:List (List (List Int))):Nat:=(ss.map List.length).foldr (· + ·) 0
theorem movesN_app (a b:List (List (List Int))):movesN (a++b)=movesN a+movesN b:=by
 unfold movesN;induction a with
 | nil=>simp
 | cons x a ih=>simp only[List.cons_append,List.map_cons,List.foldr_cons,ih];omega
def AdvV (w:World) (v:Value) (n:Int) (ss:List (List (List Int))):Prop:=∃sv,v = .agg #[.int .i64 n,sv]∧KSS 8 w sv ss
theorem AdvV.keep {w w':World}{v:Value}{n:Int}{ss:List (List (List Int))}(h:AdvV w v n ss) (hb:Below w.heap.size w w'):AdvV w' v n ss:=by
 obtain⟨sv,h1,h2⟩:=h;exact⟨sv,h1,h2.keep hb⟩
theorem opIn_of_op {P:Program}{l0:Nat}{o:Oper}{a:Act}{w:World}{K:Act→World→Prop}{Q:Exit→Act→World→Prop}(hd:∀c,o.op ≠ .defer c) (h:o.wp P a w K Q) :
  o.wpIn (Fence.wide.inRound l0) 0 P a w K Q:=by
 refine⟨fun _ _=>trivial,?_⟩;unfold Oper.wp at h;rw[Oper.semAt_eq _ _ _ hd];generalize (execOp a.eval o).run P w=r at h⊢
 have hdep:(Fence.wide.inRound l0).depth.isSome=true→1≤0:=fun h=>by simp[Fence.wide] at h
 cases r with
 | halt x w'=>cases x<;>first|exact h|exact h.elim
 | ok nx w'=>
  cases nx with
  | enter f args=>exact⟨hdep,CallsIn.inRound l0 (callsIn_wide.2 h)⟩
  | row r args=>exact⟨hdep,fun c cs _=>by
    obtain⟨v,w2,hr,hs⟩:=h c cs;exact⟨v,w2,hr,stepsIn_wide.2 hs⟩⟩
  | _=>first|exact h|exact h.elim
theorem anyIn_of_any {P:Program}{l0:Nat}{md:Region.Mode}{ops:Array Oper}{Q:Exit→Act→World→Prop}(hnd:∀(i:Nat) o,ops[i]? = some o→∀c,o.op ≠ .defer c) (hQ : ¬LetsOut Q) :
  ∀(fuel:Nat) (listed:Array Bool) (a:Act) (w:World),wpAny P md ops Q fuel listed a w→wpAnyIn (Fence.wide.inRound l0) 0 P md ops Q fuel listed a w
 | 0,_,_,_,h=>h
 | fuel+1,listed,a,w,h=>by
  refine⟨h.1,fun i hi=>?_⟩;have h1:=h.2 i hi;unfold wpOp at h1;unfold wpOpIn;cases ho:ops[i]? with
  | none=>rw[ho] at h1;exact anyIn_of_any hnd hQ fuel _ _ _ h1
  | some o=>
   rw[ho] at h1;simp only at h1⊢
   by_cases hw:Region.wanted o (yielded ops a.tmps)=true
   ·rw[if_pos hw] at h1⊢;refine opIn_of_op (hnd i o ho) ?_;exact Oper.wp_mono (fun a w hh=>anyIn_of_any hnd hQ fuel _ a w hh) (h1.resolve_right (fun hh=>hQ hh.2))
   ·rw[if_neg hw] at h1⊢;exact⟨fun _ _=>trivial,anyIn_of_any hnd hQ fuel _ _ _ h1⟩
def noDefer (l:List Oper):Bool:=l.all fun o=>match o.op with | .defer _=>false|_=>true
theorem noDefer_get {l:List Oper}(h:noDefer l=true):∀(i:Nat) o,l.toArray[i]? = some o→∀c,o.op ≠ .defer c:=by
 intro i o ho c hc;have hm:o∈l:=by rw[List.getElem?_toArray] at ho;exact List.mem_of_getElem? ho
 have:=List.all_eq_true.1 h o hm
 rw[hc] at this;cases this
def mask (o:Oper):Oper:={ dst:=none,op:=.move (.const undef),type:=o.type,pos:=o.pos,after:=o.after,guard:=none }
def maskLast (n:Nat) (l:List Oper):List Oper:=l.take n++(l.drop n).map mask
def qtB (n:Nat) (l:List Oper):Bool:=
 decide (l.length=n+1) && Region.sinkB .any l.toArray n && (List.range l.length).all (fun i=>match l[i]? with|some o=>o.after.all fun e=>decide (e.on < i)|none=>true) &&
 Region.lexB .any (maskLast n l).toArray && ((l.drop n).all fun o=>o.guard.isNone)
theorem maskLast_get {n:Nat}{l:List Oper}(i:Nat):(maskLast n l)[i]? = if i < n then l[i]? else (l[i]?).map mask:=by
 unfold maskLast;by_cases h:i < (l.take n).length
 ·rw[List.getElem?_append_left h];have:i < n:=by rw[List.length_take] at h;omega
  rw[if_pos this,List.getElem?_take,if_pos this]
 ·rw[List.getElem?_append_right (by omega),List.getElem?_map,List.getElem?_drop];rw[List.length_take] at h⊢;by_cases hi:i < n
  ·rw[if_pos hi];have:l.length≤i:=by omega
   rw[List.getElem?_eq_none (by omega:l.length≤n+(i - min n l.length)),List.getElem?_eq_none this];rfl
  ·rw[if_neg hi];by_cases hn:n≤l.length
   ·rw[show n+(i - min n l.length)=i by omega]
   ·rw[List.getElem?_eq_none (by omega:l.length≤n+(i - min n l.length)),List.getElem?_eq_none (by omega:l.length≤i)]
theorem maskLast_length (n:Nat) (l:List Oper):(maskLast n l).length=l.length:=by simp[maskLast];omega
theorem ready_mask (md:Region.Mode) (n:Nat) (l:List Oper) (listed:Array Bool):Region.ready md (maskLast n l).toArray listed=Region.ready md l.toArray listed:=by
 unfold Region.ready;simp only[List.size_toArray,maskLast_length,List.getElem?_toArray,maskLast_get];congr 1
 funext i
 by_cases h:i < n
 ·rw[if_pos h]
 ·rw[if_neg h];cases l[i]?<;>rfl
theorem wpQuiet_append {P:Program}{ops:Array Oper}{C:World→Prop}{Q:Act→Prop}:∀ {l1 l2:List Oper}{a:Act},wpQuiet P ops C (fun a=>wpQuiet P ops C Q l2 a) l1 a→wpQuiet P ops C Q (l1++l2) a
 | [],_,_,h=>h
 | o::l1,l2,a,h=>by
  rw[List.cons_append];unfold wpQuiet at h⊢;split
  ·rename_i hw
   rw[if_pos hw] at h;exact Oper.quiet_mono (fun a hh=>wpQuiet_append hh) h
  ·rename_i hw
   rw[if_neg hw] at h;exact wpQuiet_append h
theorem wpQuiet_mono' {P:Program}{ops:Array Oper}{C:World→Prop}{Q Q':Act→Prop}(hq:∀a,Q a→Q' a):∀ {l:List Oper}{a:Act},wpQuiet P ops C Q l a→wpQuiet P ops C Q' l a
 | [],_,h=>hq _ h
 | o::l,a,h=>by
  unfold wpQuiet at h⊢;split
  ·rename_i hw
   rw[if_pos hw] at h;exact Oper.quiet_mono (fun a hh=>wpQuiet_mono' hq hh) h
  ·rename_i hw
   rw[if_neg hw] at h;exact wpQuiet_mono' hq h
theorem any_of_quiet_last {P:Program}{C:World→Prop}{Qa:Act→Prop}{Q:Exit→Act→World→Prop}{n:Nat}{l:List Oper}{last:Oper}(hlen:l.length=n+1) (hlast:l[n]? = some last) (hg:last.guard=none)
  (hs:Region.sinkB .any l.toArray n=true) (hback:∀(i:Nat) (o:Oper),l[i]? = some o→∀e∈o.after,e.on < i)
  (hQ:∀a w,C w→Qa a→last.wp P a w (fun a w=>Q .normal a w) Q) (hng:∀(i:Nat) (o:Oper),l[i]? = some o→∀tmps,Region.wanted o (yielded (maskLast n l).toArray tmps)=Region.wanted o (yielded l.toArray tmps)) :
  ∀(fuel:Nat) (listed:Array Bool) (a:Act) (w:World),HeadInv .any l.toArray n listed→C w→wpAnyQ P .any (maskLast n l).toArray C Qa fuel listed a→1≤fuel→wpAny P .any l.toArray Q fuel listed a w
 | 0,_,_,_,_,_,_,h1=>absurd h1 (by omega)
 | fuel+1,listed,a,w,inv,hC,h,_=>by
  have hc:Region.chainB .any l.toArray n=true:=by
   refine List.all_eq_true.2 fun t ht=>?_;rw[List.mem_range,List.size_toArray] at ht;simp only[Bool.or_eq_true,decide_eq_true_eq];left;omega
  have hn:n < l.toArray.size:=by simp;omega
  -- something is ready
  have hne:Region.ready .any l.toArray listed ≠ []:=by
   have key:∀k,k < l.length→listed.getD k true=false→∃j,j∈Region.ready .any l.toArray listed:=by
    intro k;induction k using Nat.strongRecOn with
    | _ k ih=>
     intro hk hun;by_cases hall:∀e∈(l[k]'hk).after,Region.binds .any e=true→listed.getD e.on false=true
     ·exact⟨k,mem_ready.2 ⟨hun,l[k],by rw[List.getElem?_toArray,List.getElem?_eq_getElem hk],hall⟩⟩
     ·obtain⟨e,he⟩:=Classical.not_forall.1 hall;obtain⟨he1,he2⟩:=Classical.not_imp.1 he;obtain⟨_,he3⟩:=Classical.not_imp.1 he2;have hlt:=hback k l[k] (List.getElem?_eq_getElem hk) e he1;have hsz:e.on < listed.size:=(by rw[inv.size];simp;omega);exact ih e.on hlt (by omega) (getD_in hsz (by simpa using he3))
   obtain⟨j,hj⟩:=key n (by omega) (inv.tail n (Nat.le_refl _) hn);intro h0;rw[h0] at hj;cases hj
  refine⟨fun h0=>absurd h0 hne,fun i hi=>?_⟩;have hi':i∈Region.ready .any (maskLast n l).toArray listed:=by rw[ready_mask];exact hi
  have hq:=h.2 i hi';obtain⟨hiun,oi,hoi,_⟩:=mem_ready.1 hi;have hilt:i < l.length:=by have:=(Array.getElem?_eq_some_iff.1 hoi).1;simpa using this
  by_cases hin:i < n
  ·have hoi':(maskLast n l).toArray[i]? = some oi:=by rw[List.getElem?_toArray,maskLast_get,if_pos hin,←List.getElem?_toArray];exact hoi
   have hq2:qOp P l.toArray C i (wpAnyQ P .any (maskLast n l).toArray C Qa fuel (listed.setIfInBounds i true)) a:=by
    unfold qOp at hq⊢;rw[hoi'] at hq;rw[hoi];simp only at hq⊢
    rw[hng i oi (by simpa using hoi)] at hq;exact hq
   have hf:1≤fuel:=by
    cases fuel with
    | succ f=>omega
    | zero=>
     obtain⟨v,hy,hK⟩:=yieldsIn_of_qOp hoi hq2;have hnr:=hK.1;rw[ready_mask] at hnr;have inv2:=inv.set hi hin
     have key:∀k,k < l.length→(listed.setIfInBounds i true).getD k true=false→∃j,j∈Region.ready .any l.toArray (listed.setIfInBounds i true):=by
      intro k;induction k using Nat.strongRecOn with
      | _ k ih=>
       intro hk hun;by_cases hall:∀e∈(l[k]'hk).after,Region.binds .any e=true→(listed.setIfInBounds i true).getD e.on false=true
       ·exact⟨k,mem_ready.2 ⟨hun,l[k],by rw[List.getElem?_toArray,List.getElem?_eq_getElem hk],hall⟩⟩
       ·obtain⟨e,he⟩:=Classical.not_forall.1 hall;obtain⟨he1,he2⟩:=Classical.not_imp.1 he;obtain⟨_,he3⟩:=Classical.not_imp.1 he2;have hlt:=hback k l[k] (List.getElem?_eq_getElem hk) e he1;have hsz:e.on < (listed.setIfInBounds i true).size:=(by rw[inv2.size];simp;omega);exact ih e.on hlt (by omega) (getD_in hsz (by simpa using he3))
     obtain⟨j,hj⟩:=key n (by omega) (inv2.tail n (Nat.le_refl _) hn);rw[hnr] at hj;cases hj
   exact wpOp_of_qOp hC (fun a' w' hC' hK=>any_of_quiet_last hlen hlast hg hs hback hQ hng fuel _ a' w' (inv.set hi hin) hC' hK hf) hq2
  ·obtain rfl:i=n:=by omega
   have hol:oi=last:=by
    rw[List.getElem?_toArray,hlast] at hoi;exact(Option.some.inj hoi).symm
   subst hol;-- all others are listed
   have hall:∀j,j < i→listed.getD j true=true:=by
    intro j hj;cases hb:listed.getD j true with
    | true=>rfl
    | false=>exact absurd hi (tail_waits hs hc hn inv _ j rfl hj hb i (Nat.le_refl _))
   have hend:Region.ready .any l.toArray (listed.setIfInBounds i true) = []:=by
    cases hR:Region.ready .any l.toArray (listed.setIfInBounds i true) with
    | nil=>rfl
    | cons j r=>
     have hj:j∈Region.ready .any l.toArray (listed.setIfInBounds i true):=(by rw[hR];simp);obtain⟨hjun,oj,hoj,_⟩:=mem_ready.1 hj;have hjlt:j < l.length:=(by have:=(Array.getElem?_eq_some_iff.1 hoj).1;simpa using this);by_cases hji:i=j
     ·subst hji;have:i < listed.size:=by rw[inv.size];simpa using hilt
      simp[this] at hjun
     ·rw[getD_set_ne true hji] at hjun;rw[hall j (by omega)] at hjun;cases hjun
   have hKa:Qa a:=by
    unfold qOp at hq;have hml:(maskLast i l).toArray[i]? = some (mask oi):=(by rw[List.getElem?_toArray,maskLast_get,if_neg (by omega),hlast];rfl);rw[hml] at hq;simp only[Region.wanted,mask,if_true] at hq;obtain⟨v,_,hK⟩:=hq;have hK':wpAnyQ P .any (maskLast i l).toArray C Qa fuel (listed.setIfInBounds i true) a:=hK;cases fuel with
    | zero=>exact hK'.2
    | succ f=>exact hK'.1 (by rw[ready_mask];exact hend)
   unfold wpOp;rw[hoi];simp only[Region.wanted,hg,if_true];refine .inl (Oper.wp_mono (fun a' w' hh=>?_) (hQ a w hC hKa));cases fuel with
   | zero=>exact⟨hend,hh⟩
   | succ f=>exact⟨fun _=>hh,fun j hj=>by rw[hend] at hj;cases hj⟩
def noGuard (l:List Oper):Bool:=l.all fun o=>o.guard.isNone
theorem noGuard_get {l:List Oper}(h:noGuard l=true) {i:Nat}{o:Oper}(ho:l[i]? = some o):o.guard=none:=by
 have:=List.all_eq_true.1 h o (List.mem_of_getElem? ho)
 simpa using this
theorem any_qtail {P:Program}{Q:Exit→Act→World→Prop}{a:Act}{w:World}{l:List Oper}(n:Nat) (hB:qtB n l=true) (hg:noGuard l=true)
  (h:wpQuiet P (maskLast n l).toArray (fun w'=>∃k,w'=w.drewN k) (fun a'=>∀k,wpList P l.toArray Q (l.drop n) a' (w.drewN k)) (l.take n) a) (hQ : ¬LetsOut Q) :
  wpAny P .any l.toArray Q l.toArray.size (Array.replicate l.toArray.size false) a w.drew:=by
 simp only[qtB,Bool.and_eq_true,decide_eq_true_eq] at hB;obtain⟨⟨⟨⟨hlen,hs⟩,hb⟩,hlex⟩,_⟩:=hB
 have hback:∀(i:Nat) (o:Oper),l[i]? = some o→∀e∈o.after,e.on < i:=by
  intro i o ho e he;have:=List.all_eq_true.1 hb i (List.mem_range.2 (List.getElem?_eq_some_iff.1 ho).1)
  rw[ho] at this;simp only at this
  exact of_decide_eq_true (Array.all_eq_true'.1 this e he)
 have hlt:n < l.length:=by omega
 have hlast:l[n]? = some l[n]:=List.getElem?_eq_getElem hlt;have hdrop:l.drop n = [l[n]]:=by rw[List.drop_eq_getElem_cons hlt,List.drop_eq_nil_of_le (by omega)]
 have hgl:l[n].guard=none:=noGuard_get hg hlast
 have start:HeadInv .any l.toArray n (Array.replicate l.toArray.size false):=
  ⟨by simp,fun j oj _ hh=>(by rw[getD_replicate_false] at hh;cases hh),fun t _ ht=>getD_in (by simpa using ht) (getD_replicate_false _ _)⟩
 refine any_of_quiet_last (C:=fun w'=>∃k,w'=w.drewN k) (Qa:=fun a'=>∀k,wpList P l.toArray Q (l.drop n) a' (w.drewN k)) hlen hlast hgl hs hback ?_ ?_ _ _ _ _ start ⟨1,rfl⟩ ?_ (by simp;omega)
 ·rintro a w' ⟨k,rfl⟩ hh;have h1:=hh k;rw[hdrop] at h1;unfold wpList at h1;rw[if_pos (by simp[Region.wanted,hgl])] at h1;exact Oper.wp_mono (fun a w hh=>hh) (h1.resolve_right (fun hh=>hQ hh.2))
 ·intro i o ho tmps;simp[Region.wanted,noGuard_get hg ho]
 ·simp only[Region.lexB,Bool.and_eq_true] at hlex;have hml:(maskLast n l)=l.take n ++ [mask l[n]]:=by rw[maskLast,hdrop];rfl
  have hw:wpQuiet P (maskLast n l).toArray (fun w'=>∃k,w'=w.drewN k) (fun a'=>∀k,wpList P l.toArray Q (l.drop n) a' (w.drewN k)) (maskLast n l) a:=by
   conv=>arg 5;rw[hml]
   refine wpQuiet_append ?_;refine wpQuiet_mono' ?_ h;intro a' hh;unfold wpQuiet;rw[if_pos (by simp[Region.wanted,mask])];exact⟨undef,fun w' _=>⟨rfl,rfl⟩,hh⟩
  have:=wpAnyQ_lex (C:=fun w'=>∃k,w'=w.drewN k) (md:=.any) hlex.1 (maskLast n l) 0 (Array.replicate (maskLast n l).toArray.size false) a (by simp) (by simpa using hlex.2) hw
  simpa [maskLast_length] using this
theorem wpIn_region_qtail {P:Program}{l0 id:Nat}{Q:Exit→Act→World→Prop}{a:Act}{w:World}{l:List Oper}(n:Nat) (hm:P.follows .mixedOrders=true) (hB:qtB n l=true) (hg:noGuard l=true)
  (hd:noDefer l=true) (hQ : ¬LetsOut Q) (h:∀ops',wpQuiet P ops' (fun w'=>∃k,w'=w.drewN k) (fun a'=>∀k,wpList P l.toArray Q (l.drop n) a' (w.drewN k)) (l.take n) a) :
  (Code.region id l.toArray true).wpIn (Fence.wide.inRound l0) 0 P Q a w:=
 wpIn_region_any hm (anyIn_of_any (noDefer_get hd) hQ _ _ _ _ (any_qtail n hB hg (h _) hQ))
end Go.Proofs.YtcnedkkcgdkioaaGreat
