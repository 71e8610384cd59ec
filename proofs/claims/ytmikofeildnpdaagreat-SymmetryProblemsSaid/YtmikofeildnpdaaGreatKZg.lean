/- Texts of this claim, put together: A0 A3 A4 A5 A6 A7 A8 A9 B2 E4 H1 Wb We RB. -/
import Derived.Test.YtmikofeildnpdaaGreatKZc
import Derived.Test.YtmikofeildnpdaaGreatKZd
import Derived.Laws.StructEq
import Derived.Test.YtmikofeildnpdaaGreatKZe
import Derived.StillTailTactics
import Derived.IntWalk

set_option maxRecDepth 100000
set_option maxHeartbeats 12800000
namespace Go.Proofs.YtmikofeildnpdaaGreat
open Go.RowKit
def eqL (x y:List Int):Bool:=decide (x=y)
theorem eqL_true {x y:List Int}:eqL x y=true↔x=y:=by simp[eqL]
theorem eqL_false {x y:List Int}:eqL x y=false↔x ≠ y:=by simp[eqL]
theorem eqArr (d:Nat) (a b c e f a' b' c' e' f':Int) (w:World):(Op.equalIn (d+2) 83 (.agg #[.int .i64 a,.int .i64 b,.int .i64 c,.int .i64 e,.int .i64 f]) (.agg #[.int .i64 a',.int .i64 b',.int .i64 c',.int .i64 e',.int .i64 f'])).run Tryz.prog w = .ok (eqL [a,b,c,e,f] [a',b',c',e',f']) w:=by
 have u3:=Tryz.underlying3;have a3:=Tryz.isAgg3;have z3:=Tryz.sizeOf3;rw[show d+2=(d+1)+1 from rfl,Op.equalIn];simp only[Sem.run_bind,run_underlying Tryz.underlying83,Result.andThen_ok];simp only[Std.Legacy.Range.forIn_eq_forIn_range',Std.Legacy.Range.size,Nat.sub_zero,Nat.add_sub_cancel,Nat.div_one,List.range'_succ,List.range'_zero,List.forIn_cons,List.forIn_nil];go_simp;by_cases h1:a=a'<;>by_cases h2:b=b'<;>by_cases h3:c=c'<;>by_cases h4:e=e'<;>by_cases h5:f=f'<;>simp[eqL,h1,h2,h3,h4,h5]
theorem eqGr (d:Nat) (n a b c e f n' a' b' c' e' f':Int) (w:World):(Op.equalIn (d+3) 85 (.agg #[.int .i64 n,.int .i64 a,.int .i64 b,.int .i64 c,.int .i64 e,.int .i64 f]) (.agg #[.int .i64 n',.int .i64 a',.int .i64 b',.int .i64 c',.int .i64 e',.int .i64 f'])).run Tryz.prog w = .ok (eqL [n,a,b,c,e,f] [n',a',b',c',e',f']) w:=by
 have u3:=Tryz.underlying3;have a3:=Tryz.isAgg3;have z3:=Tryz.sizeOf3;have a5:=Tryz.isAgg83;have z5:=Tryz.sizeOf83;have hS : Tryz.prog.underlying 85=some (.struct (Tryz.prog.fieldsOf 85)):=by kernel_rfl
 have hp : Tryz.prog.stoodInHeld 85=false:=by kernel_rfl
 have hA:=eqArr d a b c e f a' b' c' e' f';rw[show d+3=(d+2)+1 from rfl,run_equalIn_agg w (d+2) 85 _ _ hS hp];simp only[Program.fieldsOf,Tryz.underlying85];go_simp;by_cases h0:n=n'<;>by_cases h1 : [a,b,c,e,f] = [a',b',c',e',f']<;>simp_all [eqL]
theorem eqRd (d:Nat) (n a b c e f g n' a' b' c' e' f' g':Int) (w:World):(Op.equalIn (d+4) 87 (.agg #[.int .i64 n,.int .i64 a,.int .i64 b,.int .i64 c,.int .i64 e,.int .i64 f,.int .i64 g]) (.agg #[.int .i64 n',.int .i64 a',.int .i64 b',.int .i64 c',.int .i64 e',.int .i64 f',.int .i64 g'])).run Tryz.prog w = .ok (eqL [n,a,b,c,e,f,g] [n',a',b',c',e',f',g']) w:=by
 have u3:=Tryz.underlying3;have a3:=Tryz.isAgg3;have z3:=Tryz.sizeOf3;have a5:=Tryz.isAgg85;have z5:=Tryz.sizeOf85;have hS : Tryz.prog.underlying 87=some (.struct (Tryz.prog.fieldsOf 87)):=by kernel_rfl
 have hp : Tryz.prog.stoodInHeld 87=false:=by kernel_rfl
 have hA:=eqGr d n a b c e f n' a' b' c' e' f';rw[show d+4=(d+3)+1 from rfl,run_equalIn_agg w (d+3) 87 _ _ hS hp];simp only[Program.fieldsOf,Tryz.underlying87];go_simp;by_cases h0:g=g'<;>by_cases h1 : [n,a,b,c,e,f] = [n',a',b',c',e',f']<;>simp_all [eqL]
theorem eqMv (d:Nat) (n a b c e f g t n' a' b' c' e' f' g' t':Int) (w:World):(Op.equalIn (d+5) 100 (.agg #[.int .i64 n,.int .i64 a,.int .i64 b,.int .i64 c,.int .i64 e,.int .i64 f,.int .i64 g,.int .i64 t]) (.agg #[.int .i64 n',.int .i64 a',.int .i64 b',.int .i64 c',.int .i64 e',.int .i64 f',.int .i64 g',.int .i64 t'])).run Tryz.prog w = .ok (eqL [n,a,b,c,e,f,g,t] [n',a',b',c',e',f',g',t']) w:=by
 have u3:=Tryz.underlying3;have a3:=Tryz.isAgg3;have z3:=Tryz.sizeOf3;have a5:=Tryz.isAgg87;have z5:=Tryz.sizeOf87;have hS : Tryz.prog.underlying 100=some (.struct (Tryz.prog.fieldsOf 100)):=by kernel_rfl
 have hp : Tryz.prog.stoodInHeld 100=false:=by kernel_rfl
 have hA:=eqRd d n a b c e f g n' a' b' c' e' f' g';rw[show d+5=(d+4)+1 from rfl,run_equalIn_agg w (d+4) 100 _ _ hS hp];simp only[Program.fieldsOf,Tryz.underlying100];go_simp;by_cases h0:t=t'<;>by_cases h1 : [n,a,b,c,e,f,g] = [n',a',b',c',e',f',g']<;>simp_all [eqL]
@[go_sem high] theorem eqGr' (n a b c e f n' a' b' c' e' f':Int) (w:World):(Op.equalIn 10000 85 (.agg #[.int .i64 n,.int .i64 a,.int .i64 b,.int .i64 c,.int .i64 e,.int .i64 f]) (.agg #[.int .i64 n',.int .i64 a',.int .i64 b',.int .i64 c',.int .i64 e',.int .i64 f'])).run Tryz.prog w = .ok (eqL [n,a,b,c,e,f] [n',a',b',c',e',f']) w:=eqGr 9997 n a b c e f n' a' b' c' e' f' w
@[go_sem high] theorem eqRd' (n a b c e f g n' a' b' c' e' f' g':Int) (w:World):(Op.equalIn 10000 87 (.agg #[.int .i64 n,.int .i64 a,.int .i64 b,.int .i64 c,.int .i64 e,.int .i64 f,.int .i64 g]) (.agg #[.int .i64 n',.int .i64 a',.int .i64 b',.int .i64 c',.int .i64 e',.int .i64 f',.int .i64 g'])).run Tryz.prog w = .ok (eqL [n,a,b,c,e,f,g] [n',a',b',c',e',f',g']) w:=eqRd 9996 n a b c e f g n' a' b' c' e' f' g' w
@[go_sem high] theorem eqMv' (n a b c e f g t n' a' b' c' e' f' g' t':Int) (w:World):(Op.equalIn 10000 100 (.agg #[.int .i64 n,.int .i64 a,.int .i64 b,.int .i64 c,.int .i64 e,.int .i64 f,.int .i64 g,.int .i64 t]) (.agg #[.int .i64 n',.int .i64 a',.int .i64 b',.int .i64 c',.int .i64 e',.int .i64 f',.int .i64 g',.int .i64 t'])).run Tryz.prog w = .ok (eqL [n,a,b,c,e,f,g,t] [n',a',b',c',e',f',g',t']) w:=eqMv 9995 n a b c e f g t n' a' b' c' e' f' g' t' w
theorem isNaN (a:Int) (w:World):Calls Tryz.prog 163 #[.int .i64 a] w fun e w'=>e = .returned (.bool false)∧w=w':=by
 go_enter Tryz.func163, Tryz.ntmps163
 go_wp2;go_ret;exact⟨ret_bool (by simp),rfl⟩
theorem cmpInt (a b:Int) (w:World):Calls Tryz.prog 111 #[.int .i64 a,.int .i64 b] w fun e w'=>e = .returned (.int .i64 (cmpI a b))∧w=w':=by
 by_cases h1:a < b
 ·go_enter Tryz.func111, Tryz.ntmps111
  go_wp2_with (go_at_call 163;refine(isNaN _ _).mono ?_;rintro e w' ⟨rfl,rfl⟩)
  go_ret;exact⟨ret_int (by rw[cmpI,if_pos h1]),rfl⟩
 ·have h1':decide (a < b)=false:=by simpa using h1
  by_cases h2:b < a
  ·go_enter Tryz.func111, Tryz.ntmps111
   go_wp2_with (go_at_call 163;refine(isNaN _ _).mono ?_;rintro e w' ⟨rfl,rfl⟩)
   go_ret;exact⟨ret_int (by rw[cmpI,if_neg (by omega),if_pos h2]),rfl⟩
  ·have h2':decide (b < a)=false:=(by simpa using h2);go_enter Tryz.func111, Tryz.ntmps111
   go_wp2_with (go_at_call 163;refine(isNaN _ _).mono ?_;rintro e w' ⟨rfl,rfl⟩)
   go_ret;exact⟨ret_int (by rw[cmpI,if_neg (by omega),if_neg (by omega)]),rfl⟩
theorem cmpIntQ (a b:Int) (w:World):Calls Tryz.prog 111 #[.int .i64 a,.int .i64 b] w fun e w'=>e = .returned (.int .i64 (cmpI a b))∧Qt w w':=(cmpInt a b w).mono fun _ _ ⟨he,hw⟩=>⟨he,0,hw.symm⟩
theorem quietOn {P:Program}{f:FuncId}{args:Array Value}{w:World}{a n:Nat}{v:Value}(h:Calls P f args (w.drewN (a+n)) fun e w'=>e = .returned v∧Qt (w.drewN (a+n)) w') :
  Calls P f args (w.drewN (a+n)) fun e w''=>e = .returned v∧∃m,w''=w.drewN (a+m):=by
 refine h.mono ?_;rintro e w' ⟨he,k,rfl⟩;exact⟨he,n+k,by rw[World.drewN_drewN];congr 1;omega⟩
theorem cmpL_self:∀x:List Int,cmpL x x=0
 | []=>rfl
 | a::x=>by rw[cmpL,show cmpI a a=0 by simp[cmpI],if_pos rfl,cmpL_self x]
theorem cmpL_hd {a b:Int}{x y:List Int}(h:cmpI a b=0):cmpL (a::x) (b::y)=cmpL x y:=by rw[cmpL,if_pos h]
theorem cmpL_ne {a b:Int}{x y:List Int}(h : ¬cmpI a b=0):cmpL (a::x) (b::y)=cmpI a b:=by rw[cmpL,if_neg h]
theorem cmpI_zero {a b:Int}:cmpI a b=0↔a=b:=by
 unfold cmpI;by_cases h1:a < b
 ·simp[h1];omega
 ·by_cases h2:b < a
  ·simp[h1,h2];omega
  ·simp[h1,h2];omega
theorem cmpI_lt {a b:Int}(h:a < b):cmpI a b = -1:=by rw[cmpI,if_pos h]
theorem cmpI_gt {a b:Int}(h:b < a):cmpI a b=1:=by rw[cmpI,if_neg (by omega),if_pos h]
theorem graphCompare (n h0 h1 h2 h3 h4 m g0 g1 g2 g3 g4:Int) (w:World):Calls Tryz.prog 135 #[.agg #[.int .i64 n,.int .i64 h0,.int .i64 h1,.int .i64 h2,.int .i64 h3,.int .i64 h4],.agg #[.int .i64 m,.int .i64 g0,.int .i64 g1,.int .i64 g2,.int .i64 g3,.int .i64 g4]] w fun e w'=>e = .returned (.int .i64 (cmpL [n,h0,h1,h2,h3,h4] [m,g0,g1,g2,g3,g4]))∧Below w.heap.size w w':=by
 by_cases he : [n,h0,h1,h2,h3,h4] = [m,g0,g1,g2,g3,g4]
 ·have hE:=qH (show cmpL [n,h0,h1,h2,h3,h4] [m,g0,g1,g2,g3,g4]=0 by rw[he];exact cmpL_self _);have he':=qH (eqL_true.2 he);clear he;go_enter Tryz.func135, Tryz.ntmps135
  have he1:=he'.out;go_wp2;go_ret;exact⟨ret_int hE.out.symm,(((Below.refl w.heap.size w).alloc (Nat.le_refl _) _).alloc (by simp) _)⟩
 ·have he':=eqL_false.2 he;clear he;obtain⟨E,hE⟩:=exE (cmpL [n,h0,h1,h2,h3,h4] [m,g0,g1,g2,g3,g4]);rw[hE];by_cases hn:n=m
  ·have hE0:=qH (show cmpL [h0,h1,h2,h3,h4] [g0,g1,g2,g3,g4]=E by rw[←hE];exact(cmpL_hd (cmpI_zero.2 hn)).symm);have hn':(n != m)=false:=(by simp[hn]);replace hn:=qH hn;clear hE;go_enter Tryz.func135, Tryz.ntmps135
   go_wp2;go_loopw [20] (fun iv wr=>∃(k:Int) (dn:Nat),wr=((w.alloc (.cells #[.int .i64 n,.int .i64 h0,.int .i64 h1,.int .i64 h2,.int .i64 h3,.int .i64 h4] 85)).alloc (.cells #[.int .i64 m,.int .i64 g0,.int .i64 g1,.int .i64 g2,.int .i64 g3,.int .i64 g4] 85)).drewN dn∧iv = .int .i64 k∧((k=0∧Hid (cmpL [h0,h1,h2,h3,h4] [g0,g1,g2,g3,g4]=E))∨(k=1∧Hid (cmpL [h1,h2,h3,h4] [g1,g2,g3,g4]=E))∨(k=2∧Hid (cmpL [h2,h3,h4] [g2,g3,g4]=E))∨(k=3∧Hid (cmpL [h3,h4] [g3,g4]=E))∨(k=4∧Hid (cmpL [h4] [g4]=E))∨(k=5∧Hid (cmpL [] []=E)))) (fun iv _=>5 - (intOf iv).toNat)
   case atStart=>exact⟨0,0,(by first|rfl|simp),rfl,.inl ⟨rfl,hE0⟩⟩
   case round=>
    clear hE0;obtain⟨k,dn,rfl,rfl,hk⟩:=hrel;rcases hk with⟨rfl,hg⟩|⟨rfl,hg⟩|⟨rfl,hg⟩|⟨rfl,hg⟩|⟨rfl,hg⟩|⟨rfl,hg⟩
    ·obtain⟨c,hc⟩:=exE (cmpI h0 g0);have hq:=fun W=>cmpIntQ h0 g0 W;simp only[hc] at hq;replace hq:=qH hq;by_cases hz0:c=0
     ·subst hz0;have hz:=qH hc;clear hc;go_wp2;go_quiet ((go_at_call 111;exact quietOn (hq.out _)))
      go_wp2;go_roundw
      case rel=>exact⟨1,_,(by first|exact rfl|exact World.drewN_drewN _ _ _),rfl,.inr (.inl ⟨rfl,by show _=_;rw[←hg.out,cmpL_hd hz.out]⟩)⟩
      case measure=>simp[intOf]
     ·have hz':(c != 0)=true:=(by simpa using hz0);have hz:=qH (show ¬cmpI h0 g0=0 by rw[hc];exact hz0);replace hc:=qH hc;clear hz0;go_wp2;go_quiet ((go_at_call 111;exact quietOn (hq.out _)))
      go_wp2;go_ret;exact⟨ret_int (by rw[←hg.out,cmpL_ne hz.out,hc.out]),(by first|exact below_drewN (((Below.refl w.heap.size w).alloc (Nat.le_refl _) _).alloc (by simp) _) _|exact below_drewN (below_drewN (((Below.refl w.heap.size w).alloc (Nat.le_refl _) _).alloc (by simp) _) _) _|exact below_drewN (below_drewN (below_drewN (((Below.refl w.heap.size w).alloc (Nat.le_refl _) _).alloc (by simp) _) _) _) _)⟩
    ·obtain⟨c,hc⟩:=exE (cmpI h1 g1);have hq:=fun W=>cmpIntQ h1 g1 W;simp only[hc] at hq;replace hq:=qH hq;by_cases hz0:c=0
     ·subst hz0;have hz:=qH hc;clear hc;go_wp2;go_quiet ((go_at_call 111;exact quietOn (hq.out _)))
      go_wp2;go_roundw
      case rel=>exact⟨2,_,(by first|exact rfl|exact World.drewN_drewN _ _ _),rfl,.inr (.inr (.inl ⟨rfl,by show _=_;rw[←hg.out,cmpL_hd hz.out]⟩))⟩
      case measure=>simp[intOf]
     ·have hz':(c != 0)=true:=(by simpa using hz0);have hz:=qH (show ¬cmpI h1 g1=0 by rw[hc];exact hz0);replace hc:=qH hc;clear hz0;go_wp2;go_quiet ((go_at_call 111;exact quietOn (hq.out _)))
      go_wp2;go_ret;exact⟨ret_int (by rw[←hg.out,cmpL_ne hz.out,hc.out]),(by first|exact below_drewN (((Below.refl w.heap.size w).alloc (Nat.le_refl _) _).alloc (by simp) _) _|exact below_drewN (below_drewN (((Below.refl w.heap.size w).alloc (Nat.le_refl _) _).alloc (by simp) _) _) _|exact below_drewN (below_drewN (below_drewN (((Below.refl w.heap.size w).alloc (Nat.le_refl _) _).alloc (by simp) _) _) _) _)⟩
    ·obtain⟨c,hc⟩:=exE (cmpI h2 g2);have hq:=fun W=>cmpIntQ h2 g2 W;simp only[hc] at hq;replace hq:=qH hq;by_cases hz0:c=0
     ·subst hz0;have hz:=qH hc;clear hc;go_wp2;go_quiet ((go_at_call 111;exact quietOn (hq.out _)))
      go_wp2;go_roundw
      case rel=>exact⟨3,_,(by first|exact rfl|exact World.drewN_drewN _ _ _),rfl,.inr (.inr (.inr (.inl ⟨rfl,by show _=_;rw[←hg.out,cmpL_hd hz.out]⟩)))⟩
      case measure=>simp[intOf]
     ·have hz':(c != 0)=true:=(by simpa using hz0);have hz:=qH (show ¬cmpI h2 g2=0 by rw[hc];exact hz0);replace hc:=qH hc;clear hz0;go_wp2;go_quiet ((go_at_call 111;exact quietOn (hq.out _)))
      go_wp2;go_ret;exact⟨ret_int (by rw[←hg.out,cmpL_ne hz.out,hc.out]),(by first|exact below_drewN (((Below.refl w.heap.size w).alloc (Nat.le_refl _) _).alloc (by simp) _) _|exact below_drewN (below_drewN (((Below.refl w.heap.size w).alloc (Nat.le_refl _) _).alloc (by simp) _) _) _|exact below_drewN (below_drewN (below_drewN (((Below.refl w.heap.size w).alloc (Nat.le_refl _) _).alloc (by simp) _) _) _) _)⟩
    ·obtain⟨c,hc⟩:=exE (cmpI h3 g3);have hq:=fun W=>cmpIntQ h3 g3 W;simp only[hc] at hq;replace hq:=qH hq;by_cases hz0:c=0
     ·subst hz0;have hz:=qH hc;clear hc;go_wp2;go_quiet ((go_at_call 111;exact quietOn (hq.out _)))
      go_wp2;go_roundw
      case rel=>exact⟨4,_,(by first|exact rfl|exact World.drewN_drewN _ _ _),rfl,.inr (.inr (.inr (.inr (.inl ⟨rfl,by show _=_;rw[←hg.out,cmpL_hd hz.out]⟩))))⟩
      case measure=>simp[intOf]
     ·have hz':(c != 0)=true:=(by simpa using hz0);have hz:=qH (show ¬cmpI h3 g3=0 by rw[hc];exact hz0);replace hc:=qH hc;clear hz0;go_wp2;go_quiet ((go_at_call 111;exact quietOn (hq.out _)))
      go_wp2;go_ret;exact⟨ret_int (by rw[←hg.out,cmpL_ne hz.out,hc.out]),(by first|exact below_drewN (((Below.refl w.heap.size w).alloc (Nat.le_refl _) _).alloc (by simp) _) _|exact below_drewN (below_drewN (((Below.refl w.heap.size w).alloc (Nat.le_refl _) _).alloc (by simp) _) _) _|exact below_drewN (below_drewN (below_drewN (((Below.refl w.heap.size w).alloc (Nat.le_refl _) _).alloc (by simp) _) _) _) _)⟩
    ·obtain⟨c,hc⟩:=exE (cmpI h4 g4);have hq:=fun W=>cmpIntQ h4 g4 W;simp only[hc] at hq;replace hq:=qH hq;by_cases hz0:c=0
     ·subst hz0;have hz:=qH hc;clear hc;go_wp2;go_quiet ((go_at_call 111;exact quietOn (hq.out _)))
      go_wp2;go_roundw
      case rel=>exact⟨5,_,(by first|exact rfl|exact World.drewN_drewN _ _ _),rfl,.inr (.inr (.inr (.inr (.inr (⟨rfl,by show _=_;rw[←hg.out,cmpL_hd hz.out]⟩)))))⟩
      case measure=>simp[intOf]
     ·have hz':(c != 0)=true:=(by simpa using hz0);have hz:=qH (show ¬cmpI h4 g4=0 by rw[hc];exact hz0);replace hc:=qH hc;clear hz0;go_wp2;go_quiet ((go_at_call 111;exact quietOn (hq.out _)))
      go_wp2;go_ret;exact⟨ret_int (by rw[←hg.out,cmpL_ne hz.out,hc.out]),(by first|exact below_drewN (((Below.refl w.heap.size w).alloc (Nat.le_refl _) _).alloc (by simp) _) _|exact below_drewN (below_drewN (((Below.refl w.heap.size w).alloc (Nat.le_refl _) _).alloc (by simp) _) _) _|exact below_drewN (below_drewN (below_drewN (((Below.refl w.heap.size w).alloc (Nat.le_refl _) _).alloc (by simp) _) _) _) _)⟩
    ·go_wp2;go_ret;exact⟨ret_int hg.out,(by first|exact below_drewN (((Below.refl w.heap.size w).alloc (Nat.le_refl _) _).alloc (by simp) _) _|exact below_drewN (below_drewN (((Below.refl w.heap.size w).alloc (Nat.le_refl _) _).alloc (by simp) _) _) _|exact below_drewN (below_drewN (below_drewN (((Below.refl w.heap.size w).alloc (Nat.le_refl _) _).alloc (by simp) _) _) _) _)⟩
  ·have hE0:=qH (show cmpI n m=E by rw[←hE,cmpL_ne (fun h=>hn (cmpI_zero.1 h))]);have hn':(n != m)=true:=(by simpa using hn);clear hE hn;go_enter Tryz.func135, Tryz.ntmps135
   go_wp2_with (go_at_call 111;refine(cmpInt _ _ _).mono ?_;rintro e w1 ⟨rfl,rfl⟩)
   go_ret;exact⟨ret_int hE0.out,(((Below.refl w.heap.size w).alloc (Nat.le_refl _) _).alloc (by simp) _)⟩
theorem refGraphCompare (n h0 h1 h2 h3 h4 m g0 g1 g2 g3 g4:Int) (w:World):Calls Tryz.prog 138 #[.agg #[.int .i64 n,.int .i64 h0,.int .i64 h1,.int .i64 h2,.int .i64 h3,.int .i64 h4],.agg #[.int .i64 m,.int .i64 g0,.int .i64 g1,.int .i64 g2,.int .i64 g3,.int .i64 g4]] w fun e w'=>e = .returned (.int .i64 (cmpL [n,h0,h1,h2,h3,h4] [m,g0,g1,g2,g3,g4]))∧Below w.heap.size w w':=by
 obtain⟨E,hE⟩:=exE (cmpL [n,h0,h1,h2,h3,h4] [m,g0,g1,g2,g3,g4]);rw[hE];by_cases l1:n < m
 ·have hE0:=qH (show E = -1 by rw[←hE,cmpL_ne (by rw[cmpI_lt l1];decide),cmpI_lt l1]);have l1':decide (n < m)=true:=decide_eq_true l1;clear hE;go_enter Tryz.func138, Tryz.ntmps138
  go_wp2;go_ret;exact⟨ret_int hE0.out.symm,(((Below.refl w.heap.size w).alloc (Nat.le_refl _) _).alloc (by simp) _)⟩
 ·have l1':decide (n < m)=false:=decide_eq_false l1;by_cases l2:m < n
  ·have hE0:=qH (show E=1 by rw[←hE,cmpL_ne (by rw[cmpI_gt l2];decide),cmpI_gt l2]);have l2':decide (m < n)=true:=decide_eq_true l2;clear hE;go_enter Tryz.func138, Tryz.ntmps138
   go_wp2;go_ret;exact⟨ret_int hE0.out.symm,(((Below.refl w.heap.size w).alloc (Nat.le_refl _) _).alloc (by simp) _)⟩
  ·have l2':decide (m < n)=false:=decide_eq_false l2;have hE0:=qH (show cmpL [h0,h1,h2,h3,h4] [g0,g1,g2,g3,g4]=E by rw[←hE];exact(cmpL_hd (cmpI_zero.2 (show n=m by omega))).symm);clear hE l1 l2;go_enter Tryz.func138, Tryz.ntmps138
   go_wp2;go_loopw [5] (fun iv wr=>∃(k:Int) (dn:Nat),wr=((w.alloc (.cells #[.int .i64 n,.int .i64 h0,.int .i64 h1,.int .i64 h2,.int .i64 h3,.int .i64 h4] 85)).alloc (.cells #[.int .i64 m,.int .i64 g0,.int .i64 g1,.int .i64 g2,.int .i64 g3,.int .i64 g4] 85)).drewN dn∧iv = .int .i64 k∧((k=0∧Hid (cmpL [h0,h1,h2,h3,h4] [g0,g1,g2,g3,g4]=E))∨(k=1∧Hid (cmpL [h1,h2,h3,h4] [g1,g2,g3,g4]=E))∨(k=2∧Hid (cmpL [h2,h3,h4] [g2,g3,g4]=E))∨(k=3∧Hid (cmpL [h3,h4] [g3,g4]=E))∨(k=4∧Hid (cmpL [h4] [g4]=E))∨(k=5∧Hid (cmpL [] []=E)))) (fun iv _=>5 - (intOf iv).toNat)
   case atStart=>exact⟨0,0,(by first|rfl|simp),rfl,.inl ⟨rfl,hE0⟩⟩
   case round=>
    clear hE0;obtain⟨k,dn,rfl,rfl,hk⟩:=hrel;rcases hk with⟨rfl,hg⟩|⟨rfl,hg⟩|⟨rfl,hg⟩|⟨rfl,hg⟩|⟨rfl,hg⟩|⟨rfl,hg⟩
    ·by_cases l1:h0 < g0
     ·have l1':decide (h0 < g0)=true:=decide_eq_true l1;have hz:=qH (cmpI_lt l1);clear l1;go_wp2;go_quiet (fail)
      go_wp2;go_ret;exact⟨ret_int (by rw[←hg.out,cmpL_ne (by rw[hz.out];decide),hz.out]),(by first|exact below_drewN (((Below.refl w.heap.size w).alloc (Nat.le_refl _) _).alloc (by simp) _) _|exact below_drewN (below_drewN (((Below.refl w.heap.size w).alloc (Nat.le_refl _) _).alloc (by simp) _) _) _|exact below_drewN (below_drewN (below_drewN (((Below.refl w.heap.size w).alloc (Nat.le_refl _) _).alloc (by simp) _) _) _) _)⟩
     ·have l1':decide (h0 < g0)=false:=decide_eq_false l1;by_cases l2:g0 < h0
      ·have l2':decide (g0 < h0)=true:=decide_eq_true l2;have hz:=qH (cmpI_gt l2);clear l1 l2;go_wp2;go_quiet (fail)
       go_wp2;go_quiet (fail)
       go_wp2;go_ret;exact⟨ret_int (by rw[←hg.out,cmpL_ne (by rw[hz.out];decide),hz.out]),(by first|exact below_drewN (((Below.refl w.heap.size w).alloc (Nat.le_refl _) _).alloc (by simp) _) _|exact below_drewN (below_drewN (((Below.refl w.heap.size w).alloc (Nat.le_refl _) _).alloc (by simp) _) _) _|exact below_drewN (below_drewN (below_drewN (((Below.refl w.heap.size w).alloc (Nat.le_refl _) _).alloc (by simp) _) _) _) _)⟩
      ·have l2':decide (g0 < h0)=false:=decide_eq_false l2;have hz:=qH (cmpI_zero.2 (show h0=g0 by omega));clear l1 l2;go_wp2;go_quiet (fail)
       go_wp2;go_quiet (fail)
       go_wp2;go_roundw
       case rel=>exact⟨1,_,(by first|exact rfl|exact World.drewN_drewN _ _ _),rfl,.inr (.inl ⟨rfl,by show _=_;rw[←hg.out,cmpL_hd hz.out]⟩)⟩
       case measure=>simp[intOf]
    ·by_cases l1:h1 < g1
     ·have l1':decide (h1 < g1)=true:=decide_eq_true l1;have hz:=qH (cmpI_lt l1);clear l1;go_wp2;go_quiet (fail)
      go_wp2;go_ret;exact⟨ret_int (by rw[←hg.out,cmpL_ne (by rw[hz.out];decide),hz.out]),(by first|exact below_drewN (((Below.refl w.heap.size w).alloc (Nat.le_refl _) _).alloc (by simp) _) _|exact below_drewN (below_drewN (((Below.refl w.heap.size w).alloc (Nat.le_refl _) _).alloc (by simp) _) _) _|exact below_drewN (below_drewN (below_drewN (((Below.refl w.heap.size w).alloc (Nat.le_refl _) _).alloc (by simp) _) _) _) _)⟩
     ·have l1':decide (h1 < g1)=false:=decide_eq_false l1;by_cases l2:g1 < h1
      ·have l2':decide (g1 < h1)=true:=decide_eq_true l2;have hz:=qH (cmpI_gt l2);clear l1 l2;go_wp2;go_quiet (fail)
       go_wp2;go_quiet (fail)
       go_wp2;go_ret;exact⟨ret_int (by rw[←hg.out,cmpL_ne (by rw[hz.out];decide),hz.out]),(by first|exact below_drewN (((Below.refl w.heap.size w).alloc (Nat.le_refl _) _).alloc (by simp) _) _|exact below_drewN (below_drewN (((Below.refl w.heap.size w).alloc (Nat.le_refl _) _).alloc (by simp) _) _) _|exact below_drewN (below_drewN (below_drewN (((Below.refl w.heap.size w).alloc (Nat.le_refl _) _).alloc (by simp) _) _) _) _)⟩
      ·have l2':decide (g1 < h1)=false:=decide_eq_false l2;have hz:=qH (cmpI_zero.2 (show h1=g1 by omega));clear l1 l2;go_wp2;go_quiet (fail)
       go_wp2;go_quiet (fail)
       go_wp2;go_roundw
       case rel=>exact⟨2,_,(by first|exact rfl|exact World.drewN_drewN _ _ _),rfl,.inr (.inr (.inl ⟨rfl,by show _=_;rw[←hg.out,cmpL_hd hz.out]⟩))⟩
       case measure=>simp[intOf]
    ·by_cases l1:h2 < g2
     ·have l1':decide (h2 < g2)=true:=decide_eq_true l1;have hz:=qH (cmpI_lt l1);clear l1;go_wp2;go_quiet (fail)
      go_wp2;go_ret;exact⟨ret_int (by rw[←hg.out,cmpL_ne (by rw[hz.out];decide),hz.out]),(by first|exact below_drewN (((Below.refl w.heap.size w).alloc (Nat.le_refl _) _).alloc (by simp) _) _|exact below_drewN (below_drewN (((Below.refl w.heap.size w).alloc (Nat.le_refl _) _).alloc (by simp) _) _) _|exact below_drewN (below_drewN (below_drewN (((Below.refl w.heap.size w).alloc (Nat.le_refl _) _).alloc (by simp) _) _) _) _)⟩
     ·have l1':decide (h2 < g2)=false:=decide_eq_false l1;by_cases l2:g2 < h2
      ·have l2':decide (g2 < h2)=true:=decide_eq_true l2;have hz:=qH (cmpI_gt l2);clear l1 l2;go_wp2;go_quiet (fail)
       go_wp2;go_quiet (fail)
       go_wp2;go_ret;exact⟨ret_int (by rw[←hg.out,cmpL_ne (by rw[hz.out];decide),hz.out]),(by first|exact below_drewN (((Below.refl w.heap.size w).alloc (Nat.le_refl _) _).alloc (by simp) _) _|exact below_drewN (below_drewN (((Below.refl w.heap.size w).alloc (Nat.le_refl _) _).alloc (by simp) _) _) _|exact below_drewN (below_drewN (below_drewN (((Below.refl w.heap.size w).alloc (Nat.le_refl _) _).alloc (by simp) _) _) _) _)⟩
      ·have l2':decide (g2 < h2)=false:=decide_eq_false l2;have hz:=qH (cmpI_zero.2 (show h2=g2 by omega));clear l1 l2;go_wp2;go_quiet (fail)
       go_wp2;go_quiet (fail)
       go_wp2;go_roundw
       case rel=>exact⟨3,_,(by first|exact rfl|exact World.drewN_drewN _ _ _),rfl,.inr (.inr (.inr (.inl ⟨rfl,by show _=_;rw[←hg.out,cmpL_hd hz.out]⟩)))⟩
       case measure=>simp[intOf]
    ·by_cases l1:h3 < g3
     ·have l1':decide (h3 < g3)=true:=decide_eq_true l1;have hz:=qH (cmpI_lt l1);clear l1;go_wp2;go_quiet (fail)
      go_wp2;go_ret;exact⟨ret_int (by rw[←hg.out,cmpL_ne (by rw[hz.out];decide),hz.out]),(by first|exact below_drewN (((Below.refl w.heap.size w).alloc (Nat.le_refl _) _).alloc (by simp) _) _|exact below_drewN (below_drewN (((Below.refl w.heap.size w).alloc (Nat.le_refl _) _).alloc (by simp) _) _) _|exact below_drewN (below_drewN (below_drewN (((Below.refl w.heap.size w).alloc (Nat.le_refl _) _).alloc (by simp) _) _) _) _)⟩
     ·have l1':decide (h3 < g3)=false:=decide_eq_false l1;by_cases l2:g3 < h3
      ·have l2':decide (g3 < h3)=true:=decide_eq_true l2;have hz:=qH (cmpI_gt l2);clear l1 l2;go_wp2;go_quiet (fail)
       go_wp2;go_quiet (fail)
       go_wp2;go_ret;exact⟨ret_int (by rw[←hg.out,cmpL_ne (by rw[hz.out];decide),hz.out]),(by first|exact below_drewN (((Below.refl w.heap.size w).alloc (Nat.le_refl _) _).alloc (by simp) _) _|exact below_drewN (below_drewN (((Below.refl w.heap.size w).alloc (Nat.le_refl _) _).alloc (by simp) _) _) _|exact below_drewN (below_drewN (below_drewN (((Below.refl w.heap.size w).alloc (Nat.le_refl _) _).alloc (by simp) _) _) _) _)⟩
      ·have l2':decide (g3 < h3)=false:=decide_eq_false l2;have hz:=qH (cmpI_zero.2 (show h3=g3 by omega));clear l1 l2;go_wp2;go_quiet (fail)
       go_wp2;go_quiet (fail)
       go_wp2;go_roundw
       case rel=>exact⟨4,_,(by first|exact rfl|exact World.drewN_drewN _ _ _),rfl,.inr (.inr (.inr (.inr (.inl ⟨rfl,by show _=_;rw[←hg.out,cmpL_hd hz.out]⟩))))⟩
       case measure=>simp[intOf]
    ·by_cases l1:h4 < g4
     ·have l1':decide (h4 < g4)=true:=decide_eq_true l1;have hz:=qH (cmpI_lt l1);clear l1;go_wp2;go_quiet (fail)
      go_wp2;go_ret;exact⟨ret_int (by rw[←hg.out,cmpL_ne (by rw[hz.out];decide),hz.out]),(by first|exact below_drewN (((Below.refl w.heap.size w).alloc (Nat.le_refl _) _).alloc (by simp) _) _|exact below_drewN (below_drewN (((Below.refl w.heap.size w).alloc (Nat.le_refl _) _).alloc (by simp) _) _) _|exact below_drewN (below_drewN (below_drewN (((Below.refl w.heap.size w).alloc (Nat.le_refl _) _).alloc (by simp) _) _) _) _)⟩
     ·have l1':decide (h4 < g4)=false:=decide_eq_false l1;by_cases l2:g4 < h4
      ·have l2':decide (g4 < h4)=true:=decide_eq_true l2;have hz:=qH (cmpI_gt l2);clear l1 l2;go_wp2;go_quiet (fail)
       go_wp2;go_quiet (fail)
       go_wp2;go_ret;exact⟨ret_int (by rw[←hg.out,cmpL_ne (by rw[hz.out];decide),hz.out]),(by first|exact below_drewN (((Below.refl w.heap.size w).alloc (Nat.le_refl _) _).alloc (by simp) _) _|exact below_drewN (below_drewN (((Below.refl w.heap.size w).alloc (Nat.le_refl _) _).alloc (by simp) _) _) _|exact below_drewN (below_drewN (below_drewN (((Below.refl w.heap.size w).alloc (Nat.le_refl _) _).alloc (by simp) _) _) _) _)⟩
      ·have l2':decide (g4 < h4)=false:=decide_eq_false l2;have hz:=qH (cmpI_zero.2 (show h4=g4 by omega));clear l1 l2;go_wp2;go_quiet (fail)
       go_wp2;go_quiet (fail)
       go_wp2;go_roundw
       case rel=>exact⟨5,_,(by first|exact rfl|exact World.drewN_drewN _ _ _),rfl,.inr (.inr (.inr (.inr (.inr (⟨rfl,by show _=_;rw[←hg.out,cmpL_hd hz.out]⟩)))))⟩
       case measure=>simp[intOf]
    ·go_wp2;go_ret;exact⟨ret_int hg.out,(by first|exact below_drewN (((Below.refl w.heap.size w).alloc (Nat.le_refl _) _).alloc (by simp) _) _|exact below_drewN (below_drewN (((Below.refl w.heap.size w).alloc (Nat.le_refl _) _).alloc (by simp) _) _) _|exact below_drewN (below_drewN (below_drewN (((Below.refl w.heap.size w).alloc (Nat.le_refl _) _).alloc (by simp) _) _) _) _)⟩
theorem chkSet_1 {n x:Int}(h:n < 1∨5 < n):chkSet n x=1:=by rw[chkSet,procE,if_pos h];rfl
theorem chkSet_2 {n x:Int}(h1:1≤n) (h5:n≤5) (h:x < 0∨twoI n≤x):chkSet n x=2:=by rw[chkSet,procE,if_neg (show ¬(n < 1∨5 < n) by omega),if_neg (by decide),if_pos h]
theorem chkSet_0 {n x:Int}(h1:1≤n) (h5:n≤5) (h:0≤x∧x < twoI n):chkSet n x=0:=by rw[chkSet,procE,if_neg (show ¬(n < 1∨5 < n) by omega),if_neg (by decide),if_neg (by omega)]
theorem setCheck (n x:Int) (w:World):Calls Tryz.prog 130 #[.int .i64 n,.int .i64 x] w fun e w'=>e = .returned (.int .i64 (chkSet n x))∧w=w':=by
 have HP:=procs n w;by_cases hn:n < 1∨5 < n
 ·rw[procE,if_pos hn] at HP;replace HP:=qH HP;have hE:=qH (chkSet_1 (x:=x) hn);clear hn;go_enter Tryz.func130, Tryz.ntmps130
  go_wp2_with (go_at_call 181;refine HP.out.mono ?_;rintro e w1 ⟨rfl,rfl⟩)
  go_ret;exact⟨ret_int hE.out.symm,rfl⟩
 ·rw[procE,if_neg hn] at HP;replace HP:=qH HP;have g1:1≤n:=by omega
  have g5:n≤5:=by omega
  clear hn;by_cases h0:x < 0
  ·have hE:=qH (chkSet_2 g1 g5 (.inl h0));have h0':decide (x < 0)=true:=decide_eq_true h0;go_enter Tryz.func130, Tryz.ntmps130
   go_wp2_with (go_at_call 181;refine HP.out.mono ?_;rintro e w1 ⟨rfl,rfl⟩)
   go_ret;exact⟨ret_int hE.out.symm,rfl⟩
  ·have h0':decide (x < 0)=false:=decide_eq_false h0;rcases powN n g1 g5 with rfl|rfl|rfl|rfl|rfl
   ·by_cases hx:2≤x
    ·have hE:=qH (chkSet_2 (n:=1) g1 g5 (.inr (show twoI 1≤x from hx)))
     have hx':(x / 2 != 0)=true:=by
      have:x / 2 ≠ 0:=by omega
      simpa using this
     go_enter Tryz.func130, Tryz.ntmps130
     go_wp2_with (go_at_call 181;refine HP.out.mono ?_;rintro e w1 ⟨rfl,rfl⟩)
     go_ret;exact⟨ret_int hE.out.symm,rfl⟩
    ·have hE:=qH (chkSet_0 (n:=1) g1 g5 (show 0≤x∧x < twoI 1 from ⟨by omega,show x < 2 by omega⟩))
     have hx':(x / 2 != 0)=false:=by
      have:x / 2=0:=by omega
      simp[this]
     go_enter Tryz.func130, Tryz.ntmps130
     go_wp2_with (go_at_call 181;refine HP.out.mono ?_;rintro e w1 ⟨rfl,rfl⟩)
     go_ret;exact⟨ret_int hE.out.symm,rfl⟩
   ·by_cases hx:4≤x
    ·have hE:=qH (chkSet_2 (n:=2) g1 g5 (.inr (show twoI 2≤x from hx)))
     have hx':(x / 4 != 0)=true:=by
      have:x / 4 ≠ 0:=by omega
      simpa using this
     go_enter Tryz.func130, Tryz.ntmps130
     go_wp2_with (go_at_call 181;refine HP.out.mono ?_;rintro e w1 ⟨rfl,rfl⟩)
     go_ret;exact⟨ret_int hE.out.symm,rfl⟩
    ·have hE:=qH (chkSet_0 (n:=2) g1 g5 (show 0≤x∧x < twoI 2 from ⟨by omega,show x < 4 by omega⟩))
     have hx':(x / 4 != 0)=false:=by
      have:x / 4=0:=by omega
      simp[this]
     go_enter Tryz.func130, Tryz.ntmps130
     go_wp2_with (go_at_call 181;refine HP.out.mono ?_;rintro e w1 ⟨rfl,rfl⟩)
     go_ret;exact⟨ret_int hE.out.symm,rfl⟩
   ·by_cases hx:8≤x
    ·have hE:=qH (chkSet_2 (n:=3) g1 g5 (.inr (show twoI 3≤x from hx)))
     have hx':(x / 8 != 0)=true:=by
      have:x / 8 ≠ 0:=by omega
      simpa using this
     go_enter Tryz.func130, Tryz.ntmps130
     go_wp2_with (go_at_call 181;refine HP.out.mono ?_;rintro e w1 ⟨rfl,rfl⟩)
     go_ret;exact⟨ret_int hE.out.symm,rfl⟩
    ·have hE:=qH (chkSet_0 (n:=3) g1 g5 (show 0≤x∧x < twoI 3 from ⟨by omega,show x < 8 by omega⟩))
     have hx':(x / 8 != 0)=false:=by
      have:x / 8=0:=by omega
      simp[this]
     go_enter Tryz.func130, Tryz.ntmps130
     go_wp2_with (go_at_call 181;refine HP.out.mono ?_;rintro e w1 ⟨rfl,rfl⟩)
     go_ret;exact⟨ret_int hE.out.symm,rfl⟩
   ·by_cases hx:16≤x
    ·have hE:=qH (chkSet_2 (n:=4) g1 g5 (.inr (show twoI 4≤x from hx)))
     have hx':(x / 16 != 0)=true:=by
      have:x / 16 ≠ 0:=by omega
      simpa using this
     go_enter Tryz.func130, Tryz.ntmps130
     go_wp2_with (go_at_call 181;refine HP.out.mono ?_;rintro e w1 ⟨rfl,rfl⟩)
     go_ret;exact⟨ret_int hE.out.symm,rfl⟩
    ·have hE:=qH (chkSet_0 (n:=4) g1 g5 (show 0≤x∧x < twoI 4 from ⟨by omega,show x < 16 by omega⟩))
     have hx':(x / 16 != 0)=false:=by
      have:x / 16=0:=by omega
      simp[this]
     go_enter Tryz.func130, Tryz.ntmps130
     go_wp2_with (go_at_call 181;refine HP.out.mono ?_;rintro e w1 ⟨rfl,rfl⟩)
     go_ret;exact⟨ret_int hE.out.symm,rfl⟩
   ·by_cases hx:32≤x
    ·have hE:=qH (chkSet_2 (n:=5) g1 g5 (.inr (show twoI 5≤x from hx)))
     have hx':(x / 32 != 0)=true:=by
      have:x / 32 ≠ 0:=by omega
      simpa using this
     go_enter Tryz.func130, Tryz.ntmps130
     go_wp2_with (go_at_call 181;refine HP.out.mono ?_;rintro e w1 ⟨rfl,rfl⟩)
     go_ret;exact⟨ret_int hE.out.symm,rfl⟩
    ·have hE:=qH (chkSet_0 (n:=5) g1 g5 (show 0≤x∧x < twoI 5 from ⟨by omega,show x < 32 by omega⟩))
     have hx':(x / 32 != 0)=false:=by
      have:x / 32=0:=by omega
      simp[this]
     go_enter Tryz.func130, Tryz.ntmps130
     go_wp2_with (go_at_call 181;refine HP.out.mono ?_;rintro e w1 ⟨rfl,rfl⟩)
     go_ret;exact⟨ret_int hE.out.symm,rfl⟩
theorem refSetCheck (n x:Int) (w:World):Calls Tryz.prog 126 #[.int .i64 n,.int .i64 x] w fun e w'=>e = .returned (.int .i64 (chkSet n x))∧w=w':=by
 have HP:=refProcs n w;by_cases hn:n < 1∨5 < n
 ·rw[procE,if_pos hn] at HP;replace HP:=qH HP;have hE:=qH (chkSet_1 (x:=x) hn);clear hn;go_enter Tryz.func126, Tryz.ntmps126
  go_wp2_with (go_at_call 88;refine HP.out.mono ?_;rintro e w1 ⟨rfl,rfl⟩)
  go_ret;exact⟨ret_int hE.out.symm,rfl⟩
 ·rw[procE,if_neg hn] at HP;replace HP:=qH HP;have g1:1≤n:=by omega
  have g5:n≤5:=by omega
  clear hn;by_cases h0:x < 0
  ·have hE:=qH (chkSet_2 g1 g5 (.inl h0));have h0':decide (x < 0)=true:=decide_eq_true h0;go_enter Tryz.func126, Tryz.ntmps126
   go_wp2_with (go_at_call 88;refine HP.out.mono ?_;rintro e w1 ⟨rfl,rfl⟩)
   go_ret;exact⟨ret_int hE.out.symm,rfl⟩
  ·have h0':decide (x < 0)=false:=decide_eq_false h0;obtain⟨t,ht⟩:=exE (twoI n);have hpw:=powerCall n;rw[ht] at hpw;by_cases hx:t≤x
   ·have hE:=qH (chkSet_2 g1 g5 (.inr (show twoI n≤x by omega)));have hx':decide (t≤x)=true:=decide_eq_true hx;replace hpw:=qH (fun W=>hpw W (by omega) g5);clear ht;go_enter Tryz.func126, Tryz.ntmps126
    go_wp2_with (first|(go_at_call 88;refine HP.out.mono ?_;rintro e w1 ⟨rfl,rfl⟩)|(go_at_call 179;refine(hpw.out _).mono ?_;rintro e w2 ⟨rfl,rfl⟩))
    go_ret;exact⟨ret_int hE.out.symm,rfl⟩
   ·have hE:=qH (chkSet_0 g1 g5 (show 0≤x∧x < twoI n by omega));have hx':decide (t≤x)=false:=decide_eq_false hx;replace hpw:=qH (fun W=>hpw W (by omega) g5);clear ht;go_enter Tryz.func126, Tryz.ntmps126
    go_wp2_with (first|(go_at_call 88;refine HP.out.mono ?_;rintro e w1 ⟨rfl,rfl⟩)|(go_at_call 179;refine(hpw.out _).mono ?_;rintro e w2 ⟨rfl,rfl⟩))
    go_ret;exact⟨ret_int hE.out.symm,rfl⟩
def chkRd (r:List Int):Int:=if chkGr (r.getD 0 0) ((r.drop 1).take 5) ≠ 0 then chkGr (r.getD 0 0) ((r.drop 1).take 5) else chkSet (r.getD 0 0) (r.getD 6 0)
theorem chkRd_1 {n h0 h1 h2 h3 h4 f:Int}(h:chkGr n [h0,h1,h2,h3,h4] ≠ 0):chkRd [n,h0,h1,h2,h3,h4,f]=chkGr n [h0,h1,h2,h3,h4]:=if_pos h
theorem chkRd_2 {n h0 h1 h2 h3 h4 f:Int}(h:chkGr n [h0,h1,h2,h3,h4]=0):chkRd [n,h0,h1,h2,h3,h4,f]=chkSet n f:=if_neg (fun k=>k h)
theorem boxCells {w:World}{cs:Array Value}{t:TypeId}{j:Nat}{v:Value}(h:cs[j]? = some v):(w.alloc (.cells cs t)).cell? ⟨w.heap.size,j,none⟩=some v:=by
 rw[cell_of_row _ w.heap.size j cs t (0,0) (heap_alloc_new w _)];exact h
theorem roundCheck (n h0 h1 h2 h3 h4 f:Int) (w:World):Calls Tryz.prog 94 #[.agg #[.int .i64 n,.int .i64 h0,.int .i64 h1,.int .i64 h2,.int .i64 h3,.int .i64 h4,.int .i64 f]] w fun e w'=>e = .returned (.int .i64 (chkRd [n,h0,h1,h2,h3,h4,f]))∧Below w.heap.size w w':=by
 have HG:=fun W=>graphCheck n h0 h1 h2 h3 h4 W;have hb:Below w.heap.size w (w.alloc (.cells #[.int .i64 n,.int .i64 h0,.int .i64 h1,.int .i64 h2,.int .i64 h3,.int .i64 h4,.int .i64 f] 87)):=(Below.refl _ _).alloc (Nat.le_refl _) _;by_cases hz:chkGr n [h0,h1,h2,h3,h4]=0
 ·have hE:=qH (chkRd_2 (f:=f) hz);simp only[hz] at HG;replace HG:=qH HG;clear hz;go_enter Tryz.func94, Tryz.ntmps94
  go_wp2_with fail
  refine(HG.out _).mono ?_;rintro e w1 ⟨rfl,hb1⟩;have c0:w1.cell? ⟨w.heap.size,0,none⟩=some (.int .i64 n):=cell_kept hb1 (boxCells rfl);have c6:w1.cell? ⟨w.heap.size,6,none⟩=some (.int .i64 f):=cell_kept hb1 (boxCells rfl);have hs:w1.heap[w.heap.size]? = some (.cells #[.int .i64 n,.int .i64 h0,.int .i64 h1,.int .i64 h2,.int .i64 h3,.int .i64 h4,.int .i64 f] 87):=(hb1.block _ (by simp)).trans (heap_alloc_new w _);go_wp2_with fail
  refine(setCheck n f _).mono ?_;rintro e w2 ⟨rfl,rfl⟩;go_wp2;go_ret;exact⟨ret_int hE.out.symm,bt hb hb1 hb.size⟩
 ·have hE:=qH (chkRd_1 (f:=f) hz);obtain⟨E,hEE⟩:=exE (chkGr n [h0,h1,h2,h3,h4]);rw[hEE] at hz hE;simp only[hEE] at HG;replace HG:=qH HG;have hz':(E != 0)=true:=by simpa using hz
  clear hEE hz;go_enter Tryz.func94, Tryz.ntmps94
  go_wp2_with fail
  refine(HG.out _).mono ?_;rintro e w1 ⟨rfl,hb1⟩;go_wp2;go_ret;exact⟨ret_int hE.out.symm,bt hb hb1 hb.size⟩
theorem refRoundCheck (n h0 h1 h2 h3 h4 f:Int) (w:World):Calls Tryz.prog 89 #[.agg #[.int .i64 n,.int .i64 h0,.int .i64 h1,.int .i64 h2,.int .i64 h3,.int .i64 h4,.int .i64 f]] w fun e w'=>e = .returned (.int .i64 (chkRd [n,h0,h1,h2,h3,h4,f]))∧Below w.heap.size w w':=by
 have HG:=fun W=>refGraphCheck n h0 h1 h2 h3 h4 W;have hb:Below w.heap.size w (w.alloc (.cells #[.int .i64 n,.int .i64 h0,.int .i64 h1,.int .i64 h2,.int .i64 h3,.int .i64 h4,.int .i64 f] 87)):=(Below.refl _ _).alloc (Nat.le_refl _) _;by_cases hz:chkGr n [h0,h1,h2,h3,h4]=0
 ·have hE:=qH (chkRd_2 (f:=f) hz);simp only[hz] at HG;replace HG:=qH HG;clear hz;go_enter Tryz.func89, Tryz.ntmps89
  go_wp2_with fail
  refine(HG.out _).mono ?_;rintro e w1 ⟨rfl,hb1⟩;have c0:w1.cell? ⟨w.heap.size,0,none⟩=some (.int .i64 n):=cell_kept hb1 (boxCells rfl);have c6:w1.cell? ⟨w.heap.size,6,none⟩=some (.int .i64 f):=cell_kept hb1 (boxCells rfl);have hs:w1.heap[w.heap.size]? = some (.cells #[.int .i64 n,.int .i64 h0,.int .i64 h1,.int .i64 h2,.int .i64 h3,.int .i64 h4,.int .i64 f] 87):=(hb1.block _ (by simp)).trans (heap_alloc_new w _);go_wp2_with fail
  refine(refSetCheck n f _).mono ?_;rintro e w2 ⟨rfl,rfl⟩;go_wp2;go_ret;exact⟨ret_int hE.out.symm,bt hb hb1 hb.size⟩
 ·have hE:=qH (chkRd_1 (f:=f) hz);obtain⟨E,hEE⟩:=exE (chkGr n [h0,h1,h2,h3,h4]);rw[hEE] at hz hE;simp only[hEE] at HG;replace HG:=qH HG;have hz':(E != 0)=true:=by simpa using hz
  clear hEE hz;go_enter Tryz.func89, Tryz.ntmps89
  go_wp2_with fail
  refine(HG.out _).mono ?_;rintro e w1 ⟨rfl,hb1⟩;go_wp2;go_ret;exact⟨ret_int hE.out.symm,bt hb hb1 hb.size⟩
theorem cmpL_snoc {f g:Int}:∀ {x y:List Int},x.length=y.length→cmpL (x ++ [f]) (y ++ [g])=if cmpL x y=0 then cmpI f g else cmpL x y
 | [],[],_=>by
  show cmpL [f] [g]=if (0:Int)=0 then cmpI f g else 0
  rw[if_pos rfl,cmpL];by_cases h:cmpI f g=0
  ·rw[if_pos h,h];rfl
  ·rw[if_neg h]
 | a::x,b::y,h=>by
  rw[List.cons_append,List.cons_append,cmpL,cmpL];by_cases hc:cmpI a b=0
  ·rw[if_pos hc,if_pos hc];exact cmpL_snoc (by simpa using h)
  ·rw[if_neg hc,if_neg hc,if_neg hc]
theorem cmpL_zero:∀ {x y:List Int},cmpL x y=0↔x=y
 | [],[]=>by simp[cmpL]
 | [],b::y=>by simp[cmpL]
 | a::x,[]=>by simp[cmpL]
 | a::x,b::y=>by
  rw[cmpL];by_cases hc:cmpI a b=0
  ·rw[if_pos hc,cmpL_zero];have:=cmpI_zero.1 hc
   simp[this]
  ·rw[if_neg hc];constructor
   ·intro h;exact absurd h hc
   ·intro h;injection h with h1 h2;exact absurd (cmpI_zero.2 h1) hc
theorem cmp7_1 {n h0 h1 h2 h3 h4 f m g0 g1 g2 g3 g4 g:Int}(h : [n,h0,h1,h2,h3,h4] ≠ [m,g0,g1,g2,g3,g4]):cmpL [n,h0,h1,h2,h3,h4,f] [m,g0,g1,g2,g3,g4,g]=cmpL [n,h0,h1,h2,h3,h4] [m,g0,g1,g2,g3,g4]:=by
 have:=cmpL_snoc (f:=f) (g:=g) (x:=[n,h0,h1,h2,h3,h4]) (y:=[m,g0,g1,g2,g3,g4]) rfl
 rw[if_neg (fun k=>h (cmpL_zero.1 k))] at this;exact this
theorem cmp7_2 {n h0 h1 h2 h3 h4 f m g0 g1 g2 g3 g4 g:Int}(h : [n,h0,h1,h2,h3,h4] = [m,g0,g1,g2,g3,g4]):cmpL [n,h0,h1,h2,h3,h4,f] [m,g0,g1,g2,g3,g4,g]=cmpI f g:=by
 have:=cmpL_snoc (f:=f) (g:=g) (x:=[n,h0,h1,h2,h3,h4]) (y:=[m,g0,g1,g2,g3,g4]) rfl
 rw[if_pos (cmpL_zero.2 h)] at this;exact this
theorem roundCompare (n h0 h1 h2 h3 h4 f m g0 g1 g2 g3 g4 g:Int) (w:World):Calls Tryz.prog 101 #[.agg #[.int .i64 n,.int .i64 h0,.int .i64 h1,.int .i64 h2,.int .i64 h3,.int .i64 h4,.int .i64 f],.agg #[.int .i64 m,.int .i64 g0,.int .i64 g1,.int .i64 g2,.int .i64 g3,.int .i64 g4,.int .i64 g]] w fun e w'=>e = .returned (.int .i64 (cmpL [n,h0,h1,h2,h3,h4,f] [m,g0,g1,g2,g3,g4,g]))∧Below w.heap.size w w':=by
 have hb:Below w.heap.size w ((w.alloc (.cells #[.int .i64 n,.int .i64 h0,.int .i64 h1,.int .i64 h2,.int .i64 h3,.int .i64 h4,.int .i64 f] 87)).alloc (.cells #[.int .i64 m,.int .i64 g0,.int .i64 g1,.int .i64 g2,.int .i64 g3,.int .i64 g4,.int .i64 g] 87)):=((Below.refl _ _).alloc (Nat.le_refl _) _).alloc (by simp) _;have HG:=qH (fun W=>graphCompare n h0 h1 h2 h3 h4 m g0 g1 g2 g3 g4 W);by_cases he : [n,h0,h1,h2,h3,h4,f] = [m,g0,g1,g2,g3,g4,g]
 ·have hE:=qH (show cmpL [n,h0,h1,h2,h3,h4,f] [m,g0,g1,g2,g3,g4,g]=0 from cmpL_zero.2 he);have he':=qH (eqL_true.2 he);clear he;go_enter Tryz.func101, Tryz.ntmps101
  have he1:=he'.out;go_wp2;go_ret;exact⟨ret_int hE.out.symm,hb⟩
 ·have he':=eqL_false.2 he;clear he;by_cases hg : [n,h0,h1,h2,h3,h4] = [m,g0,g1,g2,g3,g4]
  ·have hE:=qH (cmp7_2 (f:=f) (g:=g) hg);have hg':=qH (eqL_true.2 hg);clear hg;go_enter Tryz.func101, Tryz.ntmps101
   have hg1:=hg'.out;go_wp2_with fail
   refine(cmpInt f g _).mono ?_;rintro e w1 ⟨rfl,rfl⟩;go_wp2;go_ret;exact⟨ret_int hE.out.symm,hb⟩
  ·have hE:=qH (cmp7_1 (f:=f) (g:=g) hg);have hg':=eqL_false.2 hg;clear hg;go_enter Tryz.func101, Tryz.ntmps101
   go_wp2_with fail
   refine(HG.out _).mono ?_;rintro e w1 ⟨rfl,hb1⟩;go_wp2;go_ret;exact⟨ret_int hE.out.symm,bt hb hb1 hb.size⟩
theorem refRoundCompare (n h0 h1 h2 h3 h4 f m g0 g1 g2 g3 g4 g:Int) (w:World):Calls Tryz.prog 103 #[.agg #[.int .i64 n,.int .i64 h0,.int .i64 h1,.int .i64 h2,.int .i64 h3,.int .i64 h4,.int .i64 f],.agg #[.int .i64 m,.int .i64 g0,.int .i64 g1,.int .i64 g2,.int .i64 g3,.int .i64 g4,.int .i64 g]] w fun e w'=>e = .returned (.int .i64 (cmpL [n,h0,h1,h2,h3,h4,f] [m,g0,g1,g2,g3,g4,g]))∧Below w.heap.size w w':=by
 have hb:Below w.heap.size w ((w.alloc (.cells #[.int .i64 n,.int .i64 h0,.int .i64 h1,.int .i64 h2,.int .i64 h3,.int .i64 h4,.int .i64 f] 87)).alloc (.cells #[.int .i64 m,.int .i64 g0,.int .i64 g1,.int .i64 g2,.int .i64 g3,.int .i64 g4,.int .i64 g] 87)):=((Below.refl _ _).alloc (Nat.le_refl _) _).alloc (by simp) _;have HG:=fun W=>refGraphCompare n h0 h1 h2 h3 h4 m g0 g1 g2 g3 g4 W;have hs0:((w.alloc (.cells #[.int .i64 n,.int .i64 h0,.int .i64 h1,.int .i64 h2,.int .i64 h3,.int .i64 h4,.int .i64 f] 87)).alloc (.cells #[.int .i64 m,.int .i64 g0,.int .i64 g1,.int .i64 g2,.int .i64 g3,.int .i64 g4,.int .i64 g] 87)).heap[w.heap.size]? = some (.cells #[.int .i64 n,.int .i64 h0,.int .i64 h1,.int .i64 h2,.int .i64 h3,.int .i64 h4,.int .i64 f] 87):=(Below.heap_alloc _ _ _ (by simp)).trans (heap_alloc_new w _);have hs1:((w.alloc (.cells #[.int .i64 n,.int .i64 h0,.int .i64 h1,.int .i64 h2,.int .i64 h3,.int .i64 h4,.int .i64 f] 87)).alloc (.cells #[.int .i64 m,.int .i64 g0,.int .i64 g1,.int .i64 g2,.int .i64 g3,.int .i64 g4,.int .i64 g] 87)).heap[w.heap.size+1]? = some (.cells #[.int .i64 m,.int .i64 g0,.int .i64 g1,.int .i64 g2,.int .i64 g3,.int .i64 g4,.int .i64 g] 87):=by have:=heap_alloc_new (w.alloc (.cells #[.int .i64 n,.int .i64 h0,.int .i64 h1,.int .i64 h2,.int .i64 h3,.int .i64 h4,.int .i64 f] 87)) (.cells #[.int .i64 m,.int .i64 g0,.int .i64 g1,.int .i64 g2,.int .i64 g3,.int .i64 g4,.int .i64 g] 87);rwa [World.size_alloc] at this
 by_cases hg : [n,h0,h1,h2,h3,h4] = [m,g0,g1,g2,g3,g4]
 ·have hE:=qH (cmp7_2 (f:=f) (g:=g) hg);simp only[cmpL_zero.2 hg] at HG;replace HG:=qH HG;clear hg;replace hs0:=qH hs0;replace hs1:=qH hs1;by_cases l1:f < g
  ·have l1':decide (f < g)=true:=decide_eq_true l1;have hc:=qH (cmpI_lt l1);clear l1;go_enter Tryz.func103, Tryz.ntmps103
   go_wp2_with fail
   refine(HG.out _).mono ?_;rintro e w1 ⟨rfl,hb1⟩;have k0:=(hb1.block _ (by simp;omega)).trans hs0.out;have k1:=(hb1.block _ (by simp)).trans hs1.out;have c0:w1.cell? ⟨w.heap.size,6,none⟩=some (.int .i64 f):=(by rw[cell_of_row _ _ 6 _ _ _ k0];rfl);have c1:w1.cell? ⟨w.heap.size+1,6,none⟩=some (.int .i64 g):=(by rw[cell_of_row _ _ 6 _ _ _ k1];rfl);go_wp2;go_ret;exact⟨ret_int (by rw[hE.out,hc.out]),bt hb hb1 hb.size⟩
  ·have l1':decide (f < g)=false:=decide_eq_false l1;by_cases l2:g < f
   ·have l2':decide (g < f)=true:=decide_eq_true l2;have hc:=qH (cmpI_gt l2);clear l1 l2;go_enter Tryz.func103, Tryz.ntmps103
    go_wp2_with fail
    refine(HG.out _).mono ?_;rintro e w1 ⟨rfl,hb1⟩;have k0:=(hb1.block _ (by simp;omega)).trans hs0.out;have k1:=(hb1.block _ (by simp)).trans hs1.out;have c0:w1.cell? ⟨w.heap.size,6,none⟩=some (.int .i64 f):=(by rw[cell_of_row _ _ 6 _ _ _ k0];rfl);have c1:w1.cell? ⟨w.heap.size+1,6,none⟩=some (.int .i64 g):=(by rw[cell_of_row _ _ 6 _ _ _ k1];rfl);go_wp2;go_ret;exact⟨ret_int (by rw[hE.out,hc.out]),bt hb hb1 hb.size⟩
   ·have l2':decide (g < f)=false:=decide_eq_false l2;have hc:=qH (cmpI_zero.2 (show f=g by omega));clear l1 l2;go_enter Tryz.func103, Tryz.ntmps103
    go_wp2_with fail
    refine(HG.out _).mono ?_;rintro e w1 ⟨rfl,hb1⟩;have k0:=(hb1.block _ (by simp;omega)).trans hs0.out;have k1:=(hb1.block _ (by simp)).trans hs1.out;have c0:w1.cell? ⟨w.heap.size,6,none⟩=some (.int .i64 f):=(by rw[cell_of_row _ _ 6 _ _ _ k0];rfl);have c1:w1.cell? ⟨w.heap.size+1,6,none⟩=some (.int .i64 g):=(by rw[cell_of_row _ _ 6 _ _ _ k1];rfl);go_wp2;go_ret;exact⟨ret_int (by rw[hE.out,hc.out]),bt hb hb1 hb.size⟩
 ·have hE:=qH (cmp7_1 (f:=f) (g:=g) hg);obtain⟨c,hc⟩:=exE (cmpL [n,h0,h1,h2,h3,h4] [m,g0,g1,g2,g3,g4]);rw[hc] at hE;have hz:c ≠ 0:=fun k=>hg (cmpL_zero.1 (by rw[hc];exact k));simp only[hc] at HG;replace HG:=qH HG;have hz':(c != 0)=true:=by simpa using hz
  clear hg hc hz hs0 hs1;go_enter Tryz.func103, Tryz.ntmps103
  go_wp2_with fail
  refine(HG.out _).mono ?_;rintro e w1 ⟨rfl,hb1⟩;go_wp2;go_ret;exact⟨ret_int hE.out.symm,bt hb hb1 hb.size⟩
def insideB (a b:Int):Bool:=[0,1,2,3,4].all fun p=>!hasI a p || hasI b p
def insGo (a b:Int):List Int→Bool
 | []=>true
 | p::r=>if hasI a p && !hasI b p then false else insGo a b r
theorem insideB_eq (a b:Int):insGo a b [0,1,2,3,4]=insideB a b:=by
 simp only[insGo,insideB,List.all_cons,List.all_nil];cases hasI a 0<;>cases hasI b 0<;>cases hasI a 1<;>cases hasI b 1<;>cases hasI a 2<;>cases hasI b 2<;>cases hasI a 3<;>cases hasI b 3<;>cases hasI a 4<;>cases hasI b 4<;>rfl
theorem insGo_stop {a b p:Int}{r:List Int}(h1:hasI a p=true) (h2:hasI b p=false):insGo a b (p::r)=false:=by rw[insGo,h1,h2];rfl
theorem insGo_1 {a b p:Int}{r:List Int}(h1:hasI a p=false):insGo a b (p::r)=insGo a b r:=by rw[insGo,h1];rfl
theorem insGo_2 {a b p:Int}{r:List Int}(h2:hasI b p=true):insGo a b (p::r)=insGo a b r:=by rw[insGo,h2];cases hasI a p<;>rfl
theorem refInside (a b:Int) (w:World) (ha:0≤a) (ha1:a≤1000000) (hb:0≤b) (hb1:b≤1000000):Calls Tryz.prog 90 #[.int .i64 a,.int .i64 b] w fun e w'=>e = .returned (.bool (insideB a b))∧w=w':=by
 obtain⟨E,hE⟩:=exE (insideB a b);have hE0:=qH (show insGo a b [0,1,2,3,4]=E by rw[insideB_eq,hE]);rw[hE];clear hE;go_enter Tryz.func90, Tryz.ntmps90
 go_wp2;go_loop [5] (fun iv=>∃k:Int,iv = .int .i64 k∧((k=0∧Hid (insGo a b [0,1,2,3,4]=E))∨(k=1∧Hid (insGo a b [1,2,3,4]=E))∨(k=2∧Hid (insGo a b [2,3,4]=E))∨(k=3∧Hid (insGo a b [3,4]=E))∨(k=4∧Hid (insGo a b [4]=E))∨(k=5∧Hid (insGo a b []=E)))) (fun iv=>5 - (intOf iv).toNat)
 case atStart=>exact⟨0,rfl,.inl ⟨rfl,hE0⟩⟩
 case round=>
  clear hE0;obtain⟨k,rfl,hk⟩:=hrel;rcases hk with⟨rfl,hg⟩|⟨rfl,hg⟩|⟨rfl,hg⟩|⟨rfl,hg⟩|⟨rfl,hg⟩|⟨rfl,hg⟩
  ·have H1:=fun W=>refHas a 0 W ha ha1 (by omega) (by omega);have H2:=fun W=>refHas b 0 W hb hb1 (by omega) (by omega);by_cases q1:hasI a 0=true
   ·simp only[q1] at H1;replace H1:=qH H1;by_cases q2:hasI b 0=true
    ·simp only[q2] at H2;replace H2:=qH H2;replace q1:=qH q1;replace q2:=qH q2;go_wp2_with fail
     refine(H1.out _).mono ?_;rintro e w1 ⟨rfl,rfl⟩;go_wp2_with fail
     refine(H2.out _).mono ?_;rintro e w1 ⟨rfl,rfl⟩;go_wp2;go_round
     case rel=>exact⟨1,rfl,.inr (.inl ⟨rfl,by show _=_;rw[←hg.out,insGo_2 q2.out]⟩)⟩
     case measure=>simp[intOf]
    ·replace q2:=eq_false_of_ne_true q2;simp only[q2] at H2;replace H2:=qH H2;replace q1:=qH q1;replace q2:=qH q2;go_wp2_with fail
     refine(H1.out _).mono ?_;rintro e w1 ⟨rfl,rfl⟩;go_wp2_with fail
     refine(H2.out _).mono ?_;rintro e w1 ⟨rfl,rfl⟩;go_wp2;go_ret;exact⟨ret_bool (by rw[←hg.out,insGo_stop q1.out q2.out]),rfl⟩
   ·replace q1:=eq_false_of_ne_true q1;simp only[q1] at H1;replace H1:=qH H1;replace q1:=qH q1;clear H2;go_wp2_with fail
    refine(H1.out _).mono ?_;rintro e w1 ⟨rfl,rfl⟩;go_wp2;go_round
    case rel=>exact⟨1,rfl,.inr (.inl ⟨rfl,by show _=_;rw[←hg.out,insGo_1 q1.out]⟩)⟩
    case measure=>simp[intOf]
  ·have H1:=fun W=>refHas a 1 W ha ha1 (by omega) (by omega);have H2:=fun W=>refHas b 1 W hb hb1 (by omega) (by omega);by_cases q1:hasI a 1=true
   ·simp only[q1] at H1;replace H1:=qH H1;by_cases q2:hasI b 1=true
    ·simp only[q2] at H2;replace H2:=qH H2;replace q1:=qH q1;replace q2:=qH q2;go_wp2_with fail
     refine(H1.out _).mono ?_;rintro e w1 ⟨rfl,rfl⟩;go_wp2_with fail
     refine(H2.out _).mono ?_;rintro e w1 ⟨rfl,rfl⟩;go_wp2;go_round
     case rel=>exact⟨2,rfl,.inr (.inr (.inl ⟨rfl,by show _=_;rw[←hg.out,insGo_2 q2.out]⟩))⟩
     case measure=>simp[intOf]
    ·replace q2:=eq_false_of_ne_true q2;simp only[q2] at H2;replace H2:=qH H2;replace q1:=qH q1;replace q2:=qH q2;go_wp2_with fail
     refine(H1.out _).mono ?_;rintro e w1 ⟨rfl,rfl⟩;go_wp2_with fail
     refine(H2.out _).mono ?_;rintro e w1 ⟨rfl,rfl⟩;go_wp2;go_ret;exact⟨ret_bool (by rw[←hg.out,insGo_stop q1.out q2.out]),rfl⟩
   ·replace q1:=eq_false_of_ne_true q1;simp only[q1] at H1;replace H1:=qH H1;replace q1:=qH q1;clear H2;go_wp2_with fail
    refine(H1.out _).mono ?_;rintro e w1 ⟨rfl,rfl⟩;go_wp2;go_round
    case rel=>exact⟨2,rfl,.inr (.inr (.inl ⟨rfl,by show _=_;rw[←hg.out,insGo_1 q1.out]⟩))⟩
    case measure=>simp[intOf]
  ·have H1:=fun W=>refHas a 2 W ha ha1 (by omega) (by omega);have H2:=fun W=>refHas b 2 W hb hb1 (by omega) (by omega);by_cases q1:hasI a 2=true
   ·simp only[q1] at H1;replace H1:=qH H1;by_cases q2:hasI b 2=true
    ·simp only[q2] at H2;replace H2:=qH H2;replace q1:=qH q1;replace q2:=qH q2;go_wp2_with fail
     refine(H1.out _).mono ?_;rintro e w1 ⟨rfl,rfl⟩;go_wp2_with fail
     refine(H2.out _).mono ?_;rintro e w1 ⟨rfl,rfl⟩;go_wp2;go_round
     case rel=>exact⟨3,rfl,.inr (.inr (.inr (.inl ⟨rfl,by show _=_;rw[←hg.out,insGo_2 q2.out]⟩)))⟩
     case measure=>simp[intOf]
    ·replace q2:=eq_false_of_ne_true q2;simp only[q2] at H2;replace H2:=qH H2;replace q1:=qH q1;replace q2:=qH q2;go_wp2_with fail
     refine(H1.out _).mono ?_;rintro e w1 ⟨rfl,rfl⟩;go_wp2_with fail
     refine(H2.out _).mono ?_;rintro e w1 ⟨rfl,rfl⟩;go_wp2;go_ret;exact⟨ret_bool (by rw[←hg.out,insGo_stop q1.out q2.out]),rfl⟩
   ·replace q1:=eq_false_of_ne_true q1;simp only[q1] at H1;replace H1:=qH H1;replace q1:=qH q1;clear H2;go_wp2_with fail
    refine(H1.out _).mono ?_;rintro e w1 ⟨rfl,rfl⟩;go_wp2;go_round
    case rel=>exact⟨3,rfl,.inr (.inr (.inr (.inl ⟨rfl,by show _=_;rw[←hg.out,insGo_1 q1.out]⟩)))⟩
    case measure=>simp[intOf]
  ·have H1:=fun W=>refHas a 3 W ha ha1 (by omega) (by omega);have H2:=fun W=>refHas b 3 W hb hb1 (by omega) (by omega);by_cases q1:hasI a 3=true
   ·simp only[q1] at H1;replace H1:=qH H1;by_cases q2:hasI b 3=true
    ·simp only[q2] at H2;replace H2:=qH H2;replace q1:=qH q1;replace q2:=qH q2;go_wp2_with fail
     refine(H1.out _).mono ?_;rintro e w1 ⟨rfl,rfl⟩;go_wp2_with fail
     refine(H2.out _).mono ?_;rintro e w1 ⟨rfl,rfl⟩;go_wp2;go_round
     case rel=>exact⟨4,rfl,.inr (.inr (.inr (.inr (.inl ⟨rfl,by show _=_;rw[←hg.out,insGo_2 q2.out]⟩))))⟩
     case measure=>simp[intOf]
    ·replace q2:=eq_false_of_ne_true q2;simp only[q2] at H2;replace H2:=qH H2;replace q1:=qH q1;replace q2:=qH q2;go_wp2_with fail
     refine(H1.out _).mono ?_;rintro e w1 ⟨rfl,rfl⟩;go_wp2_with fail
     refine(H2.out _).mono ?_;rintro e w1 ⟨rfl,rfl⟩;go_wp2;go_ret;exact⟨ret_bool (by rw[←hg.out,insGo_stop q1.out q2.out]),rfl⟩
   ·replace q1:=eq_false_of_ne_true q1;simp only[q1] at H1;replace H1:=qH H1;replace q1:=qH q1;clear H2;go_wp2_with fail
    refine(H1.out _).mono ?_;rintro e w1 ⟨rfl,rfl⟩;go_wp2;go_round
    case rel=>exact⟨4,rfl,.inr (.inr (.inr (.inr (.inl ⟨rfl,by show _=_;rw[←hg.out,insGo_1 q1.out]⟩))))⟩
    case measure=>simp[intOf]
  ·have H1:=fun W=>refHas a 4 W ha ha1 (by omega) (by omega);have H2:=fun W=>refHas b 4 W hb hb1 (by omega) (by omega);by_cases q1:hasI a 4=true
   ·simp only[q1] at H1;replace H1:=qH H1;by_cases q2:hasI b 4=true
    ·simp only[q2] at H2;replace H2:=qH H2;replace q1:=qH q1;replace q2:=qH q2;go_wp2_with fail
     refine(H1.out _).mono ?_;rintro e w1 ⟨rfl,rfl⟩;go_wp2_with fail
     refine(H2.out _).mono ?_;rintro e w1 ⟨rfl,rfl⟩;go_wp2;go_round
     case rel=>exact⟨5,rfl,.inr (.inr (.inr (.inr (.inr (⟨rfl,by show _=_;rw[←hg.out,insGo_2 q2.out]⟩)))))⟩
     case measure=>simp[intOf]
    ·replace q2:=eq_false_of_ne_true q2;simp only[q2] at H2;replace H2:=qH H2;replace q1:=qH q1;replace q2:=qH q2;go_wp2_with fail
     refine(H1.out _).mono ?_;rintro e w1 ⟨rfl,rfl⟩;go_wp2_with fail
     refine(H2.out _).mono ?_;rintro e w1 ⟨rfl,rfl⟩;go_wp2;go_ret;exact⟨ret_bool (by rw[←hg.out,insGo_stop q1.out q2.out]),rfl⟩
   ·replace q1:=eq_false_of_ne_true q1;simp only[q1] at H1;replace H1:=qH H1;replace q1:=qH q1;clear H2;go_wp2_with fail
    refine(H1.out _).mono ?_;rintro e w1 ⟨rfl,rfl⟩;go_wp2;go_round
    case rel=>exact⟨5,rfl,.inr (.inr (.inr (.inr (.inr (⟨rfl,by show _=_;rw[←hg.out,insGo_1 q1.out]⟩)))))⟩
    case measure=>simp[intOf]
  ·go_wp2;go_ret;exact⟨ret_bool (by rw[←hg.out];rfl),rfl⟩
def movesN (ss:List (List (List Int))):Nat:=(ss.map List.length).foldr (· + ·) 0
def mvPre (ss:List (List (List Int))) (k:Nat):Nat:=movesN (ss.take k)
theorem movesN_app (a b:List (List (List Int))):movesN (a++b)=movesN a+movesN b:=by
 unfold movesN;induction a with
 | nil=>simp
 | cons x a ih=>simp only[List.cons_append,List.map_cons,List.foldr_cons,ih];omega
theorem mvPre_succ {ss:List (List (List Int))}{k:Nat}(h:k < ss.length):mvPre ss (k+1)=mvPre ss k+(ss.getD k []).length:=by
 rw[mvPre,take_snoc h [],movesN_app];simp[mvPre,movesN]
theorem mvPre_le (ss:List (List (List Int))) (k:Nat):mvPre ss k≤movesN ss:=by
 have:=movesN_app (ss.take k) (ss.drop k)
 rw[List.take_append_drop] at this;rw[mvPre];omega
theorem mvPre_all (ss:List (List (List Int))):mvPre ss ss.length=movesN ss:=by rw[mvPre,List.take_length]
theorem movesN_big:∀(ss:List (List (List Int))) (B:Nat),(∀s∈ss,s.length≤B)→movesN ss≤ss.length * B
 | [],B,_=>by simp[movesN]
 | s::ss,B,h=>by
  have h1:=h s (by simp);have h2:=movesN_big ss B fun s hs=>h s (by simp[hs]);have e:movesN (s::ss)=s.length+movesN ss:=rfl;rw[e,List.length_cons,Nat.add_mul];omega
def AdvV (w:World) (v:Value) (n:Int) (ss:List (List (List Int))):Prop:=∃sv,v = .agg #[.int .i64 n,sv]∧KSS 8 w sv ss
theorem AdvV.keep {w w':World}{v:Value}{n:Int}{ss:List (List (List Int))}(h:AdvV w v n ss) (hb:Below w.heap.size w w'):AdvV w' v n ss:=by
 obtain⟨sv,h1,h2⟩:=h;exact⟨sv,h1,h2.keep hb⟩
theorem refMoves {w:World}{v:Value}{n:Int}{ss:List (List (List Int))}(h:AdvV w v n ss) (hl:ss.length≤256):Calls Tryz.prog 48 #[v] w fun e w'=>e = .returned (.int .i64 (movesN ss))∧Below w.heap.size w w':=by
 obtain⟨sv,rfl,a,c,b,off,rfl,ha,hc,_⟩:=h;have hb:=(Below.refl w.heap.size w).alloc (Nat.le_refl _) (.cells #[.int .i64 n,.slice a ss.length c] 24);have hcb:=hc.keep hb
 have hB:∀s∈ss,s.length≤2199023255552:=fun s hs=>by
  obtain⟨j,hj,rfl⟩:=List.mem_iff_getElem.1 hs;obtain⟨u,_,_,_,_,_,_,_,_,hl⟩:=hc j hj;rwa [getD_eq hj] at hl
 have hM:=movesN_big ss _ hB;have hM2:ss.length * 2199023255552≤256 * 2199023255552:=Nat.mul_le_mul_right _ hl;have hP:=mvPre_le ss;have hA:=qH (mvPre_all ss);clear hB hc;go_enter Tryz.func48, Tryz.ntmps48
 go_wp2;go_loop [3,4] (fun nv iv=>∃k:Nat,k≤ss.length∧iv = .int .i64 k∧nv = .int .i64 (mvPre ss k)) (fun _ iv=>ss.length - (intOf iv).toNat)
 case atStart=>exact⟨0,by omega,rfl,rfl⟩
 case round=>
  obtain⟨k,hk,rfl,rfl⟩:=hrel;have p1:=hP k;by_cases hlt:k < ss.length
  ·obtain rfl:=ha (by omega);obtain⟨u,hcu,hu⟩:=hcb k hlt;obtain⟨ua,uc,rfl⟩:=hu.shape;have hs:=mvPre_succ hlt;have p2:=hP (k+1);obtain⟨p,hp⟩:=exE (mvPre ss k);obtain⟨m,hm⟩:=exE ((ss.getD k []).length);rw[hp] at p1 hs;rw[hm] at hs hcu;rw[hs] at p2;rw[hp];replace hs:=qH hs;clear hp hm hP ha hcb hu;go_wp2;go_round
   case rel=>exact⟨k+1,by omega,by go_num,by rw[hs.out];go_num⟩
   case measure=>simp[intOf];omega
  ·obtain rfl:k=ss.length:=(by omega);clear ha hcb hP;go_wp2;go_ret;exact⟨ret_int (by rw[hA.out]),hb⟩
theorem a7c2 {w:World}{b:Nat}{t:TypeId}{u0 u1:Value}(h:w.heap[b]? = some (.cells #[u0,u1] t)):w.cell? ⟨b,0,none⟩=some u0∧w.cell? ⟨b,1,none⟩=some u1:=by
 refine⟨?_,?_⟩<;>(rw[cell_of_row _ b _ _ _ _ h];rfl)
theorem a7c7 {w:World}{b:Nat}{t:TypeId}{u0 u1 u2 u3 u4 u5 u6:Value}(h:w.heap[b]? = some (.cells #[u0,u1,u2,u3,u4,u5,u6] t)):w.cell? ⟨b,0,none⟩=some u0∧w.cell? ⟨b,1,none⟩=some u1∧w.cell? ⟨b,2,none⟩=some u2∧w.cell? ⟨b,3,none⟩=some u3∧w.cell? ⟨b,4,none⟩=some u4∧w.cell? ⟨b,5,none⟩=some u5∧w.cell? ⟨b,6,none⟩=some u6:=by
 refine⟨?_,?_,?_,?_,?_,?_,?_⟩<;>(rw[cell_of_row _ b _ _ _ _ h];rfl)
def mvErr (n:Int) (len:Nat) (ms:List (List Int)) (i:Nat):Int:=
 if chkRd ((ms.getD i []).take 7) ≠ 0 then chkRd ((ms.getD i []).take 7) else if (ms.getD i []).getD 0 0 ≠ n then 22
 else if 0 < i∧0≤cmpL ((ms.getD (i - 1) []).take 7) ((ms.getD i []).take 7) then 14 else if (ms.getD i []).getD 7 0 < 0∨(len:Int)≤(ms.getD i []).getD 7 0 then 2 else 0
theorem mvErr_1 {n:Int}{len:Nat}{ms:List (List Int)}{i:Nat}{x:List Int}(hx:ms.getD i []=x) (h:chkRd (x.take 7) ≠ 0):mvErr n len ms i=chkRd (x.take 7):=by rw[mvErr,hx,if_pos h]
theorem mvErr_2 {n:Int}{len:Nat}{ms:List (List Int)}{i:Nat}{x:List Int}(hx:ms.getD i []=x) (h:chkRd (x.take 7)=0) (h2:x.getD 0 0 ≠ n):mvErr n len ms i=22:=by rw[mvErr,hx,if_neg (fun k=>k h),if_pos h2]
theorem mvErr_3 {n:Int}{len:Nat}{ms:List (List Int)}{i:Nat}{x y:List Int}(hx:ms.getD i []=x) (hy:ms.getD (i - 1) []=y) (h:chkRd (x.take 7)=0) (h2:x.getD 0 0=n) (hi:0 < i) (h3:0≤cmpL (y.take 7) (x.take 7)):mvErr n len ms i=14:=by
 rw[mvErr,hx,hy,if_neg (fun k=>k h),if_neg (fun k=>k h2),if_pos ⟨hi,h3⟩]
theorem mvErr_4 {n:Int}{len:Nat}{ms:List (List Int)}{i:Nat}{x:List Int}(hx:ms.getD i []=x) (h:chkRd (x.take 7)=0) (h2:x.getD 0 0=n) (h3 : ¬(0 < i∧0≤cmpL ((ms.getD (i - 1) []).take 7) (x.take 7))) (h4:x.getD 7 0 < 0∨(len:Int)≤x.getD 7 0):mvErr n len ms i=2:=by
 rw[mvErr,hx,if_neg (fun k=>k h),if_neg (fun k=>k h2),if_neg h3,if_pos h4]
theorem mvErr_5 {n:Int}{len:Nat}{ms:List (List Int)}{i:Nat}{x:List Int}(hx:ms.getD i []=x) (h:chkRd (x.take 7)=0) (h2:x.getD 0 0=n) (h3 : ¬(0 < i∧0≤cmpL ((ms.getD (i - 1) []).take 7) (x.take 7))) (h4 : ¬(x.getD 7 0 < 0∨(len:Int)≤x.getD 7 0)):mvErr n len ms i=0:=by
 rw[mvErr,hx,if_neg (fun k=>k h),if_neg (fun k=>k h2),if_neg h3,if_neg h4]
def fewA (ss:List (List (List Int))):Bool:=decide (ss.length≤8) && decide (movesN ss≤40)
theorem refFew {w:World}{v:Value}{n:Int}{ss:List (List (List Int))}(h:AdvV w v n ss):Calls Tryz.prog 11 #[v] w fun e w'=>e = .returned (.bool (fewA ss))∧Below w.heap.size w w':=by
 have h0:=h;obtain⟨sv,rfl,a,c,b,off,rfl,ha,hc,_⟩:=h;have hb:=(Below.refl w.heap.size w).alloc (Nat.le_refl _) (.cells #[.int .i64 n,.slice a ss.length c] 24);by_cases h8:ss.length≤8
 ·have HM:=qH (refMoves (h0.keep hb) (by omega));have e:=qH (show fewA ss=decide (movesN ss≤40) by simp[fewA,h8]);obtain⟨m,hm⟩:=exE (movesN ss);rw[hm] at HM e;have h8':decide ((ss.length:Int)≤8)=true:=decide_eq_true (by omega);clear ha hc hm h0;go_enter Tryz.func11, Tryz.ntmps11
  go_wp2_with fail
  refine HM.out.mono ?_;rintro e1 w1 ⟨rfl,hb1⟩;go_wp2;go_ret;exact⟨ret_bool (by rw[e.out];norm_cast),bt hb hb1 hb.size⟩
 ·have e:=qH (show fewA ss=false by simp[fewA,h8]);have h8':decide ((ss.length:Int)≤8)=false:=decide_eq_false (by omega);clear ha hc h0;go_enter Tryz.func11, Tryz.ntmps11
  go_wp2;go_ret;exact⟨ret_bool e.out.symm,hb⟩
theorem below_of_drew {w w':World}(h:Below w.drew.heap.size w.drew w'):Below w.heap.size w w':=((Below.refl _ w).drew).trans h
theorem refMove {w:World}{v mv:Value}{n:Int}{ss:List (List (List Int))}{ms:List (List Int)}{i:Nat}(hA:AdvV w v n ss) (hM:KS 8 w mv ms) (hi:i < ms.length) (_hl:ss.length≤256) :
  Calls Tryz.prog 73 #[v,mv,.int .i64 i] w fun e w'=>e = .returned (.int .i64 (mvErr n ss.length ms i))∧Below w.heap.size w w':=by
 obtain⟨sv,rfl,sa,sc,sb,so,rfl,hsa,hsc,_⟩:=hA;obtain⟨ma,mc,mb,mo,rfl,hma,hmc,hml⟩:=hM;obtain rfl:=hma (by omega);clear hma hsa hsc;obtain⟨hx8,hxc⟩:=hmc i hi;obtain⟨x,hx⟩:=exE (ms.getD i []);rw[hx] at hx8 hxc;obtain⟨y0,y1,y2,y3,y4,y5,y6,y7,rfl⟩:=eight hx8;clear hx8;have hb:=(Below.refl w.heap.size w).alloc (Nat.le_refl _) (.cells #[.int .i64 n,.slice sa ss.length sc] 24);have hb2:=hb.alloc hb.size (.cells #[.int .i64 y0,.int .i64 y1,.int .i64 y2,.int .i64 y3,.int .i64 y4,.int .i64 y5,.int .i64 y6] 87);have hs0:((w.alloc (.cells #[.int .i64 n,.slice sa ss.length sc] 24)).alloc (.cells #[.int .i64 y0,.int .i64 y1,.int .i64 y2,.int .i64 y3,.int .i64 y4,.int .i64 y5,.int .i64 y6] 87)).heap[w.heap.size]? = some (.cells #[.int .i64 n,.slice sa ss.length sc] 24):=(Below.heap_alloc _ _ _ (by simp)).trans (heap_alloc_new w _)
 have hs1:((w.alloc (.cells #[.int .i64 n,.slice sa ss.length sc] 24)).alloc (.cells #[.int .i64 y0,.int .i64 y1,.int .i64 y2,.int .i64 y3,.int .i64 y4,.int .i64 y5,.int .i64 y6] 87)).heap[w.heap.size+1]? = some (.cells #[.int .i64 y0,.int .i64 y1,.int .i64 y2,.int .i64 y3,.int .i64 y4,.int .i64 y5,.int .i64 y6] 87):=by
  have:=heap_alloc_new (w.alloc (.cells #[.int .i64 n,.slice sa ss.length sc] 24)) (.cells #[.int .i64 y0,.int .i64 y1,.int .i64 y2,.int .i64 y3,.int .i64 y4,.int .i64 y5,.int .i64 y6] 87);rwa [World.size_alloc] at this
 replace hs0:=qH hs0;replace hs1:=qH hs1;obtain⟨c0,c1,c2,c3,c4,c5,c6,_⟩:=(hxc.keep hb).all8;replace hxc:=qH hxc;obtain⟨E,hE⟩:=exE (chkRd [y0,y1,y2,y3,y4,y5,y6]);have HC:=fun W=>refRoundCheck y0 y1 y2 y3 y4 y5 y6 W;rw[hE] at HC;replace HC:=qH HC;replace hE:=qH hE;replace hx:=qH hx;by_cases hz:E=0
 ·subst hz;by_cases hn:y0=n
  ·have hn':(y0 != n)=false:=(by simp[hn]);replace hn:=qH hn;by_cases hi0:0 < i
   ·have hi1:decide (0 < i)=true:=decide_eq_true hi0;obtain⟨hy8,hyc⟩:=hmc (i - 1) (by omega);obtain⟨y,hy⟩:=exE (ms.getD (i - 1) []);rw[hy] at hy8 hyc;obtain⟨z0,z1,z2,z3,z4,z5,z6,z7,rfl⟩:=eight hy8;clear hy8 hmc;obtain⟨j,rfl⟩:∃j,i=j+1:=⟨i - 1,by omega⟩;rw[Nat.add_sub_cancel] at hyc hy;replace hyc:=qH hyc;have HM:=fun W=>refRoundCompare z0 z1 z2 z3 z4 z5 z6 y0 y1 y2 y3 y4 y5 y6 W;obtain⟨C,hC⟩:=exE (cmpL [z0,z1,z2,z3,z4,z5,z6] [y0,y1,y2,y3,y4,y5,y6]);rw[hC] at HM;replace HM:=qH HM;replace hC:=qH hC;replace hy:=qH hy;by_cases hCz:0≤C
    ·have hC1:decide (0≤C)=true:=decide_eq_true hCz;replace hCz:=qH hCz;go_enter Tryz.func73, Tryz.ntmps73
     go_wp2_with fail
     refine(HC.out _).mono ?_;rintro e w1 ⟨rfl,hb1⟩;have k0:=(hb1.block _ (by simp;omega)).trans hs0.out;have k1:=(hb1.block _ (by simp)).trans hs1.out;have bw:=bt hb2 hb1 hb2.size;clear c0 c1 c2 c3 c4 c5 c6 hs0 hs1;obtain⟨d0,d1⟩:=a7c2 k0;obtain⟨r0,r1,r2,r3,r4,r5,r6⟩:=a7c7 k1;obtain⟨e0,e1,e2,e3,e4,e5,e6,_⟩:=((hyc.out.keep (bt hb2 hb1 hb2.size))).all8;have hwr:IntKind.i64.wrap (j:Int)=(j:Int):=IntWalk.i64_in _ (by omega);have hj0:(0:Int)≤(j:Int):=Int.natCast_nonneg _;have hj1:(j:Int) < (ms.length:Int):=(by omega);go_wp2;go_still_tail 10,(by kernel_rfl)
     change wpList _ _ _ _ _ w1.drew;clear hwr;go_wp2_with fail
     refine(HM.out _).mono ?_;rintro e w2 ⟨rfl,hb3⟩;replace hb3:=below_of_drew hb3;have b2:=bt bw hb3 bw.size;clear e0 e1 e2 e3 e4 e5 e6;go_wp2;go_ret;exact⟨ret_int (mvErr_3 (y:=[z0,z1,z2,z3,z4,z5,z6,z7]) hx.out (by rw[Nat.add_sub_cancel];exact hy.out) hE.out hn.out (by omega) (by show 0≤cmpL [z0,z1,z2,z3,z4,z5,z6] [y0,y1,y2,y3,y4,y5,y6];rw[hC.out];exact hCz.out)).symm,b2⟩
    ·have hC1:decide (0≤C)=false:=decide_eq_false hCz
     have h3:Hid (¬(0 < j+1∧0≤cmpL ((ms.getD (j+1 - 1) []).take 7) ([y0,y1,y2,y3,y4,y5,y6,y7].take 7))):=fun k=>by
      have k2:=k.2;rw[Nat.add_sub_cancel,hy.out] at k2;have k3:0≤cmpL [z0,z1,z2,z3,z4,z5,z6] [y0,y1,y2,y3,y4,y5,y6]:=k2;rw[hC.out] at k3;exact hCz k3
     clear hCz;by_cases q1:y7 < 0
     ·have q1':decide (y7 < 0)=true:=decide_eq_true q1;have q:=qH (show y7 < 0∨(ss.length:Int)≤y7 from .inl q1);clear q1;go_enter Tryz.func73, Tryz.ntmps73
      go_wp2_with fail
      refine(HC.out _).mono ?_;rintro e w1 ⟨rfl,hb1⟩;have k0:=(hb1.block _ (by simp;omega)).trans hs0.out;have k1:=(hb1.block _ (by simp)).trans hs1.out;have bw:=bt hb2 hb1 hb2.size;clear c0 c1 c2 c3 c4 c5 c6 hs0 hs1;obtain⟨d0,d1⟩:=a7c2 k0;obtain⟨r0,r1,r2,r3,r4,r5,r6⟩:=a7c7 k1;obtain⟨e0,e1,e2,e3,e4,e5,e6,_⟩:=((hyc.out.keep (bt hb2 hb1 hb2.size))).all8;have hwr:IntKind.i64.wrap (j:Int)=(j:Int):=IntWalk.i64_in _ (by omega);have hj0:(0:Int)≤(j:Int):=Int.natCast_nonneg _;have hj1:(j:Int) < (ms.length:Int):=(by omega);go_wp2;go_still_tail 10,(by kernel_rfl)
      change wpList _ _ _ _ _ w1.drew;clear hwr;go_wp2_with fail
      refine(HM.out _).mono ?_;rintro e w2 ⟨rfl,hb3⟩;replace hb3:=below_of_drew hb3;have b2:=bt bw hb3 bw.size;clear e0 e1 e2 e3 e4 e5 e6;have k2:=(hb3.block _ (Array.getElem?_eq_some_iff.1 k0).1).trans k0;have d2:w2.cell? ⟨w.heap.size,1,none⟩=some (.slice sa ss.length sc):=(by rw[cell_of_row _ _ 1 _ _ _ k2];rfl);obtain⟨_,_,_,_,_,_,_,e7⟩:=(hxc.out.keep b2).all8;go_wp2;go_quiet (fail)
      go_wp2;go_ret;exact⟨ret_int (mvErr_4 hx.out hE.out hn.out h3.out q.out).symm,below_drewN b2 _⟩
     ·have q1':decide (y7 < 0)=false:=decide_eq_false q1;by_cases q2:(ss.length:Int)≤y7
      ·have q2':decide ((ss.length:Int)≤y7)=true:=decide_eq_true q2;have q:=qH (show y7 < 0∨(ss.length:Int)≤y7 from .inr q2);clear q1 q2;go_enter Tryz.func73, Tryz.ntmps73
       go_wp2_with fail
       refine(HC.out _).mono ?_;rintro e w1 ⟨rfl,hb1⟩;have k0:=(hb1.block _ (by simp;omega)).trans hs0.out;have k1:=(hb1.block _ (by simp)).trans hs1.out;have bw:=bt hb2 hb1 hb2.size;clear c0 c1 c2 c3 c4 c5 c6 hs0 hs1;obtain⟨d0,d1⟩:=a7c2 k0;obtain⟨r0,r1,r2,r3,r4,r5,r6⟩:=a7c7 k1;obtain⟨e0,e1,e2,e3,e4,e5,e6,_⟩:=((hyc.out.keep (bt hb2 hb1 hb2.size))).all8;have hwr:IntKind.i64.wrap (j:Int)=(j:Int):=IntWalk.i64_in _ (by omega);have hj0:(0:Int)≤(j:Int):=Int.natCast_nonneg _;have hj1:(j:Int) < (ms.length:Int):=(by omega);go_wp2;go_still_tail 10,(by kernel_rfl)
       change wpList _ _ _ _ _ w1.drew;clear hwr;go_wp2_with fail
       refine(HM.out _).mono ?_;rintro e w2 ⟨rfl,hb3⟩;replace hb3:=below_of_drew hb3;have b2:=bt bw hb3 bw.size;clear e0 e1 e2 e3 e4 e5 e6;have k2:=(hb3.block _ (Array.getElem?_eq_some_iff.1 k0).1).trans k0;have d2:w2.cell? ⟨w.heap.size,1,none⟩=some (.slice sa ss.length sc):=(by rw[cell_of_row _ _ 1 _ _ _ k2];rfl);obtain⟨_,_,_,_,_,_,_,e7⟩:=(hxc.out.keep b2).all8;go_wp2;go_quiet (fail)
       go_wp2;go_ret;exact⟨ret_int (mvErr_4 hx.out hE.out hn.out h3.out q.out).symm,below_drewN b2 _⟩
      ·have q2':decide ((ss.length:Int)≤y7)=false:=decide_eq_false q2;have q:=qH (show ¬(y7 < 0∨(ss.length:Int)≤y7) by omega);clear q1 q2;go_enter Tryz.func73, Tryz.ntmps73
       go_wp2_with fail
       refine(HC.out _).mono ?_;rintro e w1 ⟨rfl,hb1⟩;have k0:=(hb1.block _ (by simp;omega)).trans hs0.out;have k1:=(hb1.block _ (by simp)).trans hs1.out;have bw:=bt hb2 hb1 hb2.size;clear c0 c1 c2 c3 c4 c5 c6 hs0 hs1;obtain⟨d0,d1⟩:=a7c2 k0;obtain⟨r0,r1,r2,r3,r4,r5,r6⟩:=a7c7 k1;obtain⟨e0,e1,e2,e3,e4,e5,e6,_⟩:=((hyc.out.keep (bt hb2 hb1 hb2.size))).all8;have hwr:IntKind.i64.wrap (j:Int)=(j:Int):=IntWalk.i64_in _ (by omega);have hj0:(0:Int)≤(j:Int):=Int.natCast_nonneg _;have hj1:(j:Int) < (ms.length:Int):=(by omega);go_wp2;go_still_tail 10,(by kernel_rfl)
       change wpList _ _ _ _ _ w1.drew;clear hwr;go_wp2_with fail
       refine(HM.out _).mono ?_;rintro e w2 ⟨rfl,hb3⟩;replace hb3:=below_of_drew hb3;have b2:=bt bw hb3 bw.size;clear e0 e1 e2 e3 e4 e5 e6;have k2:=(hb3.block _ (Array.getElem?_eq_some_iff.1 k0).1).trans k0;have d2:w2.cell? ⟨w.heap.size,1,none⟩=some (.slice sa ss.length sc):=(by rw[cell_of_row _ _ 1 _ _ _ k2];rfl);obtain⟨_,_,_,_,_,_,_,e7⟩:=(hxc.out.keep b2).all8;go_wp2;go_quiet (fail)
       go_wp2;go_ret;exact⟨ret_int (mvErr_5 hx.out hE.out hn.out h3.out (by have:=q.out;show ¬(y7 < 0∨(ss.length:Int)≤y7);omega)).symm,below_drewN b2 _⟩
   ·have h3:Hid (¬(0 < i∧0≤cmpL ((ms.getD (i - 1) []).take 7) ([y0,y1,y2,y3,y4,y5,y6,y7].take 7))):=fun k=>hi0 k.1;have hi1:decide (0 < i)=false:=decide_eq_false hi0;clear hi0 hmc;by_cases q1:y7 < 0
    ·have q1':decide (y7 < 0)=true:=decide_eq_true q1;have q:=qH (show y7 < 0∨(ss.length:Int)≤y7 from .inl q1);clear q1;go_enter Tryz.func73, Tryz.ntmps73
     go_wp2_with fail
     refine(HC.out _).mono ?_;rintro e w1 ⟨rfl,hb1⟩;have k0:=(hb1.block _ (by simp;omega)).trans hs0.out;have k1:=(hb1.block _ (by simp)).trans hs1.out;have bw:=bt hb2 hb1 hb2.size;clear c0 c1 c2 c3 c4 c5 c6 hs0 hs1;obtain⟨d0,d1⟩:=a7c2 k0;obtain⟨r0,r1,r2,r3,r4,r5,r6⟩:=a7c7 k1;have bz:Below w.heap.size w w1:=bw;obtain⟨_,_,_,_,_,_,_,e7⟩:=(hxc.out.keep bw).all8;go_wp2;go_quiet (fail)
     go_wp2;go_quiet (fail)
     go_wp2;go_ret;exact⟨ret_int (mvErr_4 hx.out hE.out hn.out h3.out q.out).symm,below_drewN (below_drewN bz _) _⟩
    ·have q1':decide (y7 < 0)=false:=decide_eq_false q1;by_cases q2:(ss.length:Int)≤y7
     ·have q2':decide ((ss.length:Int)≤y7)=true:=decide_eq_true q2;have q:=qH (show y7 < 0∨(ss.length:Int)≤y7 from .inr q2);clear q1 q2;go_enter Tryz.func73, Tryz.ntmps73
      go_wp2_with fail
      refine(HC.out _).mono ?_;rintro e w1 ⟨rfl,hb1⟩;have k0:=(hb1.block _ (by simp;omega)).trans hs0.out;have k1:=(hb1.block _ (by simp)).trans hs1.out;have bw:=bt hb2 hb1 hb2.size;clear c0 c1 c2 c3 c4 c5 c6 hs0 hs1;obtain⟨d0,d1⟩:=a7c2 k0;obtain⟨r0,r1,r2,r3,r4,r5,r6⟩:=a7c7 k1;have bz:Below w.heap.size w w1:=bw;obtain⟨_,_,_,_,_,_,_,e7⟩:=(hxc.out.keep bw).all8;go_wp2;go_quiet (fail)
      go_wp2;go_quiet (fail)
      go_wp2;go_ret;exact⟨ret_int (mvErr_4 hx.out hE.out hn.out h3.out q.out).symm,below_drewN (below_drewN bz _) _⟩
     ·have q2':decide ((ss.length:Int)≤y7)=false:=decide_eq_false q2;have q:=qH (show ¬(y7 < 0∨(ss.length:Int)≤y7) by omega);clear q1 q2;go_enter Tryz.func73, Tryz.ntmps73
      go_wp2_with fail
      refine(HC.out _).mono ?_;rintro e w1 ⟨rfl,hb1⟩;have k0:=(hb1.block _ (by simp;omega)).trans hs0.out;have k1:=(hb1.block _ (by simp)).trans hs1.out;have bw:=bt hb2 hb1 hb2.size;clear c0 c1 c2 c3 c4 c5 c6 hs0 hs1;obtain⟨d0,d1⟩:=a7c2 k0;obtain⟨r0,r1,r2,r3,r4,r5,r6⟩:=a7c7 k1;have bz:Below w.heap.size w w1:=bw;obtain⟨_,_,_,_,_,_,_,e7⟩:=(hxc.out.keep bw).all8;go_wp2;go_quiet (fail)
      go_wp2;go_quiet (fail)
      go_wp2;go_ret;exact⟨ret_int (mvErr_5 hx.out hE.out hn.out h3.out (by have:=q.out;show ¬(y7 < 0∨(ss.length:Int)≤y7);omega)).symm,below_drewN (below_drewN bz _) _⟩
  ·have hn':(y0 != n)=true:=(by simpa using hn);replace hn:=qH hn;go_enter Tryz.func73, Tryz.ntmps73
   go_wp2_with fail
   refine(HC.out _).mono ?_;rintro e w1 ⟨rfl,hb1⟩;have k0:=(hb1.block _ (by simp;omega)).trans hs0.out;have k1:=(hb1.block _ (by simp)).trans hs1.out;have bw:=bt hb2 hb1 hb2.size;clear c0 c1 c2 c3 c4 c5 c6 hs0 hs1;obtain⟨d0,d1⟩:=a7c2 k0;obtain⟨r0,r1,r2,r3,r4,r5,r6⟩:=a7c7 k1;go_wp2;go_ret;exact⟨ret_int (mvErr_2 hx.out hE.out hn.out).symm,bw⟩
 ·have hz':(E != 0)=true:=by simpa using hz
  replace hz:=qH hz;go_enter Tryz.func73, Tryz.ntmps73
  go_wp2_with fail
  refine(HC.out _).mono ?_;rintro e w1 ⟨rfl,hb1⟩;have k0:=(hb1.block _ (by simp;omega)).trans hs0.out;have k1:=(hb1.block _ (by simp)).trans hs1.out;have bw:=bt hb2 hb1 hb2.size;clear c0 c1 c2 c3 c4 c5 c6 hs0 hs1;obtain⟨d0,d1⟩:=a7c2 k0;obtain⟨r0,r1,r2,r3,r4,r5,r6⟩:=a7c7 k1;go_wp2;go_ret;exact⟨ret_int (by rw[mvErr_1 hx.out (by rw[show([y0,y1,y2,y3,y4,y5,y6,y7]:List Int).take 7 = [y0,y1,y2,y3,y4,y5,y6] from rfl,hE.out];exact hz.out)];exact hE.out.symm),bw⟩
def MvOK (len:Nat) (m:List Int):Prop:=m.length=8∧(0≤m.getD 6 0∧m.getD 6 0≤31)∧0≤m.getD 7 0∧m.getD 7 0 < (len:Int)
def StOK (ss:List (List (List Int))):Prop:=∀s∈ss,∀m∈s,MvOK ss.length m
def gr3 (f:Int) (ks:List (List Int)):Bool:=ks.all fun k=>insideB f (k.getD 6 0)
def gr2 (ss:List (List (List Int))) (ms:List (List Int)):Bool:=ms.all fun m=>gr3 (m.getD 6 0) (ss.getD (m.getD 7 0).toNat [])
def growsB (ss:List (List (List Int))):Bool:=ss.all (gr2 ss)
theorem all_step {α:Type}{f:α→Bool}{l:List α}{k:Nat}(h:k < l.length) {d x:α}(hx:l.getD k d=x):(l.drop k).all f=(f x && (l.drop (k+1)).all f):=by rw[drop_cons h d,List.all_cons,hx]
theorem all_end {α:Type}{f:α→Bool}{l:List α}{k:Nat}(h : ¬k < l.length):(l.drop k).all f=true:=by rw[List.drop_eq_nil_of_le (by omega)];rfl
theorem box_cell {w:World}{b j:Nat}{cs:Array Value}{t:TypeId}{v:Value}(h:w.heap[b]? = some (.cells cs t)) (hj:cs[j]? = some v):w.cell? ⟨b,j,none⟩=some v:=by rw[cell_of_row _ _ j _ _ _ h];exact hj
theorem refGrows {w:World}{v:Value}{n:Int}{ss:List (List (List Int))}(hA:AdvV w v n ss) (hl:ss.length≤256) (hO:StOK ss):Calls Tryz.prog 74 #[v] w fun e w'=>e = .returned (.bool (growsB ss))∧Below w.heap.size w w':=by
 obtain⟨sv,rfl,sa,sc,sb,so,rfl,hsa,hsc,_⟩:=hA;have hb:=(Below.refl w.heap.size w).alloc (Nat.le_refl _) (.cells #[.int .i64 n,.slice sa ss.length sc] 24);have k0:=heap_alloc_new w (.cells #[.int .i64 n,.slice sa ss.length sc] 24);replace hsc:=hsc.keep hb;obtain⟨W1,hW1⟩:=exF (w.alloc (.cells #[.int .i64 n,.slice sa ss.length sc] 24));obtain⟨b0,hb0⟩:=exF (w.heap.size);rw[←hW1] at hb k0 hsc;rw[←hb0] at k0;have hb0s:=(Array.getElem?_eq_some_iff.1 k0).1;replace hW1:=qH hW1;replace hb0:=qH hb0;obtain⟨E,hE⟩:=exE (growsB ss);rw[hE];have hE0:=qH (show(ss.drop 0).all (gr2 ss)=E by rw[List.drop_zero];exact hE);replace hO:=qH hO;clear hE;go_enter Tryz.func74, Tryz.ntmps74
 go_wp2;rw[←hW1.out,←hb0.out];clear hW1 hb0;go_loopw [3] (fun sv wr=>∃s:Nat,s≤ss.length∧sv = .int .i64 s∧Hid ((ss.drop s).all (gr2 ss)=E)∧Below W1.heap.size W1 wr) (fun sv _=>ss.length - (intOf sv).toNat)
 case atStart=>exact⟨0,by omega,rfl,hE0,Below.refl _ _⟩
 case round=>
  clear hE0;obtain⟨s,hs,rfl,hg,hbr⟩:=hrel;have k1:=(hbr.block b0 hb0s).trans k0;have d1:wr.cell? ⟨b0,1,none⟩=some (.slice sa ss.length sc):=box_cell k1 rfl;by_cases hlt:s < ss.length
  ·obtain rfl:=hsa (by omega);obtain⟨ms,hms⟩:=exE (ss.getD s []);have hmem:ms∈ss:=(by rw[←hms,getD_eq hlt];exact List.getElem_mem hlt);have hms':=hms;obtain⟨u,hcu,hu⟩:=hsc s hlt;rw[hms] at hu;have hst:=qH (all_step (f:=gr2 ss) hlt hms);have hOm:=qH (hO.out ms hmem);clear hms hmem hms';obtain⟨ma,mc,mb,mo,rfl,hma,hmc,hml⟩:=hu
   have hgm:Hid (((ms.drop 0).all (fun m=>gr3 (m.getD 6 0) (ss.getD (m.getD 7 0).toNat [])) && (ss.drop (s+1)).all (gr2 ss))=E):=by
    show _=E;rw[List.drop_zero,←hg.out,hst.out];rfl
   clear hg hst;go_wp2;clear d1 k1;go_loopw [4] (fun iv wr=>∃i:Nat,i≤ms.length∧iv = .int .i64 i∧Hid (((ms.drop i).all (fun m=>gr3 (m.getD 6 0) (ss.getD (m.getD 7 0).toNat [])) && (ss.drop (s+1)).all (gr2 ss))=E)∧Below W1.heap.size W1 wr) (fun iv _=>ms.length - (intOf iv).toNat)
   case atStart=>exact⟨0,by omega,rfl,hgm,hbr⟩
   case round=>
    clear hgm hbr;obtain⟨i,hi,rfl,hg,hbr⟩:=hrel;have k1:=(hbr.block b0 hb0s).trans k0;have d1:wr.cell? ⟨b0,1,none⟩=some (.slice (some ⟨sb,so,none⟩) ss.length sc):=box_cell k1 rfl;have hcu1:=cell_kept hbr hcu;by_cases hlti:i < ms.length
    ·obtain rfl:=hma (by omega);obtain⟨hx8,hxc⟩:=hmc i hlti;obtain⟨x,hx⟩:=exE (ms.getD i []);have hxm:x∈ms:=(by rw[←hx,getD_eq hlti];exact List.getElem_mem hlti);have hxO:=hOm.out x hxm;rw[hx] at hx8 hxc;have hst:=qH (all_step (f:=fun m=>gr3 (m.getD 6 0) (ss.getD (m.getD 7 0).toNat [])) hlti hx);obtain⟨y0,y1,y2,y3,y4,y5,y6,y7,rfl⟩:=eight hx8;obtain⟨_,⟨f0,f31⟩,t0,tl⟩:=hxO;have f0:0≤y6:=f0;have f31:y6≤31:=f31;have t0:0≤y7:=t0;have tl:y7 < (ss.length:Int):=tl;obtain⟨t,rfl⟩:∃t:Nat,y7=t:=⟨y7.toNat,by omega⟩;have htl:t < ss.length:=(by omega);obtain⟨c0,c1,c2,c3,c4,c5,c6,c7⟩:=(hxc.keep hbr).all8;obtain⟨ks,hks⟩:=exE (ss.getD t []);obtain⟨u2,hcu2,hu2⟩:=hsc t htl;rw[hks] at hu2;have hkO:=qH (hO.out ks (by rw[←hks,getD_eq htl];exact List.getElem_mem htl))
     have hgk:Hid (((ks.drop 0).all (fun k=>insideB y6 (k.getD 6 0)) && ((ms.drop (i+1)).all (fun m=>gr3 (m.getD 6 0) (ss.getD (m.getD 7 0).toNat [])) && (ss.drop (s+1)).all (gr2 ss)))=E):=by
      show _=E;rw[←hg.out,hst.out,←Bool.and_assoc,List.drop_zero];show _=(gr3 y6 (ss.getD ((t:Int)).toNat []) && _ && _);rw[Int.toNat_natCast,hks];rfl
     clear hg hst hks hx hxm hx8 hxc;obtain⟨ka,kc,kb,ko,rfl,hka,hkc,hkl⟩:=hu2;have hbx:=hbr.alloc hbr.size (.cells #[.int .i64 y0,.int .i64 y1,.int .i64 y2,.int .i64 y3,.int .i64 y4,.int .i64 y5,.int .i64 y6,.int .i64 t] 100);have kx:=heap_alloc_new wr (.cells #[.int .i64 y0,.int .i64 y1,.int .i64 y2,.int .i64 y3,.int .i64 y4,.int .i64 y5,.int .i64 y6,.int .i64 t] 100);obtain⟨W2,hW2⟩:=exF (wr.alloc (.cells #[.int .i64 y0,.int .i64 y1,.int .i64 y2,.int .i64 y3,.int .i64 y4,.int .i64 y5,.int .i64 y6,.int .i64 t] 100));obtain⟨bx,hbxe⟩:=exF (wr.heap.size);rw[←hW2] at hbx kx;rw[←hbxe] at kx;have hbxs:=(Array.getElem?_eq_some_iff.1 kx).1;replace hW2:=qH hW2;replace hbxe:=qH hbxe;clear hbr;go_wp2;rw[←hW2.out,←hbxe.out];clear hW2 hbxe c0 c1 c2 c3 c4 c5 c6 c7 d1 k1 hcu1;go_loopw [6] (fun kv wr=>∃k:Nat,k≤ks.length∧kv = .int .i64 k∧Hid (((ks.drop k).all (fun k=>insideB y6 (k.getD 6 0)) && ((ms.drop (i+1)).all (fun m=>gr3 (m.getD 6 0) (ss.getD (m.getD 7 0).toNat [])) && (ss.drop (s+1)).all (gr2 ss)))=E)∧∃q,wr=W2.drewN q) (fun kv _=>ks.length - (intOf kv).toNat)
     case atStart=>exact⟨0,by omega,rfl,hgk,0,rfl⟩
     case round=>
      clear hgk;obtain⟨k,hk,rfl,hg,q,rfl⟩:=hrel;have hbq:=below_drewN hbx q;have k1:=(hbx.block b0 hb0s).trans k0;have d1:W2.cell? ⟨b0,1,none⟩=some (.slice (some ⟨sb,so,none⟩) ss.length sc):=box_cell k1 rfl;have kx1:W2.heap[bx]? = some (.cells #[.int .i64 y0,.int .i64 y1,.int .i64 y2,.int .i64 y3,.int .i64 y4,.int .i64 y5,.int .i64 y6,.int .i64 t] 100):=kx;have x6:W2.cell? ⟨bx,6,none⟩=some (.int .i64 y6):=box_cell kx1 rfl;have x7:W2.cell? ⟨bx,7,none⟩=some (.int .i64 t):=box_cell kx1 rfl;have hcu3:=cell_kept hbx hcu2;by_cases hltk:k < ks.length
      ·obtain rfl:=hka (by omega);obtain⟨hz8,hzc⟩:=hkc k hltk;obtain⟨z,hz⟩:=exE (ks.getD k []);have hzO:=hkO.out z (by rw[←hz,getD_eq hltk];exact List.getElem_mem hltk);rw[hz] at hz8 hzc;have hst:=qH (all_step (f:=fun k=>insideB y6 (k.getD 6 0)) hltk hz);obtain⟨z0,z1,z2,z3,z4,z5,z6,z7,rfl⟩:=eight hz8;obtain⟨_,⟨g0,g31⟩,_⟩:=hzO;have g0:0≤z6:=g0;have g31:z6≤31:=g31;obtain⟨_,_,_,_,_,_,e6,_⟩:=(hzc.keep hbx).all8;have HI:=fun W=>refInside y6 z6 W f0 (by omega) g0 (by omega);clear hz hz8 hzc hka hkc;by_cases hin:insideB y6 z6=true
       ·simp only[hin] at HI;have HQ:=qH (fun W=>(HI W).mono fun _ _ (h:_∧_)=>(⟨h.1,0,h.2.symm⟩:_∧Qt _ _));clear HI;replace hin:=qH hin;go_wp2;go_quiet ((go_at_call 90;exact quietOn (HQ.out _)))
        go_wp2;go_roundw
        case rel=>exact⟨k+1,by omega,by go_num,by show _=E;rw[←hg.out,hst.out];show _=(insideB y6 z6 && _ && _);rw[hin.out,Bool.true_and],_,rfl⟩
        case measure=>simp[intOf];omega
       ·replace hin:=eq_false_of_ne_true hin;simp only[hin] at HI;have HQ:=qH (fun W=>(HI W).mono fun _ _ (h:_∧_)=>(⟨h.1,0,h.2.symm⟩:_∧Qt _ _));clear HI;replace hin:=qH hin;go_wp2;go_quiet ((go_at_call 90;exact quietOn (HQ.out _)))
        go_wp2;go_ret;exact⟨ret_bool (by rw[←hg.out,hst.out];show _=(insideB y6 z6 && _ && _);rw[hin.out,Bool.false_and,Bool.false_and]),below_drewN (below_drewN (bt hb hbx hb.size) _) _⟩
      ·obtain rfl:k=ks.length:=(by omega);have hen:=qH (all_end (f:=fun k=>insideB y6 (k.getD 6 0)) hltk);clear hka hkc;go_wp2;go_roundw
       case rel=>exact⟨i+1,by omega,by go_num,by show _=E;rw[←hg.out,hen.out,Bool.true_and],hbq⟩
       case measure=>simp[intOf];omega
    ·obtain rfl:i=ms.length:=(by omega);have hen:=qH (all_end (f:=fun m=>gr3 (m.getD 6 0) (ss.getD (m.getD 7 0).toNat [])) hlti);clear hma hmc;go_wp2;go_roundw
     case rel=>exact⟨s+1,by omega,by go_num,by show _=E;rw[←hg.out,hen.out,Bool.true_and],hbr⟩
     case measure=>simp[intOf];omega
  ·obtain rfl:s=ss.length:=(by omega);have hen:=qH (all_end (f:=gr2 ss) hlt);clear hsa hsc;go_wp2;go_ret;exact⟨ret_bool (by rw[←hg.out,hen.out]),bt hb hbr hb.size⟩
def mvGo (n:Int) (len:Nat) (ms:List (List Int)) (i:Nat):Nat→Int
 | 0=>0
 | k+1=>if mvErr n len ms i ≠ 0 then mvErr n len ms i else mvGo n len ms (i+1) k
def stErr (n:Int) (len:Nat) (ms:List (List Int)):Int:=if ms.length=0 then 19 else mvGo n len ms 0 ms.length
def ssGo (n:Int) (len:Nat):List (List (List Int))→Int
 | []=>0
 | s::r=>if stErr n len s ≠ 0 then stErr n len s else ssGo n len r
def chkA (n:Int) (ss:List (List (List Int))):Int:=
 if n < 1∨5 < n then 2 else if ss.length < 1∨256 < ss.length∨4096 < movesN ss then 5 else if ssGo n ss.length ss ≠ 0 then ssGo n ss.length ss else if growsB ss then 0 else 21
theorem mvGo_stop {n:Int}{len:Nat}{ms:List (List Int)}{i k:Nat}{e:Int}(h:mvErr n len ms i=e) (he:e ≠ 0):mvGo n len ms i (k+1)=e:=by rw[mvGo,h,if_pos he]
theorem mvGo_step {n:Int}{len:Nat}{ms:List (List Int)}{i k:Nat}(h:mvErr n len ms i=0):mvGo n len ms i (k+1)=mvGo n len ms (i+1) k:=by rw[mvGo,if_neg (fun q=>q h)]
theorem mvGo_zero {n:Int}{len:Nat}{ms:List (List Int)}:∀ {k i:Nat},mvGo n len ms i k=0→∀j,i≤j→j < i+k→mvErr n len ms j=0
 | 0,i,_,j,h1,h2=>by omega
 | k+1,i,h,j,h1,h2=>by
  by_cases he:mvErr n len ms i=0
  ·rw[mvGo_step he] at h;by_cases hj:j=i
   ·subst hj;exact he
   ·exact mvGo_zero h j (by omega) (by omega)
  ·rw[mvGo_stop rfl he] at h;exact absurd h he
theorem ssGo_stop {n:Int}{len:Nat}{s:List (List Int)}{r:List (List (List Int))}{e:Int}(h:stErr n len s=e) (he:e ≠ 0):ssGo n len (s::r)=e:=by rw[ssGo,h,if_pos he]
theorem ssGo_zero {n:Int}{len:Nat}:∀ {ss:List (List (List Int))},ssGo n len ss=0→∀s∈ss,stErr n len s=0
 | [],_,s,hs=>by simp at hs
 | x::r,h,s,hs=>by
  by_cases he:stErr n len x=0
  ·rw[ssGo,if_neg (fun q=>q he)] at h;rcases List.mem_cons.1 hs with rfl|hs
   ·exact he
   ·exact ssGo_zero h s hs
  ·rw[ssGo,if_pos he] at h;exact absurd h he
theorem chkSet_zero {n x:Int}(h:chkSet n x=0):(1≤n∧n≤5)∧0≤x∧x < twoI n:=by
 unfold chkSet at h;by_cases hp:procE n ≠ 0
 ·rw[if_pos hp] at h;cases h
 ·rw[if_neg hp] at h;by_cases hx:x < 0∨twoI n≤x
  ·rw[if_pos hx] at h;cases h
  ·refine⟨?_,by omega⟩;by_cases hn:n < 1∨5 < n
   ·exact absurd (show procE n ≠ 0 by rw[procE,if_pos hn];decide) hp
   ·omega
theorem twoI_le {n:Int}:twoI n≤32:=by unfold twoI;split;omega;split;omega;split;omega;split;omega;split;omega;omega
theorem chkRd_zero {r:List Int}(h:chkRd r=0):chkSet (r.getD 0 0) (r.getD 6 0)=0:=by
 unfold chkRd at h;by_cases hc:chkGr (r.getD 0 0) ((r.drop 1).take 5) ≠ 0
 ·rw[if_pos hc] at h;exact absurd h hc
 ·rwa [if_neg hc] at h
theorem mvErr_zero {n:Int}{len:Nat}{ms:List (List Int)}{i:Nat}(h:mvErr n len ms i=0) :
  chkRd ((ms.getD i []).take 7)=0∧(ms.getD i []).getD 0 0=n∧(0 < i→cmpL ((ms.getD (i - 1) []).take 7) ((ms.getD i []).take 7) < 0)∧0≤(ms.getD i []).getD 7 0∧(ms.getD i []).getD 7 0 < (len:Int):=by
 unfold mvErr at h;by_cases h1:chkRd ((ms.getD i []).take 7) ≠ 0
 ·rw[if_pos h1] at h;exact absurd h h1
 rw[if_neg h1] at h;by_cases h2:(ms.getD i []).getD 0 0 ≠ n
 ·rw[if_pos h2] at h;cases h
 rw[if_neg h2] at h;by_cases h3:0 < i∧0≤cmpL ((ms.getD (i - 1) []).take 7) ((ms.getD i []).take 7)
 ·rw[if_pos h3] at h;cases h
 rw[if_neg h3] at h;by_cases h4:(ms.getD i []).getD 7 0 < 0∨(len:Int)≤(ms.getD i []).getD 7 0
 ·rw[if_pos h4] at h;cases h
 exact⟨Decidable.not_not.1 h1,Decidable.not_not.1 h2,fun hi=>by
  by_cases hc:0≤cmpL ((ms.getD (i - 1) []).take 7) ((ms.getD i []).take 7)
  ·exact absurd ⟨hi,hc⟩ h3
  ·omega,by omega,by omega⟩
theorem getD_take7 {x:List Int}{j:Nat}(h:j < 7):(x.take 7).getD j 0=x.getD j 0:=by
 rw[List.getD_eq_getElem?_getD,List.getD_eq_getElem?_getD,List.getElem?_take_of_lt h]
theorem stOK_of {n:Int}{ss:List (List (List Int))}(h8:∀s∈ss,∀m∈s,m.length=8) (h:ssGo n ss.length ss=0):StOK ss:=by
 intro s hs m hm;have h1:=ssGo_zero h s hs;unfold stErr at h1;by_cases he:s.length=0
 ·rw[if_pos he] at h1;cases h1
 rw[if_neg he] at h1;obtain⟨j,hj,rfl⟩:=List.mem_iff_getElem.1 hm;obtain⟨c1,_,_,c4,c5⟩:=mvErr_zero (mvGo_zero h1 j (by omega) (by omega));rw[getD_eq hj] at c1 c4 c5;obtain⟨_,d1,d2⟩:=chkSet_zero (chkRd_zero c1);rw[getD_take7 (by decide)] at d1 d2;have:=twoI_le (n:=(s[j].take 7).getD 0 0)
 exact⟨h8 s hs _ hm,⟨d1,by omega⟩,c4,c5⟩
theorem AdvV.len8 {w:World}{v:Value}{n:Int}{ss:List (List (List Int))}(h:AdvV w v n ss):∀s∈ss,∀m∈s,m.length=8:=by
 obtain⟨sv,_,sa,sc,sb,so,_,_,hsc,_⟩:=h;intro s hs m hm;obtain⟨j,hj,rfl⟩:=List.mem_iff_getElem.1 hs;obtain⟨u,_,hu⟩:=hsc j hj;obtain⟨_,_,_,_,_,_,hc,_⟩:=hu;obtain⟨i,hi,rfl⟩:=List.mem_iff_getElem.1 hm;have:=(hc i (by rw[getD_eq hj];exact hi)).1
 rwa [getD_eq hj,getD_eq hi] at this
theorem refCheckA {w:World}{v:Value}{n:Int}{ss:List (List (List Int))}(hA:AdvV w v n ss):Calls Tryz.prog 29 #[v] w fun e w'=>e = .returned (.int .i64 (chkA n ss))∧Below w.heap.size w w':=by
 have h8:=hA.len8;have hA':=hA;obtain⟨sv,rfl,sa,sc,sb,so,rfl,hsa,hsc,hsl⟩:=hA';have hb:=(Below.refl w.heap.size w).alloc (Nat.le_refl _) (.cells #[.int .i64 n,.slice sa ss.length sc] 24);have k0:=heap_alloc_new w (.cells #[.int .i64 n,.slice sa ss.length sc] 24);have hAb:=hA.keep hb;replace hsc:=hsc.keep hb;obtain⟨W1,hW1⟩:=exF (w.alloc (.cells #[.int .i64 n,.slice sa ss.length sc] 24));obtain⟨b0,hb0⟩:=exF (w.heap.size);rw[←hW1] at hb k0 hsc hAb;rw[←hb0] at k0;have hb0s:=(Array.getElem?_eq_some_iff.1 k0).1;have d0:W1.cell? ⟨b0,0,none⟩=some (.int .i64 n):=box_cell k0 rfl;have d1:W1.cell? ⟨b0,1,none⟩=some (.slice sa ss.length sc):=box_cell k0 rfl;have hbB:Below b0 w W1:=hb0▸hb;replace hW1:=qH hW1;replace hb0:=qH hb0;by_cases hn:n < 1∨5 < n
 ·have hE:=qH (show chkA n ss=2 by rw[chkA,if_pos hn]);by_cases hn1:n < 1
  ·have hn1':decide (n < 1)=true:=decide_eq_true hn1;clear hsc;go_enter Tryz.func29, Tryz.ntmps29
   go_wp2;rw[←hW1.out,←hb0.out];clear hW1 hb0;go_wp2;go_ret;first|exact⟨ret_int hE.out.symm,hb⟩|exact⟨ret_int hE.out.symm,hbB⟩
  ·have hn1':decide (n < 1)=false:=decide_eq_false hn1;have hn5':decide (5 < n)=true:=decide_eq_true (by omega);clear hsc;go_enter Tryz.func29, Tryz.ntmps29
   go_wp2;rw[←hW1.out,←hb0.out];clear hW1 hb0;go_wp2;go_ret;first|exact⟨ret_int hE.out.symm,hb⟩|exact⟨ret_int hE.out.symm,hbB⟩
 ·have hn1':decide (n < 1)=false:=decide_eq_false (by omega);have hn5':decide (5 < n)=false:=decide_eq_false (by omega);by_cases hl1:ss.length < 1
  ·have hE:=qH (show chkA n ss=5 by rw[chkA,if_neg hn,if_pos (.inl hl1)]);have hl1':decide ((ss.length:Int) < 1)=true:=decide_eq_true (by omega);clear hsc;go_enter Tryz.func29, Tryz.ntmps29
   go_wp2;rw[←hW1.out,←hb0.out];clear hW1 hb0;go_wp2;go_ret;first|exact⟨ret_int hE.out.symm,hb⟩|exact⟨ret_int hE.out.symm,hbB⟩
  ·have hl1':decide ((ss.length:Int) < 1)=false:=decide_eq_false (by omega);by_cases hl2:256 < ss.length
   ·have hE:=qH (show chkA n ss=5 by rw[chkA,if_neg hn,if_pos (.inr (.inl hl2))]);have hl2':decide (256 < (ss.length:Int))=true:=decide_eq_true (by omega);clear hsc;go_enter Tryz.func29, Tryz.ntmps29
    go_wp2;rw[←hW1.out,←hb0.out];clear hW1 hb0;go_wp2;go_ret;first|exact⟨ret_int hE.out.symm,hb⟩|exact⟨ret_int hE.out.symm,hbB⟩
   ·have hl2':decide (256 < (ss.length:Int))=false:=decide_eq_false (by omega);have hl:ss.length≤256:=(by omega);have HM:=refMoves hAb hl;obtain⟨M,hM⟩:=exE (movesN ss);rw[hM] at HM;replace HM:=qH HM;by_cases hm:4096 < M
    ·have hE:=qH (show chkA n ss=5 by rw[chkA,if_neg hn,if_pos (.inr (.inr (by omega)))]);have hm':decide (4096 < (M:Int))=true:=decide_eq_true (by omega);clear hsc;go_enter Tryz.func29, Tryz.ntmps29
     go_wp2_with fail
     rw[←hW1.out,←hb0.out];clear hW1 hb0;go_wp2_with fail
     refine HM.out.mono ?_;rintro e w1 ⟨rfl,hb1⟩;go_wp2;go_ret;first|exact⟨ret_int hE.out.symm,bt hb hb1 hb.size⟩|exact⟨ret_int hE.out.symm,bt hbB hb1 hbB.size⟩
    ·have hm':decide (4096 < (M:Int))=false:=decide_eq_false (by omega);obtain⟨G,hG⟩:=exE (chkA n ss);rw[hG];have hG2:(if ssGo n ss.length ss ≠ 0 then ssGo n ss.length ss else if growsB ss then 0 else 21)=G:=(by rw[←hG,chkA,if_neg hn,if_neg (show ¬(ss.length < 1∨256 < ss.length∨4096 < movesN ss) by omega)]);have hst0:ssGo n ss.length ss=0→StOK ss:=stOK_of h8;replace hst0:=qH hst0;replace hG2:=qH hG2;have hE0:Hid (ssGo n ss.length (ss.drop 0)=ssGo n ss.length ss):=rfl;clear hG;go_enter Tryz.func29, Tryz.ntmps29
     go_wp2_with fail
     rw[←hW1.out,←hb0.out];clear hW1 hb0;go_wp2_with fail
     refine HM.out.mono ?_;rintro e w1 ⟨rfl,hb1⟩;go_wp2;clear d0 d1;go_loopw [3] (fun sv wr=>∃s:Nat,s≤ss.length∧sv = .int .i64 s∧Hid (ssGo n ss.length (ss.drop s)=ssGo n ss.length ss)∧Below W1.heap.size W1 wr) (fun sv _=>ss.length - (intOf sv).toNat)
     case atStart=>exact⟨0,by omega,rfl,hE0,hb1⟩
     case round=>
      clear hE0 hb1;obtain⟨s,hs,rfl,hg,hbr⟩:=hrel;have k1:=(hbr.block b0 hb0s).trans k0;have d1:wr.cell? ⟨b0,1,none⟩=some (.slice sa ss.length sc):=box_cell k1 rfl;have d0:wr.cell? ⟨b0,0,none⟩=some (.int .i64 n):=box_cell k1 rfl;by_cases hlt:s < ss.length
      ·obtain rfl:=hsa (by omega);obtain⟨ms,hms⟩:=exE (ss.getD s []);obtain⟨u,hcu,hu⟩:=(hsc.keep hbr) s hlt;rw[hms] at hu;have hdr:=drop_cons hlt ([]:List (List Int));rw[hms] at hdr;have hu':=hu;obtain⟨ma,mc,mb,mo,rfl,hma,hmc,hml⟩:=hu';by_cases hz:ms.length=0
       ·have hz':((ms.length:Int) == 0)=true:=(by simp[hz]);have hX:ssGo n ss.length ss=19:=(by rw[←hg.out,hdr];exact ssGo_stop (by rw[stErr,if_pos hz]) (by decide));have hE:=qH (show G=19 by rw[←hG2.out,if_pos (by rw[hX];decide),hX]);clear hX hG2 hdr hg hma hmc hu hsc hsa hz;go_wp2;go_ret;exact⟨ret_int hE.out.symm,bt hb hbr hb.size⟩
       ·have hz':((ms.length:Int) == 0)=false:=by
         have : ¬((ms.length:Int)=0):=(by omega);exact beq_eq_false_iff_ne.2 this
        have hgm:Hid ((if mvGo n ss.length ms 0 (ms.length - 0) ≠ 0 then mvGo n ss.length ms 0 (ms.length - 0) else ssGo n ss.length (ss.drop (s+1)))=ssGo n ss.length ss):=by
         show _=_;rw[←hg.out,hdr,ssGo,stErr,if_neg hz];rfl
        replace hdr:=qH hdr;replace hz:=qH hz;clear hg;go_wp2;clear d0 d1 k1;go_loopw [4] (fun iv wr=>∃i:Nat,i≤ms.length∧iv = .int .i64 i∧Hid ((if mvGo n ss.length ms i (ms.length - i) ≠ 0 then mvGo n ss.length ms i (ms.length - i) else ssGo n ss.length (ss.drop (s+1)))=ssGo n ss.length ss)∧Below W1.heap.size W1 wr) (fun iv _=>ms.length - (intOf iv).toNat)
        case atStart=>exact⟨0,by omega,rfl,hgm,hbr⟩
        case round=>
         clear hgm hcu hu hma hmc hml hbr hz';obtain⟨i,hi,rfl,hg,hbr⟩:=hrel;obtain⟨u,hcu,hu⟩:=(hsc.keep hbr) s hlt;rw[hms] at hu;have hu':=hu;obtain⟨ma,mc,mb,mo,rfl,hma,hmc,hml⟩:=hu';have k1:=(hbr.block b0 hb0s).trans k0;have d1:wr.cell? ⟨b0,1,none⟩=some (.slice (some ⟨sb,so,none⟩) ss.length sc):=box_cell k1 rfl;have d0:wr.cell? ⟨b0,0,none⟩=some (.int .i64 n):=box_cell k1 rfl;by_cases hlti:i < ms.length
         ·have HV:=fun W (hW:Below wr.heap.size wr W)=>refMove ((hAb.keep hbr).keep hW) (hu.keep hW) hlti hl;obtain⟨e,he⟩:=exE (mvErr n ss.length ms i);rw[he] at HV;replace HV:=qH HV;have hi1:ms.length - i=(ms.length - (i+1))+1:=(by omega);by_cases hez:e=0
          ·subst hez
           have hg2:Hid ((if mvGo n ss.length ms (i+1) (ms.length - (i+1)) ≠ 0 then mvGo n ss.length ms (i+1) (ms.length - (i+1)) else ssGo n ss.length (ss.drop (s+1)))=ssGo n ss.length ss):=by
            show _=_;rw[←hg.out,hi1,mvGo_step he]
           clear hg he hu hma hmc hi1;go_wp2;go_still_tail 7,(by kernel_rfl)
           change wpList _ _ _ _ _ wr.drew;go_wp2_with fail
           refine(HV.out _ (Below.refl _ _).drew).mono ?_;rintro e w2 ⟨rfl,hb2⟩;replace hb2:=bt hbr (below_of_drew hb2) hbr.size;go_wp2;go_roundw
           case rel=>exact⟨i+1,by omega,by go_num,hg2,hb2⟩
           case measure=>simp[intOf];omega
          ·have hez':(e != 0)=true:=(by simpa using hez);have hX:ssGo n ss.length ss=e:=(by rw[←hg.out,hi1,mvGo_stop he hez,if_pos hez]);have hE:=qH (show G=e by rw[←hG2.out,if_pos (by rw[hX];exact hez),hX]);clear hg he hu hma hmc hi1 hX hG2 hez;go_wp2;go_still_tail 7,(by kernel_rfl)
           change wpList _ _ _ _ _ wr.drew;go_wp2_with fail
           refine(HV.out _ (Below.refl _ _).drew).mono ?_;rintro e w2 ⟨rfl,hb2⟩;replace hb2:=bt hbr (below_of_drew hb2) hbr.size;go_wp2;go_ret;exact⟨ret_int hE.out.symm,bt hb hb2 hb.size⟩
         ·obtain rfl:i=ms.length:=by omega
          have hg2:Hid (ssGo n ss.length (ss.drop (s+1))=ssGo n ss.length ss):=by
           show _=_;rw[←hg.out,Nat.sub_self,mvGo,if_neg (by decide)]
          clear hg hu hma hmc;go_wp2;go_roundw
          case rel=>exact⟨s+1,by omega,by go_num,hg2,hbr⟩
          case measure=>simp[intOf];omega
      ·obtain rfl:s=ss.length:=(by omega);have hX:ssGo n ss.length ss=0:=(by rw[←hg.out,List.drop_length,ssGo]);have HG:=fun W (hW:Below wr.heap.size wr W)=>refGrows ((hAb.keep hbr).keep hW) hl (hst0.out hX);rw[hX,if_neg (by decide)] at hG2;clear hg hX hst0 hsc hsa;obtain⟨B,hB⟩:=exE (growsB ss);rw[hB] at HG hG2;replace HG:=qH HG;clear hB;by_cases hBt:B=true
       ·subst hBt;have hE:=qH (show G=0 from hG2.out.symm);clear hG2;go_wp2_with fail
        refine(HG.out _ (Below.refl _ _)).mono ?_;rintro e w2 ⟨rfl,hb2⟩;go_wp2;go_ret;exact⟨ret_int hE.out.symm,bt hb (bt hbr hb2 hbr.size) hb.size⟩
       ·obtain rfl:=eq_false_of_ne_true hBt;have hE:=qH (show G=21 from hG2.out.symm);clear hG2;go_wp2_with fail
        refine(HG.out _ (Below.refl _ _)).mono ?_;rintro e w2 ⟨rfl,hb2⟩;go_wp2;go_ret;exact⟨ret_int hE.out.symm,bt hb (bt hbr hb2 hbr.size) hb.size⟩
theorem box2 {w:World}{b:Nat}{t:TypeId}{u0 u1:Value}(h:w.heap[b]? = some (.cells #[u0,u1] t)):w.cell? ⟨b,0,none⟩=some u0∧w.cell? ⟨b,1,none⟩=some u1:=⟨box_cell h rfl,box_cell h rfl⟩
theorem box8 {w:World}{b:Nat}{t:TypeId}{u0 u1 u2 u3 u4 u5 u6 u7:Value}(h:w.heap[b]? = some (.cells #[u0,u1,u2,u3,u4,u5,u6,u7] t)) :
  w.cell? ⟨b,0,none⟩=some u0∧w.cell? ⟨b,1,none⟩=some u1∧w.cell? ⟨b,2,none⟩=some u2∧w.cell? ⟨b,3,none⟩=some u3∧w.cell? ⟨b,4,none⟩=some u4∧w.cell? ⟨b,5,none⟩=some u5∧w.cell? ⟨b,6,none⟩=some u6∧w.cell? ⟨b,7,none⟩=some u7:=
 ⟨box_cell h rfl,box_cell h rfl,box_cell h rfl,box_cell h rfl,box_cell h rfl,box_cell h rfl,box_cell h rfl,box_cell h rfl⟩
theorem stateCall {w:World}{v mv:Value}{n:Int}{ss:List (List (List Int))}{ms:List (List Int)}(hA:AdvV w v n ss) (hM:KS 8 w mv ms) (_hl:ss.length≤256) :
  Calls Tryz.prog 92 #[v,mv] w fun e w'=>e = .returned (.int .i64 (stErr n ss.length ms))∧Below w.heap.size w w':=by
 obtain⟨sv,rfl,sa,sc,sb,so,rfl,hsa,hsc,_⟩:=hA;obtain⟨ma,mc,mb,mo,rfl,hma,hmc,hml⟩:=hM;have hb:=(Below.refl w.heap.size w).alloc (Nat.le_refl _) (.cells #[.int .i64 n,.slice sa ss.length sc] 24);have k0:=heap_alloc_new w (.cells #[.int .i64 n,.slice sa ss.length sc] 24);obtain⟨W1,hW1⟩:=exF (w.alloc (.cells #[.int .i64 n,.slice sa ss.length sc] 24));obtain⟨b0,hb0⟩:=exF (w.heap.size);rw[←hW1] at hb k0;rw[←hb0] at k0;have hb0s:=(Array.getElem?_eq_some_iff.1 k0).1;replace hmc:CK 8 W1 mb mo ms:=hmc.keep hb;obtain⟨G,hG⟩:=exE (stErr n ss.length ms);have hbB:Below b0 w W1:=hb0▸hb;replace hW1:=qH hW1;replace hb0:=qH hb0;clear hsa hsc;by_cases hz:ms.length=0
 ·have hz':((ms.length:Int) == 0)=true:=by simp[hz]
  have hE:=qH (show stErr n ss.length ms=19 by rw[stErr,if_pos hz]);clear hz hG;go_enter Tryz.func92, Tryz.ntmps92
  go_wp2;rw[←hW1.out,←hb0.out];clear hW1 hb0;go_wp2;go_ret;first|exact⟨ret_int hE.out.symm,hb⟩|exact⟨ret_int hE.out.symm,hbB⟩
 ·have hz':((ms.length:Int) == 0)=false:=by
   have : ¬((ms.length:Int)=0):=(by omega);exact beq_eq_false_iff_ne.2 this
  have hg0:Hid (mvGo n ss.length ms 0 (ms.length - 0)=G):=by show _=_;rw[←hG,stErr,if_neg hz];rfl
  replace hG:=qH hG;clear hz;go_enter Tryz.func92, Tryz.ntmps92
  go_wp2;rw[←hW1.out,←hb0.out];clear hW1 hb0;go_wp2;go_loopw [13] (fun iv wr=>∃i:Nat,i≤ms.length∧iv = .int .i64 i∧Hid (mvGo n ss.length ms i (ms.length - i)=G)∧Below W1.heap.size W1 wr) (fun iv _=>ms.length - (intOf iv).toNat)
  case atStart=>exact⟨0,by omega,rfl,hg0,Below.refl _ _⟩
  case round=>
   clear hg0;obtain⟨i,hi,rfl,hg,hbr⟩:=hrel;have k1:=(hbr.block b0 hb0s).trans k0;by_cases hlt:i < ms.length
   ·obtain rfl:=hma (by omega);obtain⟨hx8,hxc⟩:=hmc i hlt;obtain⟨x,hx⟩:=exE (ms.getD i []);rw[hx] at hx8 hxc;obtain⟨y0,y1,y2,y3,y4,y5,y6,y7,rfl⟩:=eight hx8;obtain⟨c0,c1,c2,c3,c4,c5,c6,c7⟩:=(hxc.keep hbr).all8;have hi1:ms.length - i=(ms.length - (i+1))+1:=(by omega);rw[hi1] at hg;clear hx8 hxc hi1;replace hx:=qH hx;obtain⟨E,hE⟩:=exE (chkRd [y0,y1,y2,y3,y4,y5,y6]);have HC:=fun W=>roundCheck y0 y1 y2 y3 y4 y5 y6 W;rw[hE] at HC;replace HC:=qH HC;replace hE:=qH hE;obtain⟨W2,hW2⟩:=exF (wr.alloc (.cells #[.int .i64 y0,.int .i64 y1,.int .i64 y2,.int .i64 y3,.int .i64 y4,.int .i64 y5,.int .i64 y6,.int .i64 y7] 100));obtain⟨b2,hb2⟩:=exF (wr.heap.size);have hbr2:Below W1.heap.size W1 W2:=(by rw[hW2];exact hbr.alloc hbr.size _);have m0:W2.heap[b2]? = some (.cells #[.int .i64 y0,.int .i64 y1,.int .i64 y2,.int .i64 y3,.int .i64 y4,.int .i64 y5,.int .i64 y6,.int .i64 y7] 100):=(by rw[hW2,hb2];exact heap_alloc_new _ _);have hb2s:=(Array.getElem?_eq_some_iff.1 m0).1;obtain⟨p0,p1,p2,p3,p4,p5,p6,p7⟩:=box8 m0;replace hW2:=qH hW2;replace hb2:=qH hb2;go_wp2_with fail
    rw[←hW2.out,←hb2.out];clear hW2 hb2 c0 c1 c2 c3 c4 c5 c6 c7;go_wp2_with fail
    clear p0 p1 p2 p3 p4 p5 p6 p7;refine(HC.out _).mono ?_;rintro e w3 ⟨rfl,hb3⟩;have hbr3:=bt hbr2 hb3 hbr2.size;have k3:=(hbr3.block b0 hb0s).trans k0;have m3:=(hb3.block b2 hb2s).trans m0;have hb2s3:=(Array.getElem?_eq_some_iff.1 m3).1;obtain⟨d0,d1⟩:=box2 k3;obtain⟨p0,p1,p2,p3,p4,p5,p6,p7⟩:=box8 m3;clear k1 m0 hb2s;by_cases hz:E=0
    ·subst hz;have hz1:((0:Int) != 0)=false:=rfl;by_cases hn:y0=n
     ·have hn':(y0 != n)=false:=(by simp[hn]);replace hn:=qH hn;by_cases hi0:0 < i
      ·have hi1:decide (0 < i)=true:=decide_eq_true hi0;obtain⟨hy8,hyc⟩:=hmc (i - 1) (by omega);obtain⟨y,hy⟩:=exE (ms.getD (i - 1) []);rw[hy] at hy8 hyc;obtain⟨z0,z1,z2,z3,z4,z5,z6,z7,rfl⟩:=eight hy8;obtain⟨j,rfl⟩:∃j,i=j+1:=⟨i - 1,by omega⟩;rw[Nat.add_sub_cancel] at hyc hy;have HM:=fun W=>roundCompare z0 z1 z2 z3 z4 z5 z6 y0 y1 y2 y3 y4 y5 y6 W;obtain⟨C,hC⟩:=exE (cmpL [z0,z1,z2,z3,z4,z5,z6] [y0,y1,y2,y3,y4,y5,y6]);rw[hC] at HM;replace HM:=qH HM;replace hC:=qH hC;replace hy:=qH hy;obtain⟨e0,e1,e2,e3,e4,e5,e6,_⟩:=(hyc.keep hbr3).all8;have hwr:IntKind.i64.wrap (j:Int)=(j:Int):=IntWalk.i64_in _ (by omega);have hj0:(0:Int)≤(j:Int):=Int.natCast_nonneg _;have hj1:(j:Int) < (ms.length:Int):=by omega
       have h3:Hid (mvErr n ss.length ms (j+1)=if 0≤C then 14 else if y7 < 0∨(ss.length:Int)≤y7 then 2 else 0):=by
        show _=_;have hy':ms.getD (j+1 - 1) [] = [z0,z1,z2,z3,z4,z5,z6,z7]:=(by rw[Nat.add_sub_cancel];exact hy.out);by_cases hc0:0≤C
        ·rw[if_pos hc0];exact mvErr_3 hx.out hy' hE.out hn.out (by omega) (by show 0≤cmpL [z0,z1,z2,z3,z4,z5,z6] [y0,y1,y2,y3,y4,y5,y6];rw[hC.out];exact hc0)
        ·have hc3 : ¬(0 < j+1∧0≤cmpL ((ms.getD (j+1 - 1) []).take 7) ([y0,y1,y2,y3,y4,y5,y6,y7].take 7)):=fun k=>by
          have k2:=k.2;rw[hy'] at k2;have k3:0≤cmpL [z0,z1,z2,z3,z4,z5,z6] [y0,y1,y2,y3,y4,y5,y6]:=k2;rw[hC.out] at k3;exact hc0 k3
         rw[if_neg hc0];by_cases hc4:y7 < 0∨(ss.length:Int)≤y7
         ·rw[if_pos hc4];exact mvErr_4 hx.out hE.out hn.out hc3 hc4
         ·rw[if_neg hc4];exact mvErr_5 hx.out hE.out hn.out hc3 hc4
       clear hy8 hyc hy hC;go_wp2;go_still_tail 11,(by kernel_rfl)
       change wpList _ _ _ _ _ w3.drew;clear hwr;go_wp2_with fail
       clear p0 p1 p2 p3 p4 p5 p6 p7 e0 e1 e2 e3 e4 e5 e6;refine(HM.out _).mono ?_;rintro e w4 ⟨rfl,hb4⟩;replace hb4:=below_of_drew hb4;have hbr4:=bt hbr3 hb4 hbr3.size;have m4:=(hb4.block b2 hb2s3).trans m3;have k4:=(hbr4.block b0 hb0s).trans k0;obtain⟨_,_,_,_,_,_,_,p7⟩:=box8 m4;obtain⟨_,d1⟩:=box2 k4;clear m4 k4 m3 k3 hb4 hbr3;by_cases hc0:0≤C
       ·have hc1:decide (0≤C)=true:=decide_eq_true hc0;have hF:=qH (show stErr n ss.length ms=14 by rw[hG.out,←hg.out,mvGo_stop (h3.out.trans (if_pos hc0)) (by decide)]);clear h3 hg hc0;go_wp2;go_ret;exact⟨ret_int hF.out.symm,bt hb hbr4 hb.size⟩
       ·have hc1:decide (0≤C)=false:=decide_eq_false hc0;by_cases q1:y7 < 0
        ·have q1':decide (y7 < 0)=true:=decide_eq_true q1;have hF:=qH (show stErr n ss.length ms=2 by rw[hG.out,←hg.out,mvGo_stop (h3.out.trans ((if_neg hc0).trans (if_pos (.inl q1)))) (by decide)]);clear h3 hg hc0 q1;go_wp2;go_ret;exact⟨ret_int hF.out.symm,bt hb hbr4 hb.size⟩
        ·have q1':decide (y7 < 0)=false:=decide_eq_false q1;by_cases q2:(ss.length:Int)≤y7
         ·have q2':decide ((ss.length:Int)≤y7)=true:=decide_eq_true q2;have hF:=qH (show stErr n ss.length ms=2 by rw[hG.out,←hg.out,mvGo_stop (h3.out.trans ((if_neg hc0).trans (if_pos (.inr q2)))) (by decide)]);clear h3 hg hc0 q1 q2;go_wp2;go_ret;exact⟨ret_int hF.out.symm,bt hb hbr4 hb.size⟩
         ·have q2':decide ((ss.length:Int)≤y7)=false:=decide_eq_false q2;have hF:Hid (mvGo n ss.length ms (j+1+1) (ms.length - (j+1+1))=G):=(by show _=_;rw[←hg.out,mvGo_step (h3.out.trans ((if_neg hc0).trans (if_neg (by omega))))]);clear h3 hg hc0 q1 q2;go_wp2;go_roundw
          case rel=>exact⟨j+1+1,by omega,by go_num,hF,hbr4⟩
          case measure=>simp[intOf];omega
      ·have hi1:decide (0 < i)=false:=decide_eq_false hi0;have hc3 : ¬(0 < i∧0≤cmpL ((ms.getD (i - 1) []).take 7) ([y0,y1,y2,y3,y4,y5,y6,y7].take 7)):=fun k=>hi0 k.1
       have h3:Hid (mvErr n ss.length ms i=if y7 < 0∨(ss.length:Int)≤y7 then 2 else 0):=by
        show _=_;by_cases hc4:y7 < 0∨(ss.length:Int)≤y7
        ·rw[if_pos hc4];exact mvErr_4 hx.out hE.out hn.out hc3 hc4
        ·rw[if_neg hc4];exact mvErr_5 hx.out hE.out hn.out hc3 hc4
       clear hc3 hi0 m3 k3;go_wp2;go_quiet (fail)
       by_cases q1:y7 < 0
       ·have q1':decide (y7 < 0)=true:=decide_eq_true q1;have hF:=qH (show stErr n ss.length ms=2 by rw[hG.out,←hg.out,mvGo_stop (h3.out.trans (if_pos (.inl q1))) (by decide)]);clear h3 hg q1;go_wp2;go_ret;exact⟨ret_int hF.out.symm,below_drewN (bt hb hbr3 hb.size) _⟩
       ·have q1':decide (y7 < 0)=false:=decide_eq_false q1;by_cases q2:(ss.length:Int)≤y7
        ·have q2':decide ((ss.length:Int)≤y7)=true:=decide_eq_true q2;have hF:=qH (show stErr n ss.length ms=2 by rw[hG.out,←hg.out,mvGo_stop (h3.out.trans (if_pos (.inr q2))) (by decide)]);clear h3 hg q1 q2;go_wp2;go_ret;exact⟨ret_int hF.out.symm,below_drewN (bt hb hbr3 hb.size) _⟩
        ·have q2':decide ((ss.length:Int)≤y7)=false:=decide_eq_false q2;have hF:Hid (mvGo n ss.length ms (i+1) (ms.length - (i+1))=G):=(by show _=_;rw[←hg.out,mvGo_step (h3.out.trans (if_neg (by omega)))]);clear h3 hg q1 q2;go_wp2;go_roundw
         case rel=>exact⟨i+1,by omega,by go_num,hF,below_drewN hbr3 _⟩
         case measure=>simp[intOf];omega
     ·have hn':(y0 != n)=true:=(by simpa using hn);have hF:=qH (show stErr n ss.length ms=22 by rw[hG.out,←hg.out,mvGo_stop (mvErr_2 hx.out hE.out hn) (by decide)]);clear hg hx hE hn;go_wp2;go_ret;exact⟨ret_int hF.out.symm,bt hb hbr3 hb.size⟩
    ·have hz':(E != 0)=true:=by simpa using hz
     have hF:=qH (show stErr n ss.length ms=E by
      rw[hG.out,←hg.out];have e1:=mvErr_1 (n:=n) (len:=ss.length) hx.out (by rw[show([y0,y1,y2,y3,y4,y5,y6,y7]:List Int).take 7 = [y0,y1,y2,y3,y4,y5,y6] from rfl,hE.out];exact hz);exact mvGo_stop (e1.trans hE.out) hz)
     clear hg hx hE hz;go_wp2;go_ret;exact⟨ret_int hF.out.symm,bt hb hbr3 hb.size⟩
   ·obtain rfl:i=ms.length:=(by omega);have hF:=qH (show stErr n ss.length ms=0 by rw[hG.out,←hg.out,Nat.sub_self,mvGo]);clear hg;go_wp2;go_ret;exact⟨ret_int hF.out.symm,bt hb hbr hb.size⟩
theorem takes_next {α:Type}{xs ys:List α}{i:Nat}(h:xs.take i=ys.take i) (hx:i < xs.length) (hy:i < ys.length) {d:α}(he:xs.getD i d=ys.getD i d):xs.take (i+1)=ys.take (i+1):=by
 rw[take_snoc hx d,take_snoc hy d,h,he]
theorem takes_all {α:Type}{xs ys:List α}{i:Nat}(h:xs.take i=ys.take i) (hx:i=xs.length) (hy:i=ys.length):xs=ys:=by
 have h1:xs.take i=xs:=List.take_of_length_le (by omega);have h2:ys.take i=ys:=List.take_of_length_le (by omega);rw[←h1,←h2,h]
theorem Qt.step {a b:World}(h:Qt a b) (n:Nat):Qt a (b.drewN n):=h.trans (Qt.mk' b n)
theorem eqInts {w:World}{u v:Value}{xs ys:List Int}(hx:Ints w u xs) (hy:Ints w v ys) :
  Calls Tryz.prog 171 #[u,v] w fun e w'=>e = .returned (.bool (decide (xs=ys)))∧Qt w w':=by
 obtain⟨xa,xc,xb,xo,rfl,hxa,hxc,_⟩:=hx;obtain⟨ya,yc,yb,yo,rfl,hya,hyc,_⟩:=hy;obtain⟨B,hB⟩:∃B,decide (xs=ys)=B:=⟨_,rfl⟩;rw[hB];replace hB:=qH hB;replace hxc:=qH hxc;replace hyc:=qH hyc;by_cases hlen:xs.length=ys.length
 ·rw[←hlen];replace hlen:=qH hlen;have h0:Hid (xs.take 0=ys.take 0):=rfl;go_enter Tryz.func171, Tryz.ntmps171
  go_wp2;go_loopw [13] (fun iv wr=>∃i:Nat,iv = .int .i64 i∧i≤xs.length∧Hid (xs.take i=ys.take i)∧Qt w wr) (fun iv _=>xs.length - (intOf iv).toNat)
  case atStart=>exact⟨0,rfl,by omega,h0,Qt.refl w⟩
  case round=>
   clear h0;obtain⟨i,rfl,hi,ht,n,rfl⟩:=hrel;by_cases hlt:i < xs.length
   ·obtain rfl:=hxa (by omega);obtain rfl:=hya (by rw[←hlen.out];omega);have hlt':i < ys.length:=(by rw[←hlen.out];exact hlt);have hxi:=hxc.out i hlt;have hyi:=hyc.out i hlt';obtain⟨x,hx⟩:=exE (xs.getD i 0);obtain⟨y,hy⟩:=exE (ys.getD i 0);rw[hx] at hxi;rw[hy] at hyi;by_cases he:x=y
    ·subst he;have ht2:Hid (xs.take (i+1)=ys.take (i+1)):=takes_next ht.out hlt hlt' (by rw[hx,hy]);clear hx hy ht;go_wp2;go_quiet (fail)
     go_wp2;go_roundw
     case rel=>exact⟨i+1,by go_num,hlt,ht2,by first|exact(Qt.mk' w n).step nq|exact Qt.mk' w _⟩
     case measure=>simp[intOf];omega
    ·have hE:(x == y)=false:=by simp[he]
     have hBf:Hid (B=false):=by
      show _=_;rw[←hB.out];refine decide_eq_false fun h=>he ?_;rw[←hx,←hy,h]
     clear hx hy he ht;go_wp2;go_quiet (fail)
     go_wp2;go_ret;exact⟨by rw[hBf.out];rfl,by first|exact(Qt.mk' w n).step nq|exact Qt.mk' w _⟩
   ·have hBt:Hid (B=true):=by
     show _=_;rw[←hB.out];exact decide_eq_true (takes_all ht.out (by omega) (by rw[←hlen.out];omega))
    clear ht;go_wp2;go_ret;exact⟨by rw[hBt.out];rfl,Qt.mk' w n⟩
 ·have hBf:B=false:=by rw[←hB.out];exact decide_eq_false fun h=>hlen (by rw[h])
  subst hBf;have h1:((xs.length:Int) == (ys.length:Int))=false:=by simp;omega
  go_enter Tryz.func171, Tryz.ntmps171
  go_wp2;go_ret;exact⟨rfl,Qt.refl w⟩
theorem slEqual {w:World}{u v:Value}{xs ys:List Int}(h:Ints w u xs) (h':Ints w v ys) :
  Calls Tryz.prog 171 #[u,v] w fun e w'=>e = .returned (.bool (sameB xs ys))∧Qt w w':=by
 obtain⟨a,c,b,off,rfl,ha,hc,hl⟩:=h;obtain⟨a',c',b',off',rfl,ha',hc',hl'⟩:=h';by_cases h1:xs.length=ys.length
 ·have h1':((xs.length:Int) != (ys.length:Int))=false:=by simp;omega
  have h1:=qH h1;go_enter Tryz.func171,Tryz.ntmps171
  go_wp2;go_loopw [13] (fun i wr=>∃k:Nat,k≤xs.length∧i = .int .i64 k∧Hid (xs.take k=ys.take k)∧Hid (Qt w wr)) (fun i _=>xs.length - (intOf i).toNat)
  case atStart=>exact⟨0,by omega,rfl,by simp[Hid],Qt.refl _⟩
  case round=>
   obtain⟨k,hk,rfl,hg,hq⟩:=hrel;by_cases hlt:k < xs.length
   ·have hlt':k < ys.length:=(by have:=h1.out;omega);obtain rfl:=ha (by omega);obtain rfl:=ha' (by omega);have hck:=hc.qt hq.out k hlt;have hck':=hc'.qt hq.out k hlt';clear ha ha' hc hc';go_wp2;go_quiet (fail)
    go_wp2
    ·go_ret;have he:=‹(xs[k] != ys[k])=true›;refine⟨ret_bool ?_,hq.out.trans (Qt.mk' _ _)⟩;have he':xs[k] ≠ ys[k]:=(by simpa using he);have:xs ≠ ys:=fun e=>he' (by subst e;rfl)
     simp[sameB,this]
    ·have he:=‹(xs[k] != ys[k])=false›;go_roundw
     case rel=>
      refine⟨k+1,by omega,by go_num,?_,hq.out.trans (Qt.mk' _ _)⟩;show xs.take (k+1)=ys.take (k+1);rw[take_snoc hlt 0,take_snoc hlt' 0,hg.out,getD_eq hlt,getD_eq hlt'];have he':xs[k]=ys[k]:=(by simpa using he);rw[he']
     case measure=>simp[intOf];omega
   ·clear ha hc ha' hc';go_wp2;go_ret;refine⟨ret_bool ?_,hq.out⟩;have:=hg.out
    have hh:=h1.out;rw[List.take_of_length_le (by omega),List.take_of_length_le (by omega)] at this;simp[sameB,this]
 ·have h1':((xs.length:Int) != (ys.length:Int))=true:=by simp;omega
  clear ha hc ha' hc';go_enter Tryz.func171,Tryz.ntmps171
  go_wp2;go_ret;refine⟨ret_bool ?_,Qt.refl _⟩;have:xs ≠ ys:=fun e=>h1 (by rw[e])
  simp[sameB,this]
theorem idxGo_step {xs:List Int}{x:Int}{k:Nat}(h:k < xs.length):idxGo x k (xs.drop k)=if x=xs[k] then (k:Int) else idxGo x (k+1) (xs.drop (k+1)):=by
 rw[drop_cons h 0,idxGo,getD_eq h]
theorem idxGo_end {xs:List Int}{x:Int}{k:Nat}(h : ¬k < xs.length):idxGo x k (xs.drop k) = -1:=by
 rw[List.drop_eq_nil_of_le (by omega),idxGo]
theorem slIndex {w:World}{v:Value}{xs:List Int}(x:Int) (h:Ints w v xs) :
  Calls Tryz.prog 72 #[v,.int .i64 x] w fun e w'=>e = .returned (.int .i64 (idxI xs x))∧Qt w w':=by
 obtain⟨a,c,b,off,rfl,ha,hc,hl⟩:=h;go_enter Tryz.func72,Tryz.ntmps72
 go_wp2;go_loopw [8] (fun i wr=>∃k:Nat,k≤xs.length∧i = .int .i64 k∧Hid (idxGo x k (xs.drop k)=idxI xs x)∧Hid (Qt w wr)) (fun i _=>xs.length - (intOf i).toNat)
 case atStart=>exact⟨0,by omega,rfl,by simp[Hid,idxI],Qt.refl _⟩
 case round=>
  obtain⟨k,hk,rfl,hg,hq⟩:=hrel;by_cases hlt:k < xs.length
  ·obtain rfl:=ha (by omega);have hck:=hc.qt hq.out k hlt;have hst:=qH (idxGo_step (x:=x) hlt);clear ha hc;go_wp2
   ·go_ret;have he:=‹(x == xs[k])=true›;exact⟨ret_int (by rw[←hg.out,hst.out,if_pos (by simpa using he)]),hq.out⟩
   ·have he:=‹(x == xs[k])=false›;go_roundw
    case rel=>exact⟨k+1,by omega,by go_num,by show _=_;rw[←hg.out,hst.out,if_neg (by simpa using he)],hq⟩
    case measure=>simp[intOf];omega
  ·have hst:=qH (idxGo_end (x:=x) hlt);clear ha hc;go_wp2;go_ret;exact⟨ret_int (by rw[←hg.out,hst.out]),hq.out⟩
theorem idxGo_ge (xs:List Int) (x:Int):∀k,(0≤idxGo x k xs)=(x∈xs):=by
 induction xs with
 | nil=>intro k;simp[idxGo]
 | cons y r ih=>intro k;unfold idxGo;by_cases h:x=y<;>simp[h,ih]
theorem slContains {w:World}{v:Value}{xs:List Int}(x:Int) (h:Ints w v xs) :
  Calls Tryz.prog 28 #[v,.int .i64 x] w fun e w'=>e = .returned (.bool (hasB xs x))∧Qt w w':=by
 have H:=qH (slIndex x h);clear h;have hi:=qH (idxGo_ge xs x 0);go_enter Tryz.func28,Tryz.ntmps28
 go_wp2_with (go_at_call 72;refine H.out.mono ?_;rintro e w' ⟨rfl,hq⟩)
 go_ret;exact⟨ret_bool (by unfold hasB;rw[←decide_eq_decide.2 (Iff.of_eq hi.out)];rfl),hq⟩
theorem drop_nil {l:List Int}{k:Nat}(h : ¬k < l.length):l.drop k = []:=List.drop_eq_nil_of_le (by omega)
theorem cmpL_step {xs ys:List Int}{k:Nat}(h:k < xs.length) (h':k < ys.length) :
  cmpL (xs.drop k) (ys.drop k)=if cmpI xs[k] ys[k]=0 then cmpL (xs.drop (k+1)) (ys.drop (k+1)) else cmpI xs[k] ys[k]:=by
 rw[drop_cons h 0,drop_cons h' 0,cmpL,getD_eq h,getD_eq h']
theorem cmpL_gt {xs ys:List Int}{k:Nat}(h:k < xs.length) (h' : ¬k < ys.length):cmpL (xs.drop k) (ys.drop k)=1:=by
 rw[drop_cons h 0,drop_nil (l:=ys) h',cmpL]
theorem cmpL_lt {xs ys:List Int}{k:Nat}(h : ¬k < xs.length) (h':k < ys.length):cmpL (xs.drop k) (ys.drop k) = -1:=by
 rw[drop_cons h' 0,drop_nil (l:=xs) h,cmpL]
theorem cmpL_eq {xs ys:List Int}{k:Nat}(h : ¬k < xs.length) (h' : ¬k < ys.length):cmpL (xs.drop k) (ys.drop k)=0:=by
 rw[drop_nil (l:=ys) h',drop_nil (l:=xs) h,cmpL]
theorem slCompare {w:World}{u v:Value}{xs ys:List Int}(h:Ints w u xs) (h':Ints w v ys) :
  Calls Tryz.prog 70 #[u,v] w fun e w'=>e = .returned (.int .i64 (cmpL xs ys))∧Qt w w':=by
 obtain⟨a,c,b,off,rfl,ha,hc,hl⟩:=h;obtain⟨a',c',b',off',rfl,ha',hc',hl'⟩:=h';go_enter Tryz.func70,Tryz.ntmps70
 go_wp2;go_loopw [11] (fun i wr=>∃k:Nat,k≤xs.length∧k≤ys.length∧i = .int .i64 k∧Hid (cmpL (xs.drop k) (ys.drop k)=cmpL xs ys)∧Hid (Qt w wr)) (fun i _=>xs.length - (intOf i).toNat)
 case atStart=>exact⟨0,by omega,by omega,rfl,by simp[Hid],Qt.refl _⟩
 case round=>
  obtain⟨k,hk,hk',rfl,hg,hq⟩:=hrel;by_cases hlt:k < xs.length
  ·obtain rfl:=ha (by omega);have hck:=hc.qt hq.out k hlt;by_cases hlt':k < ys.length
   ·obtain rfl:=ha' (by omega);have hck':=hc'.qt hq.out k hlt';have hst:=qH (cmpL_step hlt hlt');clear ha ha' hc hc';by_cases hz:cmpI xs[k] ys[k]=0
    ·have hz':(cmpI xs[k] ys[k] != 0)=false:=(by simp[hz]);have hz:=qH hz;go_wp2_with (go_at_call 111;refine(cmpInt _ _ _).mono ?_;rintro e w' ⟨rfl,rfl⟩)
     go_roundw
     case rel=>exact⟨k+1,by omega,by omega,by go_num,by show _=_;rw[←hg.out,hst.out,if_pos hz.out],hq⟩
     case measure=>simp[intOf];omega
    ·have hz':(cmpI xs[k] ys[k] != 0)=true:=(by simp[hz]);have hz:=qH hz;go_wp2_with (go_at_call 111;refine(cmpInt _ _ _).mono ?_;rintro e w' ⟨rfl,rfl⟩)
     go_ret;exact⟨ret_int (by rw[←hg.out,hst.out,if_neg hz.out]),hq.out⟩
   ·have hst:=qH (cmpL_gt hlt hlt');clear ha ha' hc hc';go_wp2;go_ret;exact⟨ret_int (by rw[←hg.out,hst.out]),hq.out⟩
  ·clear ha ha' hc hc';by_cases hlt':k < ys.length
   ·have hst:=qH (cmpL_lt hlt hlt');go_wp2;go_ret;exact⟨ret_int (by rw[←hg.out,hst.out]),hq.out⟩
   ·have hst:=qH (cmpL_eq hlt hlt');go_wp2;go_ret;exact⟨ret_int (by rw[←hg.out,hst.out]),hq.out⟩
def numE (n:Int):Int:=if n < 1∨5 < n then 2 else 0
theorem number (n:Int) (w:World):Calls Tryz.prog 64 #[.int .i64 n] w fun e w'=>e = .returned (.int .i64 (numE n))∧w=w':=by
 by_cases h1:n < 1
 ·go_enter Tryz.func64,Tryz.ntmps64
  go_wp2;go_ret;exact⟨ret_int (by simp[numE,h1]),rfl⟩
 ·have h1':decide (n < 1)=false:=by simpa using h1
  by_cases h2:5 < n
  ·go_enter Tryz.func64,Tryz.ntmps64
   go_wp2;go_ret;exact⟨ret_int (by simp[numE,h2]),rfl⟩
  ·go_enter Tryz.func64,Tryz.ntmps64
   go_wp2;go_ret;exact⟨ret_int (by simp[numE,h1,h2]),rfl⟩
def Fl (w:World) (B n:Nat) (f:Nat→Bool):Prop:=∃cur E,w.heap[B]? = some (.cells cur E (0,0))∧cur.size=n∧∀p,p < n→cur[p]? = some (.bool (f p))
theorem Fl.cell {w:World}{B n:Nat}{f:Nat→Bool}(h:Fl w B n f) {p:Nat}(hp:p < n):w.cell? ⟨B,p,none⟩=some (.bool (f p)):=by
 obtain⟨cur,E,h1,h2,h3⟩:=h;rw[cell_of_row w B p cur E (0,0) h1];exact h3 p hp
theorem Fl.free {w:World}{B n:Nat}{f:Nat→Bool}(h:Fl w B n f) (p:Nat):w.frozen? ⟨B,p,none⟩=false:=by
 obtain⟨cur,E,h1,h2,h3⟩:=h;exact frozen_of_row w B p cur E h1
theorem Fl.set {w:World}{B n:Nat}{f f':Nat→Bool}(h:Fl w B n f) (p:Nat) (b:Bool) (hf:∀q,q < n→f' q=if q=p then b else f q) :
  Fl (w.setCell ⟨B,p,none⟩ (.bool b)) B n f':=by
 obtain⟨cur,E,h1,h2,h3⟩:=h;refine⟨cur.setIfInBounds p (.bool b),E,heap_setCell_same w B p cur E _ h1,by simpa using h2,fun q hq=>?_⟩;rw[hf q hq,Array.getElem?_setIfInBounds];by_cases e:p=q
 ·subst e;rw[if_pos rfl,if_pos (by omega),if_pos rfl]
 ·rw[if_neg e,if_neg (fun h=>e h.symm)];exact h3 q hq
theorem Fl.new {w:World}{n:Nat}{E:TypeId}{cur:Array Value}(h2:cur.size=n) {f:Nat→Bool}(h3:∀p,p < n→cur[p]? = some (.bool (f p))) :
  Fl (w.alloc (.cells cur E)) w.heap.size n f:=⟨cur,E,heap_alloc_new w _,h2,h3⟩
theorem chk_step1 {xs:List Int}{k:Nat}(h:k < xs.length) {x:Int}(hx:xs.getD k 0=x) (hb:x < 0∨(xs.length:Int)≤x):chkGo xs.length (xs.take k) (xs.drop k)=2:=by
 rw[chkGo_step h,hx,if_pos hb]
theorem chk_step2 {xs:List Int}{k:Nat}(h:k < xs.length) {x:Int}(hx:xs.getD k 0=x) (hb : ¬(x < 0∨(xs.length:Int)≤x)) (hm:decide (((x.toNat:Nat):Int)∈xs.take k)=true):chkGo xs.length (xs.take k) (xs.drop k)=7:=by
 rw[chkGo_step h,hx,if_neg hb,if_pos];rw[show((x.toNat:Nat):Int)=x by omega] at hm;exact of_decide_eq_true hm
theorem chk_step3 {xs:List Int}{k:Nat}(h:k < xs.length) {x:Int}(hx:xs.getD k 0=x) (hb : ¬(x < 0∨(xs.length:Int)≤x)) (hm:decide (((x.toNat:Nat):Int)∈xs.take k)=false) :
  chkGo xs.length (xs.take k) (xs.drop k)=chkGo xs.length (xs.take (k+1)) (xs.drop (k+1)):=by
 rw[chkGo_step h,hx,if_neg hb,if_neg];rw[show((x.toNat:Nat):Int)=x by omega] at hm;exact of_decide_eq_false hm
theorem check0 {w:World}{v:Value}{xs:List Int}(h:Ints w v xs) (h0:0 < xs.length) (h5:xs.length≤5) :
  Calls Tryz.prog 65 #[v] w fun e w'=>e = .returned (.int .i64 (chk xs))∧Below w.heap.size w w':=by
 obtain⟨a,c,b,off,rfl,ha,hc,hl⟩:=h;obtain rfl:=ha h0;clear ha;have hE:numE (xs.length:Int)=0:=by unfold numE;rw[if_neg (by omega)]
 have hchk:=qH (show chk xs=chkGo xs.length [] xs by rw[chk,if_neg (by omega)]);have H:=qH (number (xs.length:Int));rw[hE] at H;clear hE;go_enter Tryz.func65,Tryz.ntmps65
 go_wp2_with (go_at_call 64;refine(H.out _).mono ?_;rintro e w' ⟨rfl,rfl⟩)
 have hfl:Fl (w.alloc (Obj.cells #[Value.bool false,Value.bool false,Value.bool false,Value.bool false,Value.bool false] 163)) w.heap.size 5 (fun p=>decide ((p:Int)∈xs.take 0)):=
  Fl.new rfl (by intro p hp;match p,hp with|0,_=>simp|1,_=>simp|2,_=>simp|3,_=>simp|4,_=>simp)
 have hbl:Below w.heap.size w (w.alloc (Obj.cells #[Value.bool false,Value.bool false,Value.bool false,Value.bool false,Value.bool false] 163)):=(Below.refl _ _).alloc (Nat.le_refl _) _;obtain⟨B,hB⟩:=exF (w.heap.size);rw[←hB] at hfl⊢;have hBl:w.heap.size≤B:=by omega
 replace hB:=qH hB;obtain⟨w1,hw1⟩:=exF (w.alloc (Obj.cells #[Value.bool false,Value.bool false,Value.bool false,Value.bool false,Value.bool false] 163));rw[←hw1] at hfl hbl⊢;clear hw1;go_loopw [15] (fun i wr=>∃k:Nat,k≤xs.length∧i = .int .i64 k∧Hid (chkGo xs.length (xs.take k) (xs.drop k)=chk xs)∧Fl wr B 5 (fun p=>decide ((p:Int)∈xs.take k))∧Below w.heap.size w wr) (fun i _=>xs.length - (intOf i).toNat)
 case atStart=>exact⟨0,by omega,rfl,hchk.out.symm,hfl,hbl⟩
 case round=>
  clear hfl hbl;obtain⟨k,hk,rfl,hg,hf,hb⟩:=hrel;by_cases hlt:k < xs.length
  ·have hck:=hc.keep hb k hlt;clear hc;obtain⟨x,hx⟩:=exE (xs.getD k 0);rw[hx] at hck;replace hx:=qH hx;by_cases hbad:x < 0∨(xs.length:Int)≤x
   ·have hr:=qH (chk_step1 hlt hx.out hbad);clear hf;by_cases hneg:x < 0
    ·go_wp2;go_ret;exact⟨ret_int (by rw[←hg.out,hr.out]),hb⟩
    ·have hneg':decide (x < 0)=false:=(by simpa using hneg);have hbad':decide ((xs.length:Int)≤x)=true:=(by simp;omega);go_wp2;go_ret;exact⟨ret_int (by rw[←hg.out,hr.out]),hb⟩
   ·have hx0:0≤x:=(by omega);have hxl:x < xs.length:=(by omega);have hneg':decide (x < 0)=false:=(by simp;omega);have hbad':decide ((xs.length:Int)≤x)=false:=(by simp;omega);have hcs:=hf.cell (p:=x.toNat) (by omega);have hfs:=hf.free x.toNat;obtain⟨s,hs⟩:=exE (decide (((x.toNat:Nat):Int)∈xs.take k));simp only[hs] at hcs;cases s with
    | true=>
     have hr:=qH (chk_step2 hlt hx.out hbad hs);clear hs hbad;go_wp2;go_ret;exact⟨ret_int (by rw[←hg.out,hr.out]),hb⟩
    | false=>
     have hr:=qH (chk_step3 hlt hx.out hbad hs)
     have hset:=hf.set (f':=fun p=>decide ((p:Int)∈xs.take (k+1))) x.toNat true (by
      intro q hq;rw[take_snoc hlt 0,hx.out];by_cases e:q=x.toNat
      ·subst e;rw[if_pos rfl];simp;right;omega
      ·rw[if_neg e];rw[decide_eq_decide,List.mem_append,List.mem_singleton];constructor
       ·rintro(h|h)
        ·exact h
        ·exfalso;omega
       ·exact .inl)
     clear hs hbad hf;go_wp2;go_roundw
     case rel=>exact⟨k+1,by omega,by go_num,by show _=_;rw[←hg.out,hr.out],hset,hb.setCell (by simpa using hBl) _⟩
     case measure=>simp[intOf];omega
  ·have hst:=qH (chkGo_end hlt);clear hc hf;go_wp2;go_ret;exact⟨ret_int (by rw[←hg.out,hst.out]),hb⟩
theorem check {w:World}{v:Value}{xs:List Int}(h:Ints w v xs) :
  Calls Tryz.prog 65 #[v] w fun e w'=>e = .returned (.int .i64 (chk xs))∧Below w.heap.size w w':=by
 by_cases h15:0 < xs.length∧xs.length≤5
 ·exact check0 h h15.1 h15.2
 ·obtain⟨a,c,b,off,rfl,ha,hc,hl⟩:=h;clear ha hc;have hE:numE (xs.length:Int)=2:=by unfold numE;rw[if_pos (by omega)]
  have hchk:=qH (show chk xs=2 by rw[chk,if_pos (by omega)]);have H:=qH (number (xs.length:Int));rw[hE] at H;clear hE;go_enter Tryz.func65,Tryz.ntmps65
  go_wp2_with (go_at_call 64;refine(H.out _).mono ?_;rintro e w' ⟨rfl,rfl⟩)
  go_ret;exact⟨ret_int hchk.out.symm,Below.refl _ _⟩
def fitE (a:List Int) (n:Int):Int:=if chk a ≠ 0 then chk a else if (a.length:Int) ≠ n then 22 else 0
theorem fitsC {w:World}{v:Value}{a:List Int}(h:Ints w v a) (n:Int):Calls Tryz.prog 51 #[v,.int .i64 n] w fun e w'=>e = .returned (.int .i64 (fitE a n))∧Below w.heap.size w w':=by
 have H:=qH (check h);obtain⟨aa,ac,ab,ao,rfl,ha,hc,hl⟩:=h;clear ha hc;obtain⟨E,hE⟩:=exE (chk a);rw[hE] at H;by_cases hz:E=0
 ·subst hz;by_cases hn:(a.length:Int)=n
  ·have hv:=qH (show fitE a n=0 by rw[fitE,if_neg (fun h=>h hE),if_neg (fun h=>h hn)]);have hb:((a.length:Int) != n)=false:=(by simp[hn]);clear hE hn;go_enter Tryz.func51, Tryz.ntmps51
   go_wp2_with (go_at_call 65;refine H.out.mono ?_;rintro e w1 ⟨rfl,hq⟩)
   go_ret;exact⟨ret_int hv.out.symm,hq⟩
  ·have hv:=qH (show fitE a n=22 by rw[fitE,if_neg (fun h=>h hE),if_pos hn]);have hb:((a.length:Int) != n)=true:=(by simp[hn]);clear hE hn;go_enter Tryz.func51, Tryz.ntmps51
   go_wp2_with (go_at_call 65;refine H.out.mono ?_;rintro e w1 ⟨rfl,hq⟩)
   go_ret;exact⟨ret_int hv.out.symm,hq⟩
 ·have hv:=qH (show fitE a n=E by rw[fitE,hE,if_pos hz]);have hb:(E != 0)=true:=by simp[hz]
  clear hE;go_enter Tryz.func51, Tryz.ntmps51
  go_wp2_with (go_at_call 65;refine H.out.mono ?_;rintro e w1 ⟨rfl,hq⟩)
  go_ret;exact⟨ret_int hv.out.symm,hq⟩
theorem refFits {w:World}{v:Value}{a:List Int}(h:Ints w v a) (n:Int):Calls Tryz.prog 53 #[.int .i64 n,v] w fun e w'=>e = .returned (.int .i64 (fitE a n))∧Qt w w':=by
 have H:=qH (refCheck h);obtain⟨aa,ac,ab,ao,rfl,ha,hc,hl⟩:=h;clear ha hc;obtain⟨E,hE⟩:=exE (chk a);rw[hE] at H;by_cases hz:E=0
 ·subst hz;by_cases hn:(a.length:Int)=n
  ·have hv:=qH (show fitE a n=0 by rw[fitE,if_neg (fun h=>h hE),if_neg (fun h=>h hn)]);have hb:((a.length:Int) != n)=false:=(by simp[hn]);clear hE hn;go_enter Tryz.func53, Tryz.ntmps53
   go_wp2_with (go_at_call 30;refine H.out.mono ?_;rintro e w1 ⟨rfl,hq⟩)
   go_ret;exact⟨ret_int hv.out.symm,hq⟩
  ·have hv:=qH (show fitE a n=22 by rw[fitE,if_neg (fun h=>h hE),if_pos hn]);have hb:((a.length:Int) != n)=true:=(by simp[hn]);clear hE hn;go_enter Tryz.func53, Tryz.ntmps53
   go_wp2_with (go_at_call 30;refine H.out.mono ?_;rintro e w1 ⟨rfl,hq⟩)
   go_ret;exact⟨ret_int hv.out.symm,hq⟩
 ·have hv:=qH (show fitE a n=E by rw[fitE,hE,if_pos hz]);have hb:(E != 0)=true:=by simp[hz]
  clear hE;go_enter Tryz.func53, Tryz.ntmps53
  go_wp2_with (go_at_call 30;refine H.out.mono ?_;rintro e w1 ⟨rfl,hq⟩)
  go_ret;exact⟨ret_int hv.out.symm,hq⟩
end Go.Proofs.YtmikofeildnpdaaGreat
