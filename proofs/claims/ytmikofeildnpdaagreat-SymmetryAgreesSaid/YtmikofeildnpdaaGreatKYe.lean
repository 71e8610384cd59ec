/- Texts of this claim, put together: Sp A0 A3. -/
import Derived.Test.YtmikofeildnpdaaGreatKYa
import Derived.Test.YtmikofeildnpdaaGreatKYc
import Derived.Laws.StructEq
import Derived.Test.YtmikofeildnpdaaGreatKYd
import Derived.BigQuiet

set_option maxRecDepth 100000
set_option maxHeartbeats 12800000
/- What the functions of the layer compute, as plain functions on lists. -/
namespace Go.Proofs.YtmikofeildnpdaaGreat
open Go.RowKit
def chkGo (n:Nat):List Int→List Int→Int
 | _,[]=>0
 | seen,x::r=>if x < 0∨(n:Int)≤x then 2 else if x∈seen then 7 else chkGo n (seen ++ [x]) r
def chk (xs:List Int):Int:=if xs.length < 1∨5 < xs.length then 2 else chkGo xs.length [] xs
theorem chkGo_step {xs:List Int} {k:Nat} (h:k < xs.length) :
  chkGo xs.length (xs.take k) (xs.drop k) =
   if xs.getD k 0 < 0∨(xs.length:Int)≤xs.getD k 0 then 2 else if xs.getD k 0∈xs.take k then 7 else chkGo xs.length (xs.take (k+1)) (xs.drop (k+1)):=by
 rw [drop_cons h 0,take_snoc h 0,chkGo]
theorem chkGo_end {xs:List Int} {k:Nat} (h : ¬ k < xs.length):chkGo xs.length (xs.take k) (xs.drop k)=0:=by
 rw [List.drop_eq_nil_of_le (by omega),chkGo]
def sameB (xs ys:List Int):Bool:=decide (xs=ys)
def sameAllB (xs ys:List (List Int)):Bool:=decide (xs=ys)
def hasB (xs:List Int) (x:Int):Bool:=decide (x∈xs)
def amongB (xs:List (List Int)) (x:List Int):Bool:=decide (x∈xs)
def cmpI (a b:Int):Int:=if a < b then -1 else if b < a then 1 else 0
def cmpL:List Int→List Int→Int
 | [],[]=>0
 | [],_::_=>-1
 | _::_,[]=>1
 | a::xs,b::ys=>if cmpI a b=0 then cmpL xs ys else cmpI a b
def idxGo (x:Int):Nat→List Int→Int
 | _,[]=>-1
 | k,y::r=>if x=y then k else idxGo x (k+1) r
def idxI (xs:List Int) (x:Int):Int:=idxGo x 0 xs
def chkAll (n:Int):List (List Int)→Int
 | []=>0
 | a::r=>if chk a ≠ 0 then chk a else if (a.length:Int) ≠ n then 22 else chkAll n r
def chkList (n:Int) (l:List (List Int)):Int:=if n < 1∨5 < n then 2 else if 1024 < l.length then 5 else chkAll n l
end Go.Proofs.YtmikofeildnpdaaGreat

/- Equality of graphs, rounds and moves. -/
namespace Go.Proofs.YtmikofeildnpdaaGreat
open Go.RowKit
def eqL (x y:List Int):Bool:=decide (x=y)
theorem eqL_true {x y:List Int}:eqL x y=true↔x=y:=by simp [eqL]
theorem eqL_false {x y:List Int}:eqL x y=false↔x ≠ y:=by simp [eqL]
theorem eqArr (d:Nat) (a b c e f a' b' c' e' f':Int) (w:World):(Op.equalIn (d+2) 83 (.agg #[.int .i64 a,.int .i64 b,.int .i64 c,.int .i64 e,.int .i64 f]) (.agg #[.int .i64 a',.int .i64 b',.int .i64 c',.int .i64 e',.int .i64 f'])).run Tryz.prog w = .ok (eqL [a,b,c,e,f] [a',b',c',e',f']) w:=by
 have u3:=Tryz.underlying3
 have a3:=Tryz.isAgg3
 have z3:=Tryz.sizeOf3
 rw [show d+2=(d+1)+1 from rfl,Op.equalIn]
 simp only [Sem.run_bind,run_underlying Tryz.underlying83,Result.andThen_ok]
 simp only [Std.Legacy.Range.forIn_eq_forIn_range',Std.Legacy.Range.size,Nat.sub_zero,Nat.add_sub_cancel,Nat.div_one,List.range'_succ,List.range'_zero,List.forIn_cons,List.forIn_nil]
 go_simp
 by_cases h1:a=a' <;> by_cases h2:b=b' <;> by_cases h3:c=c' <;> by_cases h4:e=e' <;> by_cases h5:f=f' <;> simp [eqL,h1,h2,h3,h4,h5]
theorem eqGr (d:Nat) (n a b c e f n' a' b' c' e' f':Int) (w:World):(Op.equalIn (d+3) 85 (.agg #[.int .i64 n,.int .i64 a,.int .i64 b,.int .i64 c,.int .i64 e,.int .i64 f]) (.agg #[.int .i64 n',.int .i64 a',.int .i64 b',.int .i64 c',.int .i64 e',.int .i64 f'])).run Tryz.prog w = .ok (eqL [n,a,b,c,e,f] [n',a',b',c',e',f']) w:=by
 have u3:=Tryz.underlying3
 have a3:=Tryz.isAgg3
 have z3:=Tryz.sizeOf3
 have a5:=Tryz.isAgg83
 have z5:=Tryz.sizeOf83
 have hS : Tryz.prog.underlying 85=some (.struct (Tryz.prog.fieldsOf 85)):=by kernel_rfl
 have hp : Tryz.prog.stoodInHeld 85=false:=by kernel_rfl
 have hA:=eqArr d a b c e f a' b' c' e' f'
 rw [show d+3=(d+2)+1 from rfl,run_equalIn_agg w (d+2) 85 _ _ hS hp]
 simp only [Program.fieldsOf,Tryz.underlying85]
 go_simp
 by_cases h0:n=n' <;> by_cases h1 : [a,b,c,e,f] = [a',b',c',e',f'] <;> simp_all [eqL]
theorem eqRd (d:Nat) (n a b c e f g n' a' b' c' e' f' g':Int) (w:World):(Op.equalIn (d+4) 87 (.agg #[.int .i64 n,.int .i64 a,.int .i64 b,.int .i64 c,.int .i64 e,.int .i64 f,.int .i64 g]) (.agg #[.int .i64 n',.int .i64 a',.int .i64 b',.int .i64 c',.int .i64 e',.int .i64 f',.int .i64 g'])).run Tryz.prog w = .ok (eqL [n,a,b,c,e,f,g] [n',a',b',c',e',f',g']) w:=by
 have u3:=Tryz.underlying3
 have a3:=Tryz.isAgg3
 have z3:=Tryz.sizeOf3
 have a5:=Tryz.isAgg85
 have z5:=Tryz.sizeOf85
 have hS : Tryz.prog.underlying 87=some (.struct (Tryz.prog.fieldsOf 87)):=by kernel_rfl
 have hp : Tryz.prog.stoodInHeld 87=false:=by kernel_rfl
 have hA:=eqGr d n a b c e f n' a' b' c' e' f'
 rw [show d+4=(d+3)+1 from rfl,run_equalIn_agg w (d+3) 87 _ _ hS hp]
 simp only [Program.fieldsOf,Tryz.underlying87]
 go_simp
 by_cases h0:g=g' <;> by_cases h1 : [n,a,b,c,e,f] = [n',a',b',c',e',f'] <;> simp_all [eqL]
theorem eqMv (d:Nat) (n a b c e f g t n' a' b' c' e' f' g' t':Int) (w:World):(Op.equalIn (d+5) 100 (.agg #[.int .i64 n,.int .i64 a,.int .i64 b,.int .i64 c,.int .i64 e,.int .i64 f,.int .i64 g,.int .i64 t]) (.agg #[.int .i64 n',.int .i64 a',.int .i64 b',.int .i64 c',.int .i64 e',.int .i64 f',.int .i64 g',.int .i64 t'])).run Tryz.prog w = .ok (eqL [n,a,b,c,e,f,g,t] [n',a',b',c',e',f',g',t']) w:=by
 have u3:=Tryz.underlying3
 have a3:=Tryz.isAgg3
 have z3:=Tryz.sizeOf3
 have a5:=Tryz.isAgg87
 have z5:=Tryz.sizeOf87
 have hS : Tryz.prog.underlying 100=some (.struct (Tryz.prog.fieldsOf 100)):=by kernel_rfl
 have hp : Tryz.prog.stoodInHeld 100=false:=by kernel_rfl
 have hA:=eqRd d n a b c e f g n' a' b' c' e' f' g'
 rw [show d+5=(d+4)+1 from rfl,run_equalIn_agg w (d+4) 100 _ _ hS hp]
 simp only [Program.fieldsOf,Tryz.underlying100]
 go_simp
 by_cases h0:t=t' <;> by_cases h1 : [n,a,b,c,e,f,g] = [n',a',b',c',e',f',g'] <;> simp_all [eqL]
@[go_sem high] theorem eqGr' (n a b c e f n' a' b' c' e' f':Int) (w:World):(Op.equalIn 10000 85 (.agg #[.int .i64 n,.int .i64 a,.int .i64 b,.int .i64 c,.int .i64 e,.int .i64 f]) (.agg #[.int .i64 n',.int .i64 a',.int .i64 b',.int .i64 c',.int .i64 e',.int .i64 f'])).run Tryz.prog w = .ok (eqL [n,a,b,c,e,f] [n',a',b',c',e',f']) w:=eqGr 9997 n a b c e f n' a' b' c' e' f' w
@[go_sem high] theorem eqRd' (n a b c e f g n' a' b' c' e' f' g':Int) (w:World):(Op.equalIn 10000 87 (.agg #[.int .i64 n,.int .i64 a,.int .i64 b,.int .i64 c,.int .i64 e,.int .i64 f,.int .i64 g]) (.agg #[.int .i64 n',.int .i64 a',.int .i64 b',.int .i64 c',.int .i64 e',.int .i64 f',.int .i64 g'])).run Tryz.prog w = .ok (eqL [n,a,b,c,e,f,g] [n',a',b',c',e',f',g']) w:=eqRd 9996 n a b c e f g n' a' b' c' e' f' g' w
@[go_sem high] theorem eqMv' (n a b c e f g t n' a' b' c' e' f' g' t':Int) (w:World):(Op.equalIn 10000 100 (.agg #[.int .i64 n,.int .i64 a,.int .i64 b,.int .i64 c,.int .i64 e,.int .i64 f,.int .i64 g,.int .i64 t]) (.agg #[.int .i64 n',.int .i64 a',.int .i64 b',.int .i64 c',.int .i64 e',.int .i64 f',.int .i64 g',.int .i64 t'])).run Tryz.prog w = .ok (eqL [n,a,b,c,e,f,g,t] [n',a',b',c',e',f',g',t']) w:=eqMv 9995 n a b c e f g t n' a' b' c' e' f' g' t' w
end Go.Proofs.YtmikofeildnpdaaGreat

/- Comparing. -/
namespace Go.Proofs.YtmikofeildnpdaaGreat
open Go.RowKit
theorem isNaN (a:Int) (w:World):Calls Tryz.prog 163 #[.int .i64 a] w fun e w'=>e = .returned (.bool false)∧w=w':=by
 go_enter Tryz.func163, Tryz.ntmps163
 go_wp2
 go_ret
 exact ⟨ret_bool (by simp),rfl⟩
theorem cmpInt (a b:Int) (w:World):Calls Tryz.prog 111 #[.int .i64 a,.int .i64 b] w fun e w'=>e = .returned (.int .i64 (cmpI a b))∧w=w':=by
 by_cases h1:a < b
 ·go_enter Tryz.func111, Tryz.ntmps111
  go_wp2_with (go_at_call 163; refine (isNaN _ _).mono ?_; rintro e w' ⟨rfl,rfl⟩)
  go_ret
  exact ⟨ret_int (by rw [cmpI,if_pos h1]),rfl⟩
 ·have h1':decide (a < b)=false:=by simpa using h1
  by_cases h2:b < a
  ·go_enter Tryz.func111, Tryz.ntmps111
   go_wp2_with (go_at_call 163; refine (isNaN _ _).mono ?_; rintro e w' ⟨rfl,rfl⟩)
   go_ret
   exact ⟨ret_int (by rw [cmpI,if_neg (by omega),if_pos h2]),rfl⟩
  ·have h2':decide (b < a)=false:=by simpa using h2
   go_enter Tryz.func111, Tryz.ntmps111
   go_wp2_with (go_at_call 163; refine (isNaN _ _).mono ?_; rintro e w' ⟨rfl,rfl⟩)
   go_ret
   exact ⟨ret_int (by rw [cmpI,if_neg (by omega),if_neg (by omega)]),rfl⟩
theorem cmpIntQ (a b:Int) (w:World):Calls Tryz.prog 111 #[.int .i64 a,.int .i64 b] w fun e w'=>e = .returned (.int .i64 (cmpI a b))∧Qt w w':=(cmpInt a b w).mono fun _ _ ⟨he,hw⟩=>⟨he,0,hw.symm⟩
theorem quietOn {P:Program} {f:FuncId} {args:Array Value} {w:World} {a n:Nat} {v:Value} (h:Calls P f args (w.drewN (a+n)) fun e w'=>e = .returned v∧Qt (w.drewN (a+n)) w') :
  Calls P f args (w.drewN (a+n)) fun e w''=>e = .returned v∧∃ m,w''=w.drewN (a+m):=by
 refine h.mono ?_
 rintro e w' ⟨he,k,rfl⟩
 exact ⟨he,n+k,by rw [World.drewN_drewN]; congr 1; omega⟩
theorem cmpL_self:∀ x:List Int,cmpL x x=0
 | []=>rfl
 | a::x=>by rw [cmpL,show cmpI a a=0 by simp [cmpI],if_pos rfl,cmpL_self x]
theorem cmpL_hd {a b:Int} {x y:List Int} (h:cmpI a b=0):cmpL (a::x) (b::y)=cmpL x y:=by rw [cmpL,if_pos h]
theorem cmpL_ne {a b:Int} {x y:List Int} (h : ¬ cmpI a b=0):cmpL (a::x) (b::y)=cmpI a b:=by rw [cmpL,if_neg h]
theorem cmpI_zero {a b:Int}:cmpI a b=0↔a=b:=by
 unfold cmpI
 by_cases h1:a < b
 ·simp [h1]; omega
 ·by_cases h2:b < a
  ·simp [h1,h2]; omega
  ·simp [h1,h2]; omega
theorem cmpI_lt {a b:Int} (h:a < b):cmpI a b = -1:=by rw [cmpI,if_pos h]
theorem cmpI_gt {a b:Int} (h:b < a):cmpI a b=1:=by rw [cmpI,if_neg (by omega),if_pos h]
theorem graphCompare (n h0 h1 h2 h3 h4 m g0 g1 g2 g3 g4:Int) (w:World):Calls Tryz.prog 135 #[.agg #[.int .i64 n,.int .i64 h0,.int .i64 h1,.int .i64 h2,.int .i64 h3,.int .i64 h4],.agg #[.int .i64 m,.int .i64 g0,.int .i64 g1,.int .i64 g2,.int .i64 g3,.int .i64 g4]] w fun e w'=>e = .returned (.int .i64 (cmpL [n,h0,h1,h2,h3,h4] [m,g0,g1,g2,g3,g4]))∧Below w.heap.size w w':=by
 by_cases he : [n,h0,h1,h2,h3,h4] = [m,g0,g1,g2,g3,g4]
 ·have hE:=Lib.hid (show cmpL [n,h0,h1,h2,h3,h4] [m,g0,g1,g2,g3,g4]=0 by rw [he]; exact cmpL_self _)
  have he':=Lib.hid (eqL_true.2 he)
  clear he
  go_enter Tryz.func135, Tryz.ntmps135
  have he1:=he'.out
  go_wp2
  go_ret
  exact ⟨ret_int hE.out.symm,(((Below.refl w.heap.size w).alloc (Nat.le_refl _) _).alloc (by simp) _)⟩
 ·have he':=eqL_false.2 he
  clear he
  obtain ⟨E,hE⟩:=exE (cmpL [n,h0,h1,h2,h3,h4] [m,g0,g1,g2,g3,g4])
  rw [hE]
  by_cases hn:n=m
  ·have hE0:=Lib.hid (show cmpL [h0,h1,h2,h3,h4] [g0,g1,g2,g3,g4]=E by rw [← hE]; exact (cmpL_hd (cmpI_zero.2 hn)).symm)
   have hn':(n != m)=false:=by simp [hn]
   replace hn:=Lib.hid hn
   clear hE
   go_enter Tryz.func135, Tryz.ntmps135
   go_wp2
   go_loopw [20] (fun iv wr=>∃ (k:Int) (dn:Nat),wr=((w.alloc (.cells #[.int .i64 n,.int .i64 h0,.int .i64 h1,.int .i64 h2,.int .i64 h3,.int .i64 h4] 85)).alloc (.cells #[.int .i64 m,.int .i64 g0,.int .i64 g1,.int .i64 g2,.int .i64 g3,.int .i64 g4] 85)).drewN dn∧iv = .int .i64 k∧((k=0∧Hid (cmpL [h0,h1,h2,h3,h4] [g0,g1,g2,g3,g4]=E))∨(k=1∧Hid (cmpL [h1,h2,h3,h4] [g1,g2,g3,g4]=E))∨(k=2∧Hid (cmpL [h2,h3,h4] [g2,g3,g4]=E))∨(k=3∧Hid (cmpL [h3,h4] [g3,g4]=E))∨(k=4∧Hid (cmpL [h4] [g4]=E))∨(k=5∧Hid (cmpL [] []=E)))) (fun iv _=>5 - (intOf iv).toNat)
   case atStart=>exact ⟨0,0,(by first | rfl | simp),rfl,.inl ⟨rfl,hE0⟩⟩
   case round=>
    clear hE0
    obtain ⟨k,dn,rfl,rfl,hk⟩:=hrel
    rcases hk with ⟨rfl,hg⟩ | ⟨rfl,hg⟩ | ⟨rfl,hg⟩ | ⟨rfl,hg⟩ | ⟨rfl,hg⟩ | ⟨rfl,hg⟩
    ·obtain ⟨c,hc⟩:=exE (cmpI h0 g0)
     have hq:=fun W=>cmpIntQ h0 g0 W
     simp only [hc] at hq
     replace hq:=Lib.hid hq
     by_cases hz0:c=0
     ·subst hz0
      have hz:=Lib.hid hc
      clear hc
      go_wp2
      go_quiet ((go_at_call 111; exact quietOn (hq.out _)))
      go_wp2
      go_roundw
      case rel=>exact ⟨1,_,(by first | exact rfl | exact World.drewN_drewN _ _ _),rfl,.inr (.inl ⟨rfl,by show _=_; rw [← hg.out,cmpL_hd hz.out]⟩)⟩
      case measure=>simp [intOf]
     ·have hz':(c != 0)=true:=by simpa using hz0
      have hz:=Lib.hid (show ¬ cmpI h0 g0=0 by rw [hc]; exact hz0)
      replace hc:=Lib.hid hc
      clear hz0
      go_wp2
      go_quiet ((go_at_call 111; exact quietOn (hq.out _)))
      go_wp2
      go_ret
      exact ⟨ret_int (by rw [← hg.out,cmpL_ne hz.out,hc.out]),(by first | exact below_drewN (((Below.refl w.heap.size w).alloc (Nat.le_refl _) _).alloc (by simp) _) _ | exact below_drewN (below_drewN (((Below.refl w.heap.size w).alloc (Nat.le_refl _) _).alloc (by simp) _) _) _ | exact below_drewN (below_drewN (below_drewN (((Below.refl w.heap.size w).alloc (Nat.le_refl _) _).alloc (by simp) _) _) _) _)⟩
    ·obtain ⟨c,hc⟩:=exE (cmpI h1 g1)
     have hq:=fun W=>cmpIntQ h1 g1 W
     simp only [hc] at hq
     replace hq:=Lib.hid hq
     by_cases hz0:c=0
     ·subst hz0
      have hz:=Lib.hid hc
      clear hc
      go_wp2
      go_quiet ((go_at_call 111; exact quietOn (hq.out _)))
      go_wp2
      go_roundw
      case rel=>exact ⟨2,_,(by first | exact rfl | exact World.drewN_drewN _ _ _),rfl,.inr (.inr (.inl ⟨rfl,by show _=_; rw [← hg.out,cmpL_hd hz.out]⟩))⟩
      case measure=>simp [intOf]
     ·have hz':(c != 0)=true:=by simpa using hz0
      have hz:=Lib.hid (show ¬ cmpI h1 g1=0 by rw [hc]; exact hz0)
      replace hc:=Lib.hid hc
      clear hz0
      go_wp2
      go_quiet ((go_at_call 111; exact quietOn (hq.out _)))
      go_wp2
      go_ret
      exact ⟨ret_int (by rw [← hg.out,cmpL_ne hz.out,hc.out]),(by first | exact below_drewN (((Below.refl w.heap.size w).alloc (Nat.le_refl _) _).alloc (by simp) _) _ | exact below_drewN (below_drewN (((Below.refl w.heap.size w).alloc (Nat.le_refl _) _).alloc (by simp) _) _) _ | exact below_drewN (below_drewN (below_drewN (((Below.refl w.heap.size w).alloc (Nat.le_refl _) _).alloc (by simp) _) _) _) _)⟩
    ·obtain ⟨c,hc⟩:=exE (cmpI h2 g2)
     have hq:=fun W=>cmpIntQ h2 g2 W
     simp only [hc] at hq
     replace hq:=Lib.hid hq
     by_cases hz0:c=0
     ·subst hz0
      have hz:=Lib.hid hc
      clear hc
      go_wp2
      go_quiet ((go_at_call 111; exact quietOn (hq.out _)))
      go_wp2
      go_roundw
      case rel=>exact ⟨3,_,(by first | exact rfl | exact World.drewN_drewN _ _ _),rfl,.inr (.inr (.inr (.inl ⟨rfl,by show _=_; rw [← hg.out,cmpL_hd hz.out]⟩)))⟩
      case measure=>simp [intOf]
     ·have hz':(c != 0)=true:=by simpa using hz0
      have hz:=Lib.hid (show ¬ cmpI h2 g2=0 by rw [hc]; exact hz0)
      replace hc:=Lib.hid hc
      clear hz0
      go_wp2
      go_quiet ((go_at_call 111; exact quietOn (hq.out _)))
      go_wp2
      go_ret
      exact ⟨ret_int (by rw [← hg.out,cmpL_ne hz.out,hc.out]),(by first | exact below_drewN (((Below.refl w.heap.size w).alloc (Nat.le_refl _) _).alloc (by simp) _) _ | exact below_drewN (below_drewN (((Below.refl w.heap.size w).alloc (Nat.le_refl _) _).alloc (by simp) _) _) _ | exact below_drewN (below_drewN (below_drewN (((Below.refl w.heap.size w).alloc (Nat.le_refl _) _).alloc (by simp) _) _) _) _)⟩
    ·obtain ⟨c,hc⟩:=exE (cmpI h3 g3)
     have hq:=fun W=>cmpIntQ h3 g3 W
     simp only [hc] at hq
     replace hq:=Lib.hid hq
     by_cases hz0:c=0
     ·subst hz0
      have hz:=Lib.hid hc
      clear hc
      go_wp2
      go_quiet ((go_at_call 111; exact quietOn (hq.out _)))
      go_wp2
      go_roundw
      case rel=>exact ⟨4,_,(by first | exact rfl | exact World.drewN_drewN _ _ _),rfl,.inr (.inr (.inr (.inr (.inl ⟨rfl,by show _=_; rw [← hg.out,cmpL_hd hz.out]⟩))))⟩
      case measure=>simp [intOf]
     ·have hz':(c != 0)=true:=by simpa using hz0
      have hz:=Lib.hid (show ¬ cmpI h3 g3=0 by rw [hc]; exact hz0)
      replace hc:=Lib.hid hc
      clear hz0
      go_wp2
      go_quiet ((go_at_call 111; exact quietOn (hq.out _)))
      go_wp2
      go_ret
      exact ⟨ret_int (by rw [← hg.out,cmpL_ne hz.out,hc.out]),(by first | exact below_drewN (((Below.refl w.heap.size w).alloc (Nat.le_refl _) _).alloc (by simp) _) _ | exact below_drewN (below_drewN (((Below.refl w.heap.size w).alloc (Nat.le_refl _) _).alloc (by simp) _) _) _ | exact below_drewN (below_drewN (below_drewN (((Below.refl w.heap.size w).alloc (Nat.le_refl _) _).alloc (by simp) _) _) _) _)⟩
    ·obtain ⟨c,hc⟩:=exE (cmpI h4 g4)
     have hq:=fun W=>cmpIntQ h4 g4 W
     simp only [hc] at hq
     replace hq:=Lib.hid hq
     by_cases hz0:c=0
     ·subst hz0
      have hz:=Lib.hid hc
      clear hc
      go_wp2
      go_quiet ((go_at_call 111; exact quietOn (hq.out _)))
      go_wp2
      go_roundw
      case rel=>exact ⟨5,_,(by first | exact rfl | exact World.drewN_drewN _ _ _),rfl,.inr (.inr (.inr (.inr (.inr (⟨rfl,by show _=_; rw [← hg.out,cmpL_hd hz.out]⟩)))))⟩
      case measure=>simp [intOf]
     ·have hz':(c != 0)=true:=by simpa using hz0
      have hz:=Lib.hid (show ¬ cmpI h4 g4=0 by rw [hc]; exact hz0)
      replace hc:=Lib.hid hc
      clear hz0
      go_wp2
      go_quiet ((go_at_call 111; exact quietOn (hq.out _)))
      go_wp2
      go_ret
      exact ⟨ret_int (by rw [← hg.out,cmpL_ne hz.out,hc.out]),(by first | exact below_drewN (((Below.refl w.heap.size w).alloc (Nat.le_refl _) _).alloc (by simp) _) _ | exact below_drewN (below_drewN (((Below.refl w.heap.size w).alloc (Nat.le_refl _) _).alloc (by simp) _) _) _ | exact below_drewN (below_drewN (below_drewN (((Below.refl w.heap.size w).alloc (Nat.le_refl _) _).alloc (by simp) _) _) _) _)⟩
    ·go_wp2
     go_ret
     exact ⟨ret_int hg.out,(by first | exact below_drewN (((Below.refl w.heap.size w).alloc (Nat.le_refl _) _).alloc (by simp) _) _ | exact below_drewN (below_drewN (((Below.refl w.heap.size w).alloc (Nat.le_refl _) _).alloc (by simp) _) _) _ | exact below_drewN (below_drewN (below_drewN (((Below.refl w.heap.size w).alloc (Nat.le_refl _) _).alloc (by simp) _) _) _) _)⟩
  ·have hE0:=Lib.hid (show cmpI n m=E by rw [← hE,cmpL_ne (fun h=>hn (cmpI_zero.1 h))])
   have hn':(n != m)=true:=by simpa using hn
   clear hE hn
   go_enter Tryz.func135, Tryz.ntmps135
   go_wp2_with (go_at_call 111; refine (cmpInt _ _ _).mono ?_; rintro e w1 ⟨rfl,rfl⟩)
   go_ret
   exact ⟨ret_int hE0.out,(((Below.refl w.heap.size w).alloc (Nat.le_refl _) _).alloc (by simp) _)⟩
theorem refGraphCompare (n h0 h1 h2 h3 h4 m g0 g1 g2 g3 g4:Int) (w:World):Calls Tryz.prog 138 #[.agg #[.int .i64 n,.int .i64 h0,.int .i64 h1,.int .i64 h2,.int .i64 h3,.int .i64 h4],.agg #[.int .i64 m,.int .i64 g0,.int .i64 g1,.int .i64 g2,.int .i64 g3,.int .i64 g4]] w fun e w'=>e = .returned (.int .i64 (cmpL [n,h0,h1,h2,h3,h4] [m,g0,g1,g2,g3,g4]))∧Below w.heap.size w w':=by
 obtain ⟨E,hE⟩:=exE (cmpL [n,h0,h1,h2,h3,h4] [m,g0,g1,g2,g3,g4])
 rw [hE]
 by_cases l1:n < m
 ·have hE0:=Lib.hid (show E = -1 by rw [← hE,cmpL_ne (by rw [cmpI_lt l1]; decide),cmpI_lt l1])
  have l1':decide (n < m)=true:=decide_eq_true l1
  clear hE
  go_enter Tryz.func138, Tryz.ntmps138
  go_wp2
  go_ret
  exact ⟨ret_int hE0.out.symm,(((Below.refl w.heap.size w).alloc (Nat.le_refl _) _).alloc (by simp) _)⟩
 ·have l1':decide (n < m)=false:=decide_eq_false l1
  by_cases l2:m < n
  ·have hE0:=Lib.hid (show E=1 by rw [← hE,cmpL_ne (by rw [cmpI_gt l2]; decide),cmpI_gt l2])
   have l2':decide (m < n)=true:=decide_eq_true l2
   clear hE
   go_enter Tryz.func138, Tryz.ntmps138
   go_wp2
   go_ret
   exact ⟨ret_int hE0.out.symm,(((Below.refl w.heap.size w).alloc (Nat.le_refl _) _).alloc (by simp) _)⟩
  ·have l2':decide (m < n)=false:=decide_eq_false l2
   have hE0:=Lib.hid (show cmpL [h0,h1,h2,h3,h4] [g0,g1,g2,g3,g4]=E by rw [← hE]; exact (cmpL_hd (cmpI_zero.2 (show n=m by omega))).symm)
   clear hE l1 l2
   go_enter Tryz.func138, Tryz.ntmps138
   go_wp2
   go_loopw [5] (fun iv wr=>∃ (k:Int) (dn:Nat),wr=((w.alloc (.cells #[.int .i64 n,.int .i64 h0,.int .i64 h1,.int .i64 h2,.int .i64 h3,.int .i64 h4] 85)).alloc (.cells #[.int .i64 m,.int .i64 g0,.int .i64 g1,.int .i64 g2,.int .i64 g3,.int .i64 g4] 85)).drewN dn∧iv = .int .i64 k∧((k=0∧Hid (cmpL [h0,h1,h2,h3,h4] [g0,g1,g2,g3,g4]=E))∨(k=1∧Hid (cmpL [h1,h2,h3,h4] [g1,g2,g3,g4]=E))∨(k=2∧Hid (cmpL [h2,h3,h4] [g2,g3,g4]=E))∨(k=3∧Hid (cmpL [h3,h4] [g3,g4]=E))∨(k=4∧Hid (cmpL [h4] [g4]=E))∨(k=5∧Hid (cmpL [] []=E)))) (fun iv _=>5 - (intOf iv).toNat)
   case atStart=>exact ⟨0,0,(by first | rfl | simp),rfl,.inl ⟨rfl,hE0⟩⟩
   case round=>
    clear hE0
    obtain ⟨k,dn,rfl,rfl,hk⟩:=hrel
    rcases hk with ⟨rfl,hg⟩ | ⟨rfl,hg⟩ | ⟨rfl,hg⟩ | ⟨rfl,hg⟩ | ⟨rfl,hg⟩ | ⟨rfl,hg⟩
    ·by_cases l1:h0 < g0
     ·have l1':decide (h0 < g0)=true:=decide_eq_true l1
      have hz:=Lib.hid (cmpI_lt l1)
      clear l1
      go_wp2
      go_quiet (fail)
      go_wp2
      go_ret
      exact ⟨ret_int (by rw [← hg.out,cmpL_ne (by rw [hz.out]; decide),hz.out]),(by first | exact below_drewN (((Below.refl w.heap.size w).alloc (Nat.le_refl _) _).alloc (by simp) _) _ | exact below_drewN (below_drewN (((Below.refl w.heap.size w).alloc (Nat.le_refl _) _).alloc (by simp) _) _) _ | exact below_drewN (below_drewN (below_drewN (((Below.refl w.heap.size w).alloc (Nat.le_refl _) _).alloc (by simp) _) _) _) _)⟩
     ·have l1':decide (h0 < g0)=false:=decide_eq_false l1
      by_cases l2:g0 < h0
      ·have l2':decide (g0 < h0)=true:=decide_eq_true l2
       have hz:=Lib.hid (cmpI_gt l2)
       clear l1 l2
       go_wp2
       go_quiet (fail)
       go_wp2
       go_quiet (fail)
       go_wp2
       go_ret
       exact ⟨ret_int (by rw [← hg.out,cmpL_ne (by rw [hz.out]; decide),hz.out]),(by first | exact below_drewN (((Below.refl w.heap.size w).alloc (Nat.le_refl _) _).alloc (by simp) _) _ | exact below_drewN (below_drewN (((Below.refl w.heap.size w).alloc (Nat.le_refl _) _).alloc (by simp) _) _) _ | exact below_drewN (below_drewN (below_drewN (((Below.refl w.heap.size w).alloc (Nat.le_refl _) _).alloc (by simp) _) _) _) _)⟩
      ·have l2':decide (g0 < h0)=false:=decide_eq_false l2
       have hz:=Lib.hid (cmpI_zero.2 (show h0=g0 by omega))
       clear l1 l2
       go_wp2
       go_quiet (fail)
       go_wp2
       go_quiet (fail)
       go_wp2
       go_roundw
       case rel=>exact ⟨1,_,(by first | exact rfl | exact World.drewN_drewN _ _ _),rfl,.inr (.inl ⟨rfl,by show _=_; rw [← hg.out,cmpL_hd hz.out]⟩)⟩
       case measure=>simp [intOf]
    ·by_cases l1:h1 < g1
     ·have l1':decide (h1 < g1)=true:=decide_eq_true l1
      have hz:=Lib.hid (cmpI_lt l1)
      clear l1
      go_wp2
      go_quiet (fail)
      go_wp2
      go_ret
      exact ⟨ret_int (by rw [← hg.out,cmpL_ne (by rw [hz.out]; decide),hz.out]),(by first | exact below_drewN (((Below.refl w.heap.size w).alloc (Nat.le_refl _) _).alloc (by simp) _) _ | exact below_drewN (below_drewN (((Below.refl w.heap.size w).alloc (Nat.le_refl _) _).alloc (by simp) _) _) _ | exact below_drewN (below_drewN (below_drewN (((Below.refl w.heap.size w).alloc (Nat.le_refl _) _).alloc (by simp) _) _) _) _)⟩
     ·have l1':decide (h1 < g1)=false:=decide_eq_false l1
      by_cases l2:g1 < h1
      ·have l2':decide (g1 < h1)=true:=decide_eq_true l2
       have hz:=Lib.hid (cmpI_gt l2)
       clear l1 l2
       go_wp2
       go_quiet (fail)
       go_wp2
       go_quiet (fail)
       go_wp2
       go_ret
       exact ⟨ret_int (by rw [← hg.out,cmpL_ne (by rw [hz.out]; decide),hz.out]),(by first | exact below_drewN (((Below.refl w.heap.size w).alloc (Nat.le_refl _) _).alloc (by simp) _) _ | exact below_drewN (below_drewN (((Below.refl w.heap.size w).alloc (Nat.le_refl _) _).alloc (by simp) _) _) _ | exact below_drewN (below_drewN (below_drewN (((Below.refl w.heap.size w).alloc (Nat.le_refl _) _).alloc (by simp) _) _) _) _)⟩
      ·have l2':decide (g1 < h1)=false:=decide_eq_false l2
       have hz:=Lib.hid (cmpI_zero.2 (show h1=g1 by omega))
       clear l1 l2
       go_wp2
       go_quiet (fail)
       go_wp2
       go_quiet (fail)
       go_wp2
       go_roundw
       case rel=>exact ⟨2,_,(by first | exact rfl | exact World.drewN_drewN _ _ _),rfl,.inr (.inr (.inl ⟨rfl,by show _=_; rw [← hg.out,cmpL_hd hz.out]⟩))⟩
       case measure=>simp [intOf]
    ·by_cases l1:h2 < g2
     ·have l1':decide (h2 < g2)=true:=decide_eq_true l1
      have hz:=Lib.hid (cmpI_lt l1)
      clear l1
      go_wp2
      go_quiet (fail)
      go_wp2
      go_ret
      exact ⟨ret_int (by rw [← hg.out,cmpL_ne (by rw [hz.out]; decide),hz.out]),(by first | exact below_drewN (((Below.refl w.heap.size w).alloc (Nat.le_refl _) _).alloc (by simp) _) _ | exact below_drewN (below_drewN (((Below.refl w.heap.size w).alloc (Nat.le_refl _) _).alloc (by simp) _) _) _ | exact below_drewN (below_drewN (below_drewN (((Below.refl w.heap.size w).alloc (Nat.le_refl _) _).alloc (by simp) _) _) _) _)⟩
     ·have l1':decide (h2 < g2)=false:=decide_eq_false l1
      by_cases l2:g2 < h2
      ·have l2':decide (g2 < h2)=true:=decide_eq_true l2
       have hz:=Lib.hid (cmpI_gt l2)
       clear l1 l2
       go_wp2
       go_quiet (fail)
       go_wp2
       go_quiet (fail)
       go_wp2
       go_ret
       exact ⟨ret_int (by rw [← hg.out,cmpL_ne (by rw [hz.out]; decide),hz.out]),(by first | exact below_drewN (((Below.refl w.heap.size w).alloc (Nat.le_refl _) _).alloc (by simp) _) _ | exact below_drewN (below_drewN (((Below.refl w.heap.size w).alloc (Nat.le_refl _) _).alloc (by simp) _) _) _ | exact below_drewN (below_drewN (below_drewN (((Below.refl w.heap.size w).alloc (Nat.le_refl _) _).alloc (by simp) _) _) _) _)⟩
      ·have l2':decide (g2 < h2)=false:=decide_eq_false l2
       have hz:=Lib.hid (cmpI_zero.2 (show h2=g2 by omega))
       clear l1 l2
       go_wp2
       go_quiet (fail)
       go_wp2
       go_quiet (fail)
       go_wp2
       go_roundw
       case rel=>exact ⟨3,_,(by first | exact rfl | exact World.drewN_drewN _ _ _),rfl,.inr (.inr (.inr (.inl ⟨rfl,by show _=_; rw [← hg.out,cmpL_hd hz.out]⟩)))⟩
       case measure=>simp [intOf]
    ·by_cases l1:h3 < g3
     ·have l1':decide (h3 < g3)=true:=decide_eq_true l1
      have hz:=Lib.hid (cmpI_lt l1)
      clear l1
      go_wp2
      go_quiet (fail)
      go_wp2
      go_ret
      exact ⟨ret_int (by rw [← hg.out,cmpL_ne (by rw [hz.out]; decide),hz.out]),(by first | exact below_drewN (((Below.refl w.heap.size w).alloc (Nat.le_refl _) _).alloc (by simp) _) _ | exact below_drewN (below_drewN (((Below.refl w.heap.size w).alloc (Nat.le_refl _) _).alloc (by simp) _) _) _ | exact below_drewN (below_drewN (below_drewN (((Below.refl w.heap.size w).alloc (Nat.le_refl _) _).alloc (by simp) _) _) _) _)⟩
     ·have l1':decide (h3 < g3)=false:=decide_eq_false l1
      by_cases l2:g3 < h3
      ·have l2':decide (g3 < h3)=true:=decide_eq_true l2
       have hz:=Lib.hid (cmpI_gt l2)
       clear l1 l2
       go_wp2
       go_quiet (fail)
       go_wp2
       go_quiet (fail)
       go_wp2
       go_ret
       exact ⟨ret_int (by rw [← hg.out,cmpL_ne (by rw [hz.out]; decide),hz.out]),(by first | exact below_drewN (((Below.refl w.heap.size w).alloc (Nat.le_refl _) _).alloc (by simp) _) _ | exact below_drewN (below_drewN (((Below.refl w.heap.size w).alloc (Nat.le_refl _) _).alloc (by simp) _) _) _ | exact below_drewN (below_drewN (below_drewN (((Below.refl w.heap.size w).alloc (Nat.le_refl _) _).alloc (by simp) _) _) _) _)⟩
      ·have l2':decide (g3 < h3)=false:=decide_eq_false l2
       have hz:=Lib.hid (cmpI_zero.2 (show h3=g3 by omega))
       clear l1 l2
       go_wp2
       go_quiet (fail)
       go_wp2
       go_quiet (fail)
       go_wp2
       go_roundw
       case rel=>exact ⟨4,_,(by first | exact rfl | exact World.drewN_drewN _ _ _),rfl,.inr (.inr (.inr (.inr (.inl ⟨rfl,by show _=_; rw [← hg.out,cmpL_hd hz.out]⟩))))⟩
       case measure=>simp [intOf]
    ·by_cases l1:h4 < g4
     ·have l1':decide (h4 < g4)=true:=decide_eq_true l1
      have hz:=Lib.hid (cmpI_lt l1)
      clear l1
      go_wp2
      go_quiet (fail)
      go_wp2
      go_ret
      exact ⟨ret_int (by rw [← hg.out,cmpL_ne (by rw [hz.out]; decide),hz.out]),(by first | exact below_drewN (((Below.refl w.heap.size w).alloc (Nat.le_refl _) _).alloc (by simp) _) _ | exact below_drewN (below_drewN (((Below.refl w.heap.size w).alloc (Nat.le_refl _) _).alloc (by simp) _) _) _ | exact below_drewN (below_drewN (below_drewN (((Below.refl w.heap.size w).alloc (Nat.le_refl _) _).alloc (by simp) _) _) _) _)⟩
     ·have l1':decide (h4 < g4)=false:=decide_eq_false l1
      by_cases l2:g4 < h4
      ·have l2':decide (g4 < h4)=true:=decide_eq_true l2
       have hz:=Lib.hid (cmpI_gt l2)
       clear l1 l2
       go_wp2
       go_quiet (fail)
       go_wp2
       go_quiet (fail)
       go_wp2
       go_ret
       exact ⟨ret_int (by rw [← hg.out,cmpL_ne (by rw [hz.out]; decide),hz.out]),(by first | exact below_drewN (((Below.refl w.heap.size w).alloc (Nat.le_refl _) _).alloc (by simp) _) _ | exact below_drewN (below_drewN (((Below.refl w.heap.size w).alloc (Nat.le_refl _) _).alloc (by simp) _) _) _ | exact below_drewN (below_drewN (below_drewN (((Below.refl w.heap.size w).alloc (Nat.le_refl _) _).alloc (by simp) _) _) _) _)⟩
      ·have l2':decide (g4 < h4)=false:=decide_eq_false l2
       have hz:=Lib.hid (cmpI_zero.2 (show h4=g4 by omega))
       clear l1 l2
       go_wp2
       go_quiet (fail)
       go_wp2
       go_quiet (fail)
       go_wp2
       go_roundw
       case rel=>exact ⟨5,_,(by first | exact rfl | exact World.drewN_drewN _ _ _),rfl,.inr (.inr (.inr (.inr (.inr (⟨rfl,by show _=_; rw [← hg.out,cmpL_hd hz.out]⟩)))))⟩
       case measure=>simp [intOf]
    ·go_wp2
     go_ret
     exact ⟨ret_int hg.out,(by first | exact below_drewN (((Below.refl w.heap.size w).alloc (Nat.le_refl _) _).alloc (by simp) _) _ | exact below_drewN (below_drewN (((Below.refl w.heap.size w).alloc (Nat.le_refl _) _).alloc (by simp) _) _) _ | exact below_drewN (below_drewN (below_drewN (((Below.refl w.heap.size w).alloc (Nat.le_refl _) _).alloc (by simp) _) _) _) _)⟩
end Go.Proofs.YtmikofeildnpdaaGreat
