/- Texts of this claim, put together: A3 A4 A5 A6. -/
import Derived.Test.YtcnedkkcgdkioaaGreatKSb
import Derived.StillTailTactics

set_option maxRecDepth 100000
set_option maxHeartbeats 12800000
namespace Go.Proofs.YtcnedkkcgdkioaaGreat
open Go.RowKit
theorem isNaN (a:Int) (w:World):Calls Tryz.prog 209 #[.int .i64 a] w fun e w'=>e = .returned (.bool false)/\w=w':=by
 go_enter Tryz.func209, Tryz.ntmps209
 go_wp2;go_ret;exact⟨ret_bool (by simp),rfl⟩
theorem cmpInt (a b:Int) (w:World):Calls Tryz.prog 177 #[.int .i64 a,.int .i64 b] w fun e w'=>e = .returned (.int .i64 (cmpI a b))/\w=w':=by
 by_cases h1:a < b
 ·go_enter Tryz.func177, Tryz.ntmps177
  go_wp2_with (go_at_call 209;refine(isNaN _ _).mono ?_;rintro e w' ⟨rfl,rfl⟩)
  go_ret;exact⟨ret_int (by rw[cmpI,if_pos h1]),rfl⟩
 ·have h1':decide (a < b)=false:=by simpa using h1
  by_cases h2:b < a
  ·go_enter Tryz.func177, Tryz.ntmps177
   go_wp2_with (go_at_call 209;refine(isNaN _ _).mono ?_;rintro e w' ⟨rfl,rfl⟩)
   go_ret;exact⟨ret_int (by rw[cmpI,if_neg (by omega),if_pos h2]),rfl⟩
  ·have h2':decide (b < a)=false:=(by simpa using h2);go_enter Tryz.func177, Tryz.ntmps177
   go_wp2_with (go_at_call 209;refine(isNaN _ _).mono ?_;rintro e w' ⟨rfl,rfl⟩)
   go_ret;exact⟨ret_int (by rw[cmpI,if_neg (by omega),if_neg (by omega)]),rfl⟩
theorem cmpIntQ (a b:Int) (w:World):Calls Tryz.prog 177 #[.int .i64 a,.int .i64 b] w fun e w'=>e = .returned (.int .i64 (cmpI a b))/\Qt w w':=(cmpInt a b w).mono fun _ _ ⟨he,hw⟩=>⟨he,0,hw.symm⟩
theorem quietOn {P:Program}{f:FuncId}{args:Array Value}{w:World}{a n:Nat}{v:Value}(h:Calls P f args (w.drewN (a+n)) fun e w'=>e = .returned v/\Qt (w.drewN (a+n)) w') :
  Calls P f args (w.drewN (a+n)) fun e w''=>e = .returned v/\∃m,w''=w.drewN (a+m):=by
 refine h.mono ?_;rintro e w' ⟨he,k,rfl⟩;exact⟨he,n+k,by rw[World.drewN_drewN];congr 1;omega⟩
theorem cmpL_self:∀x:List Int,cmpL x x=0
 | []=>rfl
 | a::x=>by rw[cmpL,show cmpI a a=0 by simp[cmpI],if_pos rfl,cmpL_self x]
theorem cmpL_hd {a b:Int}{x y:List Int}(h:cmpI a b=0):cmpL (a::x) (b::y)=cmpL x y:=by rw[cmpL,if_pos h]
theorem cmpL_ne {a b:Int}{x y:List Int}(h : ¬cmpI a b=0):cmpL (a::x) (b::y)=cmpI a b:=by rw[cmpL,if_neg h]
theorem cmpI_zero {a b:Int}:cmpI a b=0↔a=b:=by
 unfold cmpI;by_cases h1:a < b
 ·simp[h1];omega
 ·by_cases h2:b < a
  ·simp[h1,h2];omega
  ·simp[h1,h2];omega
theorem cmpI_lt {a b:Int}(h:a < b):cmpI a b = -1:=by rw[cmpI,if_pos h]
theorem cmpI_gt {a b:Int}(h:b < a):cmpI a b=1:=by rw[cmpI,if_neg (by omega),if_pos h]
theorem twoNew {w W:World}{c d:Array Value}{t s:TypeId}(h:W=(w.alloc (.cells c t)).alloc (.cells d s)):Below w.heap.size w W/\W.heap[w.heap.size]? = some (.cells c t)/\W.heap[w.heap.size+1]? = some (.cells d s):=by
 have e:=heap_alloc_new (w.alloc (.cells c t)) (.cells d s);rw[World.size_alloc] at e;rw[h];exact⟨((Below.refl _ w).alloc (Nat.le_refl _) _).alloc (by simp) _,(Below.heap_alloc _ _ _ (by simp)).trans (heap_alloc_new w _),e⟩
theorem cellG {W:World}{b k:Nat}{n h0 h1 h2 h3 h4:Int}{t:TypeId}(h:W.heap[b]? = some (.cells #[.int .i64 n,.int .i64 h0,.int .i64 h1,.int .i64 h2,.int .i64 h3,.int .i64 h4] t)) (hk:k < 5):W.cell? ⟨b,1+k,none⟩=some (.int .i64 ([h0,h1,h2,h3,h4].getD k 0)):=by
 rw[cell_of_row _ b (1+k) _ _ _ h];rcases(show k=0\/k=1\/k=2\/k=3\/k=4 by omega) with rfl|rfl|rfl|rfl|rfl<;>rfl
theorem graphCompare (n h0 h1 h2 h3 h4 m g0 g1 g2 g3 g4:Int) (w:World):Calls Tryz.prog 269 #[.agg #[.int .i64 n,.int .i64 h0,.int .i64 h1,.int .i64 h2,.int .i64 h3,.int .i64 h4],.agg #[.int .i64 m,.int .i64 g0,.int .i64 g1,.int .i64 g2,.int .i64 g3,.int .i64 g4]] w fun e w'=>e = .returned (.int .i64 (cmpL [n,h0,h1,h2,h3,h4] [m,g0,g1,g2,g3,g4]))/\Below w.heap.size w w':=by
 obtain⟨W1,hW1⟩:=exF ((w.alloc (.cells #[.int .i64 n,.int .i64 h0,.int .i64 h1,.int .i64 h2,.int .i64 h3,.int .i64 h4] 146)).alloc (.cells #[.int .i64 m,.int .i64 g0,.int .i64 g1,.int .i64 g2,.int .i64 g3,.int .i64 g4] 146));obtain⟨hb,kH,kG⟩:=twoNew hW1;by_cases he : [n,h0,h1,h2,h3,h4] = [m,g0,g1,g2,g3,g4]
 ·have hE:=qH (show cmpL [n,h0,h1,h2,h3,h4] [m,g0,g1,g2,g3,g4]=0 by rw[he];exact cmpL_self _);have he':=qH (eqL_true.2 he);replace hW1:=qH hW1;clear he kH kG;go_enter Tryz.func269, Tryz.ntmps269
  have he1:=he'.out;go_wp2;go_ret;exact⟨ret_int hE.out.symm,by rw[<-hW1.out];exact hb⟩
 ·have he':=eqL_false.2 he;clear he;obtain⟨E,hE⟩:=exE (cmpL [n,h0,h1,h2,h3,h4] [m,g0,g1,g2,g3,g4]);rw[hE];by_cases hn:n=m
  ·have hE0:=qH (show cmpL [h0,h1,h2,h3,h4] [g0,g1,g2,g3,g4]=E by rw[<-hE];exact(cmpL_hd (cmpI_zero.2 hn)).symm);have hn':(n != m)=false:=(by simp[hn]);replace hn:=qH hn;replace hW1:=qH hW1;clear hE;go_enter Tryz.func269, Tryz.ntmps269
   go_wp2;rw[<-hW1.out];go_loopw [20] (fun iv wr=>∃k dn:Nat,wr=W1.drewN dn/\iv = .int .i64 (k:Int)/\k<=5/\Hid (cmpL ([h0,h1,h2,h3,h4].drop k) ([g0,g1,g2,g3,g4].drop k)=E)) (fun iv _=>5 - (intOf iv).toNat)
   case atStart=>exact⟨0,0,(by first|rfl|simp),rfl,by omega,hE0⟩
   case round=>
    clear hE0;obtain⟨k,dn,rfl,rfl,hk,hg⟩:=hrel;have HB:=qH (fun d=>below_drewN hb d);by_cases hlt:k < 5
    ·have hki:(k:Int) < 5:=(by omega);have hk0:(0:Int)<=(k:Int):=Int.natCast_nonneg _;have cH:=cellG kH hlt;have cG:=cellG kG hlt;have hg':=hg.out;rw[dropN h0 h1 h2 h3 h4 hlt,dropN g0 g1 g2 g3 g4 hlt] at hg';obtain⟨x,hx⟩:=exE ([h0,h1,h2,h3,h4].getD k 0);obtain⟨y,hy⟩:=exE ([g0,g1,g2,g3,g4].getD k 0);rw[hx] at cH hg';rw[hy] at cG hg';replace hg:=qH hg';clear hg' hx hy;obtain⟨c,hc⟩:=exE (cmpI x y);have hq:=fun W=>cmpIntQ x y W;simp only[hc] at hq;replace hq:=qH hq;by_cases hz0:c=0
     ·subst hz0;have hz:=qH hc;clear hc;go_wp2;go_quiet ((go_at_call 177;exact quietOn (hq.out _)))
      go_wp2;go_roundw
      case rel=>exact⟨k+1,_,(by first|exact rfl|exact World.drewN_drewN _ _ _),by go_num,hlt,by show _=_;rw[<-hg.out,cmpL_hd hz.out]⟩
      case measure=>simp[intOf];omega
     ·have hz':(c != 0)=true:=(by simpa using hz0);have hz:=qH (show ¬cmpI x y=0 by rw[hc];exact hz0);replace hc:=qH hc;clear hz0;go_wp2;go_quiet ((go_at_call 177;exact quietOn (hq.out _)))
      go_wp2;go_ret;exact⟨ret_int (by rw[<-hg.out,cmpL_ne hz.out,hc.out]),(by first|exact HB.out _|exact below_drewN (HB.out _) _|exact below_drewN (below_drewN (HB.out _) _) _)⟩
    ·obtain rfl:k=5:=(by omega);go_wp2;go_ret;exact⟨ret_int hg.out,(by first|exact HB.out _|exact below_drewN (HB.out _) _|exact below_drewN (below_drewN (HB.out _) _) _)⟩
  ·have hE0:=qH (show cmpI n m=E by rw[<-hE,cmpL_ne (fun h=>hn (cmpI_zero.1 h))]);have hn':(n != m)=true:=(by simpa using hn);replace hW1:=qH hW1;clear hE hn kH kG;go_enter Tryz.func269, Tryz.ntmps269
   go_wp2_with (go_at_call 177;refine(cmpInt _ _ _).mono ?_;rintro e w1 ⟨rfl,rfl⟩)
   go_ret;exact⟨ret_int hE0.out,by rw[<-hW1.out];exact hb⟩
theorem refGraphCompare (n h0 h1 h2 h3 h4 m g0 g1 g2 g3 g4:Int) (w:World):Calls Tryz.prog 266 #[.agg #[.int .i64 n,.int .i64 h0,.int .i64 h1,.int .i64 h2,.int .i64 h3,.int .i64 h4],.agg #[.int .i64 m,.int .i64 g0,.int .i64 g1,.int .i64 g2,.int .i64 g3,.int .i64 g4]] w fun e w'=>e = .returned (.int .i64 (cmpL [n,h0,h1,h2,h3,h4] [m,g0,g1,g2,g3,g4]))/\Below w.heap.size w w':=by
 obtain⟨W1,hW1⟩:=exF ((w.alloc (.cells #[.int .i64 n,.int .i64 h0,.int .i64 h1,.int .i64 h2,.int .i64 h3,.int .i64 h4] 146)).alloc (.cells #[.int .i64 m,.int .i64 g0,.int .i64 g1,.int .i64 g2,.int .i64 g3,.int .i64 g4] 146));obtain⟨hb,kH,kG⟩:=twoNew hW1;obtain⟨E,hE⟩:=exE (cmpL [n,h0,h1,h2,h3,h4] [m,g0,g1,g2,g3,g4]);rw[hE];replace hW1:=qH hW1;by_cases l1:n < m
 ·have hE0:=qH (show E = -1 by rw[<-hE,cmpL_ne (by rw[cmpI_lt l1];decide),cmpI_lt l1]);have l1':decide (n < m)=true:=decide_eq_true l1;clear hE kH kG;go_enter Tryz.func266, Tryz.ntmps266
  go_wp2;go_ret;exact⟨ret_int hE0.out.symm,by rw[<-hW1.out];exact hb⟩
 ·have l1':decide (n < m)=false:=decide_eq_false l1;by_cases l2:m < n
  ·have hE0:=qH (show E=1 by rw[<-hE,cmpL_ne (by rw[cmpI_gt l2];decide),cmpI_gt l2]);have l2':decide (m < n)=true:=decide_eq_true l2;clear hE kH kG;go_enter Tryz.func266, Tryz.ntmps266
   go_wp2;go_ret;exact⟨ret_int hE0.out.symm,by rw[<-hW1.out];exact hb⟩
  ·have l2':decide (m < n)=false:=decide_eq_false l2;have hE0:=qH (show cmpL [h0,h1,h2,h3,h4] [g0,g1,g2,g3,g4]=E by rw[<-hE];exact(cmpL_hd (cmpI_zero.2 (show n=m by omega))).symm);clear hE l1 l2;go_enter Tryz.func266, Tryz.ntmps266
   go_wp2;rw[<-hW1.out];go_loopw [5] (fun iv wr=>∃k dn:Nat,wr=W1.drewN dn/\iv = .int .i64 (k:Int)/\k<=5/\Hid (cmpL ([h0,h1,h2,h3,h4].drop k) ([g0,g1,g2,g3,g4].drop k)=E)) (fun iv _=>5 - (intOf iv).toNat)
   case atStart=>exact⟨0,0,(by first|rfl|simp),rfl,by omega,hE0⟩
   case round=>
    clear hE0;obtain⟨k,dn,rfl,rfl,hk,hg⟩:=hrel;have HB:=qH (fun d=>below_drewN hb d);by_cases hlt:k < 5
    ·have hki:(k:Int) < 5:=(by omega);have hk0:(0:Int)<=(k:Int):=Int.natCast_nonneg _;have cH:=cellG kH hlt;have cG:=cellG kG hlt;have hg':=hg.out;rw[dropN h0 h1 h2 h3 h4 hlt,dropN g0 g1 g2 g3 g4 hlt] at hg';obtain⟨x,hx⟩:=exE ([h0,h1,h2,h3,h4].getD k 0);obtain⟨y,hy⟩:=exE ([g0,g1,g2,g3,g4].getD k 0);rw[hx] at cH hg';rw[hy] at cG hg';replace hg:=qH hg';clear hg' hx hy;by_cases l1:x < y
     ·have l1':decide (x < y)=true:=decide_eq_true l1;have hz:=qH (cmpI_lt l1);clear l1;go_wp2;go_quiet (fail)
      go_wp2;go_ret;exact⟨ret_int (by rw[<-hg.out,cmpL_ne (by rw[hz.out];decide),hz.out]),(by first|exact HB.out _|exact below_drewN (HB.out _) _|exact below_drewN (below_drewN (HB.out _) _) _)⟩
     ·have l1':decide (x < y)=false:=decide_eq_false l1;by_cases l2:y < x
      ·have l2':decide (y < x)=true:=decide_eq_true l2;have hz:=qH (cmpI_gt l2);clear l1 l2;go_wp2;go_quiet (fail)
       go_wp2;go_quiet (fail)
       go_wp2;go_ret;exact⟨ret_int (by rw[<-hg.out,cmpL_ne (by rw[hz.out];decide),hz.out]),(by first|exact HB.out _|exact below_drewN (HB.out _) _|exact below_drewN (below_drewN (HB.out _) _) _)⟩
      ·have l2':decide (y < x)=false:=decide_eq_false l2;have hz:=qH (cmpI_zero.2 (show x=y by omega));clear l1 l2;go_wp2;go_quiet (fail)
       go_wp2;go_quiet (fail)
       go_wp2;go_roundw
       case rel=>exact⟨k+1,_,(by first|exact rfl|exact World.drewN_drewN _ _ _),by go_num,hlt,by show _=_;rw[<-hg.out,cmpL_hd hz.out]⟩
       case measure=>simp[intOf];omega
    ·obtain rfl:k=5:=(by omega);go_wp2;go_ret;exact⟨ret_int hg.out,(by first|exact HB.out _|exact below_drewN (HB.out _) _|exact below_drewN (below_drewN (HB.out _) _) _)⟩
theorem chkSet_1 {n x:Int}(h:n < 1\/5 < n):chkSet n x=1:=by rw[chkSet,procE,if_pos h];rfl
theorem chkSet_2 {n x:Int}(h1:1<=n) (h5:n<=5) (h:x < 0\/twoI n<=x):chkSet n x=2:=by rw[chkSet,procE,if_neg (show ¬(n < 1\/5 < n) by omega),if_neg (by decide),if_pos h]
theorem chkSet_0 {n x:Int}(h1:1<=n) (h5:n<=5) (h:0<=x/\x < twoI n):chkSet n x=0:=by rw[chkSet,procE,if_neg (show ¬(n < 1\/5 < n) by omega),if_neg (by decide),if_neg (by omega)]
theorem setCheck (n x:Int) (w:World):Calls Tryz.prog 268 #[.int .i64 n,.int .i64 x] w fun e w'=>e = .returned (.int .i64 (chkSet n x))/\w=w':=by
 have HP:=procs n w;by_cases hn:n < 1\/5 < n
 ·rw[procE,if_pos hn] at HP;replace HP:=qH HP;have hE:=qH (chkSet_1 (x:=x) hn);clear hn;go_enter Tryz.func268, Tryz.ntmps268
  go_wp2_with (go_at_call 279;refine HP.out.mono ?_;rintro e w1 ⟨rfl,rfl⟩)
  go_ret;exact⟨ret_int hE.out.symm,rfl⟩
 ·rw[procE,if_neg hn] at HP;replace HP:=qH HP;have g1:1<=n:=by omega
  have g5:n<=5:=by omega
  clear hn;by_cases h0:x < 0
  ·have hE:=qH (chkSet_2 g1 g5 (.inl h0));have h0':decide (x < 0)=true:=decide_eq_true h0;go_enter Tryz.func268, Tryz.ntmps268
   go_wp2_with (go_at_call 279;refine HP.out.mono ?_;rintro e w1 ⟨rfl,rfl⟩)
   go_ret;exact⟨ret_int hE.out.symm,rfl⟩
  ·have h0':decide (x < 0)=false:=decide_eq_false h0;obtain⟨k,rfl⟩:∃k:Nat,n=(k:Int):=⟨n.toNat,by omega⟩
   have e:twoI (k:Int)=2 ^ k/\(x / 2 ^ k != 0)=decide ((2:Int) ^ k<=x):=by
    rcases(show k=1\/k=2\/k=3\/k=4\/k=5 by omega) with rfl|rfl|rfl|rfl|rfl
    all_goals exact⟨by decide,by rw[Bool.eq_iff_iff];simp;omega⟩
   obtain⟨e,hq⟩:=e;by_cases hx:(2:Int) ^ k<=x
   case' pos=>
    rw[decide_eq_true hx] at hq;have hE:=qH (chkSet_2 g1 g5 (.inr (by rw[e];exact hx)))
   case' neg=>
    rw[decide_eq_false hx] at hq;have hE:=qH (chkSet_0 g1 g5 (show 0<=x/\x < twoI (k:Int) by rw[e];omega))
   all_goals
    clear e hx;go_enter Tryz.func268, Tryz.ntmps268
    go_wp2_with (go_at_call 279;refine HP.out.mono ?_;rintro e w1 ⟨rfl,rfl⟩)
    go_ret;exact⟨ret_int hE.out.symm,rfl⟩
theorem refSetCheck (n x:Int) (w:World):Calls Tryz.prog 265 #[.int .i64 n,.int .i64 x] w fun e w'=>e = .returned (.int .i64 (chkSet n x))/\w=w':=by
 have HP:=refProcs n w;by_cases hn:n < 1\/5 < n
 ·rw[procE,if_pos hn] at HP;replace HP:=qH HP;have hE:=qH (chkSet_1 (x:=x) hn);clear hn;go_enter Tryz.func265, Tryz.ntmps265
  go_wp2_with (go_at_call 277;refine HP.out.mono ?_;rintro e w1 ⟨rfl,rfl⟩)
  go_ret;exact⟨ret_int hE.out.symm,rfl⟩
 ·rw[procE,if_neg hn] at HP;replace HP:=qH HP;have g1:1<=n:=by omega
  have g5:n<=5:=by omega
  clear hn;by_cases h0:x < 0
  ·have hE:=qH (chkSet_2 g1 g5 (.inl h0));have h0':decide (x < 0)=true:=decide_eq_true h0;go_enter Tryz.func265, Tryz.ntmps265
   go_wp2_with (go_at_call 277;refine HP.out.mono ?_;rintro e w1 ⟨rfl,rfl⟩)
   go_ret;exact⟨ret_int hE.out.symm,rfl⟩
  ·have h0':decide (x < 0)=false:=decide_eq_false h0;obtain⟨t,ht⟩:=exE (twoI n);have hpw:=powerCall n;rw[ht] at hpw;by_cases hx:t<=x
   ·have hE:=qH (chkSet_2 g1 g5 (.inr (show twoI n<=x by omega)));have hx':decide (t<=x)=true:=decide_eq_true hx;replace hpw:=qH (fun W=>hpw W (by omega) g5);clear ht;go_enter Tryz.func265, Tryz.ntmps265
    go_wp2_with (first|(go_at_call 277;refine HP.out.mono ?_;rintro e w1 ⟨rfl,rfl⟩)|(go_at_call 182;refine(hpw.out _).mono ?_;rintro e w2 ⟨rfl,rfl⟩))
    go_ret;exact⟨ret_int hE.out.symm,rfl⟩
   ·have hE:=qH (chkSet_0 g1 g5 (show 0<=x/\x < twoI n by omega));have hx':decide (t<=x)=false:=decide_eq_false hx;replace hpw:=qH (fun W=>hpw W (by omega) g5);clear ht;go_enter Tryz.func265, Tryz.ntmps265
    go_wp2_with (first|(go_at_call 277;refine HP.out.mono ?_;rintro e w1 ⟨rfl,rfl⟩)|(go_at_call 182;refine(hpw.out _).mono ?_;rintro e w2 ⟨rfl,rfl⟩))
    go_ret;exact⟨ret_int hE.out.symm,rfl⟩
def chkRd (r:List Int):Int:=if chkGr (r.getD 0 0) ((r.drop 1).take 5) ≠ 0 then chkGr (r.getD 0 0) ((r.drop 1).take 5) else chkSet (r.getD 0 0) (r.getD 6 0)
theorem chkRd_1 {n h0 h1 h2 h3 h4 f:Int}(h:chkGr n [h0,h1,h2,h3,h4] ≠ 0):chkRd [n,h0,h1,h2,h3,h4,f]=chkGr n [h0,h1,h2,h3,h4]:=if_pos h
theorem chkRd_2 {n h0 h1 h2 h3 h4 f:Int}(h:chkGr n [h0,h1,h2,h3,h4]=0):chkRd [n,h0,h1,h2,h3,h4,f]=chkSet n f:=if_neg (fun k=>k h)
theorem boxCells {w:World}{cs:Array Value}{t:TypeId}{j:Nat}{v:Value}(h:cs[j]? = some v):(w.alloc (.cells cs t)).cell? ⟨w.heap.size,j,none⟩=some v:=by
 rw[cell_of_row _ w.heap.size j cs t (0,0) (heap_alloc_new w _)];exact h
theorem roundCheck (n h0 h1 h2 h3 h4 f:Int) (w:World):Calls Tryz.prog 245 #[.agg #[.int .i64 n,.int .i64 h0,.int .i64 h1,.int .i64 h2,.int .i64 h3,.int .i64 h4,.int .i64 f]] w fun e w'=>e = .returned (.int .i64 (chkRd [n,h0,h1,h2,h3,h4,f]))/\Below w.heap.size w w':=by
 have HG:=fun W=>graphCheck n h0 h1 h2 h3 h4 W;have hb:Below w.heap.size w (w.alloc (.cells #[.int .i64 n,.int .i64 h0,.int .i64 h1,.int .i64 h2,.int .i64 h3,.int .i64 h4,.int .i64 f] 148)):=(Below.refl _ _).alloc (Nat.le_refl _) _;by_cases hz:chkGr n [h0,h1,h2,h3,h4]=0
 ·have hE:=qH (chkRd_2 (f:=f) hz);simp only[hz] at HG;replace HG:=qH HG;clear hz;go_enter Tryz.func245, Tryz.ntmps245
  go_wp2_with fail
  refine(HG.out _).mono ?_;rintro e w1 ⟨rfl,hb1⟩;have c0:w1.cell? ⟨w.heap.size,0,none⟩=some (.int .i64 n):=cell_kept hb1 (boxCells rfl);have c6:w1.cell? ⟨w.heap.size,6,none⟩=some (.int .i64 f):=cell_kept hb1 (boxCells rfl);have hs:w1.heap[w.heap.size]? = some (.cells #[.int .i64 n,.int .i64 h0,.int .i64 h1,.int .i64 h2,.int .i64 h3,.int .i64 h4,.int .i64 f] 148):=(hb1.block _ (by simp)).trans (heap_alloc_new w _);go_wp2_with fail
  refine(setCheck n f _).mono ?_;rintro e w2 ⟨rfl,rfl⟩;go_wp2;go_ret;exact⟨ret_int hE.out.symm,bt hb hb1 hb.size⟩
 ·have hE:=qH (chkRd_1 (f:=f) hz);obtain⟨E,hEE⟩:=exE (chkGr n [h0,h1,h2,h3,h4]);rw[hEE] at hz hE;simp only[hEE] at HG;replace HG:=qH HG;have hz':(E != 0)=true:=by simpa using hz
  clear hEE hz;go_enter Tryz.func245, Tryz.ntmps245
  go_wp2_with fail
  refine(HG.out _).mono ?_;rintro e w1 ⟨rfl,hb1⟩;go_wp2;go_ret;exact⟨ret_int hE.out.symm,bt hb hb1 hb.size⟩
theorem refRoundCheck (n h0 h1 h2 h3 h4 f:Int) (w:World):Calls Tryz.prog 241 #[.agg #[.int .i64 n,.int .i64 h0,.int .i64 h1,.int .i64 h2,.int .i64 h3,.int .i64 h4,.int .i64 f]] w fun e w'=>e = .returned (.int .i64 (chkRd [n,h0,h1,h2,h3,h4,f]))/\Below w.heap.size w w':=by
 have HG:=fun W=>refGraphCheck n h0 h1 h2 h3 h4 W;have hb:Below w.heap.size w (w.alloc (.cells #[.int .i64 n,.int .i64 h0,.int .i64 h1,.int .i64 h2,.int .i64 h3,.int .i64 h4,.int .i64 f] 148)):=(Below.refl _ _).alloc (Nat.le_refl _) _;by_cases hz:chkGr n [h0,h1,h2,h3,h4]=0
 ·have hE:=qH (chkRd_2 (f:=f) hz);simp only[hz] at HG;replace HG:=qH HG;clear hz;go_enter Tryz.func241, Tryz.ntmps241
  go_wp2_with fail
  refine(HG.out _).mono ?_;rintro e w1 ⟨rfl,hb1⟩;have c0:w1.cell? ⟨w.heap.size,0,none⟩=some (.int .i64 n):=cell_kept hb1 (boxCells rfl);have c6:w1.cell? ⟨w.heap.size,6,none⟩=some (.int .i64 f):=cell_kept hb1 (boxCells rfl);have hs:w1.heap[w.heap.size]? = some (.cells #[.int .i64 n,.int .i64 h0,.int .i64 h1,.int .i64 h2,.int .i64 h3,.int .i64 h4,.int .i64 f] 148):=(hb1.block _ (by simp)).trans (heap_alloc_new w _);go_wp2_with fail
  refine(refSetCheck n f _).mono ?_;rintro e w2 ⟨rfl,rfl⟩;go_wp2;go_ret;exact⟨ret_int hE.out.symm,bt hb hb1 hb.size⟩
 ·have hE:=qH (chkRd_1 (f:=f) hz);obtain⟨E,hEE⟩:=exE (chkGr n [h0,h1,h2,h3,h4]);rw[hEE] at hz hE;simp only[hEE] at HG;replace HG:=qH HG;have hz':(E != 0)=true:=by simpa using hz
  clear hEE hz;go_enter Tryz.func241, Tryz.ntmps241
  go_wp2_with fail
  refine(HG.out _).mono ?_;rintro e w1 ⟨rfl,hb1⟩;go_wp2;go_ret;exact⟨ret_int hE.out.symm,bt hb hb1 hb.size⟩
theorem cmpL_snoc {f g:Int}:∀ {x y:List Int},x.length=y.length->cmpL (x ++ [f]) (y ++ [g])=if cmpL x y=0 then cmpI f g else cmpL x y
 | [],[],_=>by
  show cmpL [f] [g]=if (0:Int)=0 then cmpI f g else 0
  rw[if_pos rfl,cmpL];by_cases h:cmpI f g=0
  ·rw[if_pos h,h];rfl
  ·rw[if_neg h]
 | a::x,b::y,h=>by
  rw[List.cons_append,List.cons_append,cmpL,cmpL];by_cases hc:cmpI a b=0
  ·rw[if_pos hc,if_pos hc];exact cmpL_snoc (by simpa using h)
  ·rw[if_neg hc,if_neg hc,if_neg hc]
theorem cmpL_zero:∀ {x y:List Int},cmpL x y=0↔x=y
 | [],[]=>by simp[cmpL]
 | [],b::y=>by simp[cmpL]
 | a::x,[]=>by simp[cmpL]
 | a::x,b::y=>by
  rw[cmpL];by_cases hc:cmpI a b=0
  ·rw[if_pos hc,cmpL_zero];have:=cmpI_zero.1 hc
   simp[this]
  ·rw[if_neg hc];constructor
   ·intro h;exact absurd h hc
   ·intro h;injection h with h1 h2;exact absurd (cmpI_zero.2 h1) hc
theorem cmp7_1 {n h0 h1 h2 h3 h4 f m g0 g1 g2 g3 g4 g:Int}(h : [n,h0,h1,h2,h3,h4] ≠ [m,g0,g1,g2,g3,g4]):cmpL [n,h0,h1,h2,h3,h4,f] [m,g0,g1,g2,g3,g4,g]=cmpL [n,h0,h1,h2,h3,h4] [m,g0,g1,g2,g3,g4]:=by
 have:=cmpL_snoc (f:=f) (g:=g) (x:=[n,h0,h1,h2,h3,h4]) (y:=[m,g0,g1,g2,g3,g4]) rfl
 rw[if_neg (fun k=>h (cmpL_zero.1 k))] at this;exact this
theorem cmp7_2 {n h0 h1 h2 h3 h4 f m g0 g1 g2 g3 g4 g:Int}(h : [n,h0,h1,h2,h3,h4] = [m,g0,g1,g2,g3,g4]):cmpL [n,h0,h1,h2,h3,h4,f] [m,g0,g1,g2,g3,g4,g]=cmpI f g:=by
 have:=cmpL_snoc (f:=f) (g:=g) (x:=[n,h0,h1,h2,h3,h4]) (y:=[m,g0,g1,g2,g3,g4]) rfl
 rw[if_pos (cmpL_zero.2 h)] at this;exact this
theorem roundCompare (n h0 h1 h2 h3 h4 f m g0 g1 g2 g3 g4 g:Int) (w:World):Calls Tryz.prog 246 #[.agg #[.int .i64 n,.int .i64 h0,.int .i64 h1,.int .i64 h2,.int .i64 h3,.int .i64 h4,.int .i64 f],.agg #[.int .i64 m,.int .i64 g0,.int .i64 g1,.int .i64 g2,.int .i64 g3,.int .i64 g4,.int .i64 g]] w fun e w'=>e = .returned (.int .i64 (cmpL [n,h0,h1,h2,h3,h4,f] [m,g0,g1,g2,g3,g4,g]))/\Below w.heap.size w w':=by
 have hb:Below w.heap.size w ((w.alloc (.cells #[.int .i64 n,.int .i64 h0,.int .i64 h1,.int .i64 h2,.int .i64 h3,.int .i64 h4,.int .i64 f] 148)).alloc (.cells #[.int .i64 m,.int .i64 g0,.int .i64 g1,.int .i64 g2,.int .i64 g3,.int .i64 g4,.int .i64 g] 148)):=((Below.refl _ _).alloc (Nat.le_refl _) _).alloc (by simp) _;have HG:=qH (fun W=>graphCompare n h0 h1 h2 h3 h4 m g0 g1 g2 g3 g4 W);by_cases he : [n,h0,h1,h2,h3,h4,f] = [m,g0,g1,g2,g3,g4,g]
 ·have hE:=qH (show cmpL [n,h0,h1,h2,h3,h4,f] [m,g0,g1,g2,g3,g4,g]=0 from cmpL_zero.2 he);have he':=qH (eqL_true.2 he);clear he;go_enter Tryz.func246, Tryz.ntmps246
  have he1:=he'.out;go_wp2;go_ret;exact⟨ret_int hE.out.symm,hb⟩
 ·have he':=eqL_false.2 he;clear he;by_cases hg : [n,h0,h1,h2,h3,h4] = [m,g0,g1,g2,g3,g4]
  ·have hE:=qH (cmp7_2 (f:=f) (g:=g) hg);have hg':=qH (eqL_true.2 hg);clear hg;go_enter Tryz.func246, Tryz.ntmps246
   have hg1:=hg'.out;go_wp2_with fail
   refine(cmpInt f g _).mono ?_;rintro e w1 ⟨rfl,rfl⟩;go_wp2;go_ret;exact⟨ret_int hE.out.symm,hb⟩
  ·have hE:=qH (cmp7_1 (f:=f) (g:=g) hg);have hg':=eqL_false.2 hg;clear hg;go_enter Tryz.func246, Tryz.ntmps246
   go_wp2_with fail
   refine(HG.out _).mono ?_;rintro e w1 ⟨rfl,hb1⟩;go_wp2;go_ret;exact⟨ret_int hE.out.symm,bt hb hb1 hb.size⟩
theorem refRoundCompare (n h0 h1 h2 h3 h4 f m g0 g1 g2 g3 g4 g:Int) (w:World):Calls Tryz.prog 242 #[.agg #[.int .i64 n,.int .i64 h0,.int .i64 h1,.int .i64 h2,.int .i64 h3,.int .i64 h4,.int .i64 f],.agg #[.int .i64 m,.int .i64 g0,.int .i64 g1,.int .i64 g2,.int .i64 g3,.int .i64 g4,.int .i64 g]] w fun e w'=>e = .returned (.int .i64 (cmpL [n,h0,h1,h2,h3,h4,f] [m,g0,g1,g2,g3,g4,g]))/\Below w.heap.size w w':=by
 have hb:Below w.heap.size w ((w.alloc (.cells #[.int .i64 n,.int .i64 h0,.int .i64 h1,.int .i64 h2,.int .i64 h3,.int .i64 h4,.int .i64 f] 148)).alloc (.cells #[.int .i64 m,.int .i64 g0,.int .i64 g1,.int .i64 g2,.int .i64 g3,.int .i64 g4,.int .i64 g] 148)):=((Below.refl _ _).alloc (Nat.le_refl _) _).alloc (by simp) _;have HG:=fun W=>refGraphCompare n h0 h1 h2 h3 h4 m g0 g1 g2 g3 g4 W;have hs0:((w.alloc (.cells #[.int .i64 n,.int .i64 h0,.int .i64 h1,.int .i64 h2,.int .i64 h3,.int .i64 h4,.int .i64 f] 148)).alloc (.cells #[.int .i64 m,.int .i64 g0,.int .i64 g1,.int .i64 g2,.int .i64 g3,.int .i64 g4,.int .i64 g] 148)).heap[w.heap.size]? = some (.cells #[.int .i64 n,.int .i64 h0,.int .i64 h1,.int .i64 h2,.int .i64 h3,.int .i64 h4,.int .i64 f] 148):=(Below.heap_alloc _ _ _ (by simp)).trans (heap_alloc_new w _);have hs1:((w.alloc (.cells #[.int .i64 n,.int .i64 h0,.int .i64 h1,.int .i64 h2,.int .i64 h3,.int .i64 h4,.int .i64 f] 148)).alloc (.cells #[.int .i64 m,.int .i64 g0,.int .i64 g1,.int .i64 g2,.int .i64 g3,.int .i64 g4,.int .i64 g] 148)).heap[w.heap.size+1]? = some (.cells #[.int .i64 m,.int .i64 g0,.int .i64 g1,.int .i64 g2,.int .i64 g3,.int .i64 g4,.int .i64 g] 148):=by have:=heap_alloc_new (w.alloc (.cells #[.int .i64 n,.int .i64 h0,.int .i64 h1,.int .i64 h2,.int .i64 h3,.int .i64 h4,.int .i64 f] 148)) (.cells #[.int .i64 m,.int .i64 g0,.int .i64 g1,.int .i64 g2,.int .i64 g3,.int .i64 g4,.int .i64 g] 148);rwa [World.size_alloc] at this
 by_cases hg : [n,h0,h1,h2,h3,h4] = [m,g0,g1,g2,g3,g4]
 ·have hE:=qH (cmp7_2 (f:=f) (g:=g) hg);simp only[cmpL_zero.2 hg] at HG;replace HG:=qH HG;clear hg;replace hs0:=qH hs0;replace hs1:=qH hs1;by_cases l1:f < g
  ·have l1':decide (f < g)=true:=decide_eq_true l1;have hc:=qH (cmpI_lt l1);clear l1;go_enter Tryz.func242, Tryz.ntmps242
   go_wp2_with fail
   refine(HG.out _).mono ?_;rintro e w1 ⟨rfl,hb1⟩;have k0:=(hb1.block _ (by simp;omega)).trans hs0.out;have k1:=(hb1.block _ (by simp)).trans hs1.out;have c0:w1.cell? ⟨w.heap.size,6,none⟩=some (.int .i64 f):=(by rw[cell_of_row _ _ 6 _ _ _ k0];rfl);have c1:w1.cell? ⟨w.heap.size+1,6,none⟩=some (.int .i64 g):=(by rw[cell_of_row _ _ 6 _ _ _ k1];rfl);go_wp2;go_ret;exact⟨ret_int (by rw[hE.out,hc.out]),bt hb hb1 hb.size⟩
  ·have l1':decide (f < g)=false:=decide_eq_false l1;by_cases l2:g < f
   ·have l2':decide (g < f)=true:=decide_eq_true l2;have hc:=qH (cmpI_gt l2);clear l1 l2;go_enter Tryz.func242, Tryz.ntmps242
    go_wp2_with fail
    refine(HG.out _).mono ?_;rintro e w1 ⟨rfl,hb1⟩;have k0:=(hb1.block _ (by simp;omega)).trans hs0.out;have k1:=(hb1.block _ (by simp)).trans hs1.out;have c0:w1.cell? ⟨w.heap.size,6,none⟩=some (.int .i64 f):=(by rw[cell_of_row _ _ 6 _ _ _ k0];rfl);have c1:w1.cell? ⟨w.heap.size+1,6,none⟩=some (.int .i64 g):=(by rw[cell_of_row _ _ 6 _ _ _ k1];rfl);go_wp2;go_ret;exact⟨ret_int (by rw[hE.out,hc.out]),bt hb hb1 hb.size⟩
   ·have l2':decide (g < f)=false:=decide_eq_false l2;have hc:=qH (cmpI_zero.2 (show f=g by omega));clear l1 l2;go_enter Tryz.func242, Tryz.ntmps242
    go_wp2_with fail
    refine(HG.out _).mono ?_;rintro e w1 ⟨rfl,hb1⟩;have k0:=(hb1.block _ (by simp;omega)).trans hs0.out;have k1:=(hb1.block _ (by simp)).trans hs1.out;have c0:w1.cell? ⟨w.heap.size,6,none⟩=some (.int .i64 f):=(by rw[cell_of_row _ _ 6 _ _ _ k0];rfl);have c1:w1.cell? ⟨w.heap.size+1,6,none⟩=some (.int .i64 g):=(by rw[cell_of_row _ _ 6 _ _ _ k1];rfl);go_wp2;go_ret;exact⟨ret_int (by rw[hE.out,hc.out]),bt hb hb1 hb.size⟩
 ·have hE:=qH (cmp7_1 (f:=f) (g:=g) hg);obtain⟨c,hc⟩:=exE (cmpL [n,h0,h1,h2,h3,h4] [m,g0,g1,g2,g3,g4]);rw[hc] at hE;have hz:c ≠ 0:=fun k=>hg (cmpL_zero.1 (by rw[hc];exact k));simp only[hc] at HG;replace HG:=qH HG;have hz':(c != 0)=true:=by simpa using hz
  clear hg hc hz hs0 hs1;go_enter Tryz.func242, Tryz.ntmps242
  go_wp2_with fail
  refine(HG.out _).mono ?_;rintro e w1 ⟨rfl,hb1⟩;go_wp2;go_ret;exact⟨ret_int hE.out.symm,bt hb hb1 hb.size⟩
def insideB (a b:Int):Bool:=[0,1,2,3,4].all fun p=>!hasI a p || hasI b p
def insGo (a b:Int):List Int->Bool
 | []=>true
 | p::r=>if hasI a p && !hasI b p then false else insGo a b r
theorem insideB_eq (a b:Int):insGo a b [0,1,2,3,4]=insideB a b:=by
 simp only[insGo,insideB,List.all_cons,List.all_nil];cases hasI a 0<;>cases hasI b 0<;>cases hasI a 1<;>cases hasI b 1<;>cases hasI a 2<;>cases hasI b 2<;>cases hasI a 3<;>cases hasI b 3<;>cases hasI a 4<;>cases hasI b 4<;>rfl
theorem insGo_stop {a b p:Int}{r:List Int}(h1:hasI a p=true) (h2:hasI b p=false):insGo a b (p::r)=false:=by rw[insGo,h1,h2];rfl
theorem insGo_1 {a b p:Int}{r:List Int}(h1:hasI a p=false):insGo a b (p::r)=insGo a b r:=by rw[insGo,h1];rfl
theorem insGo_2 {a b p:Int}{r:List Int}(h2:hasI b p=true):insGo a b (p::r)=insGo a b r:=by rw[insGo,h2];cases hasI a p<;>rfl
theorem dropM {k:Nat}(h:k < 5):([0,1,2,3,4]:List Int).drop k=(k:Int)::[0,1,2,3,4].drop (k+1):=by
 rcases(show k=0\/k=1\/k=2\/k=3\/k=4 by omega) with rfl|rfl|rfl|rfl|rfl<;>rfl
theorem refInside (a b:Int) (w:World) (ha:0<=a) (ha1:a<=1000000) (hb:0<=b) (hb1:b<=1000000):Calls Tryz.prog 243 #[.int .i64 a,.int .i64 b] w fun e w'=>e = .returned (.bool (insideB a b))/\w=w':=by
 obtain⟨E,hE⟩:=exE (insideB a b);have hE0:=qH (show insGo a b [0,1,2,3,4]=E by rw[insideB_eq,hE]);rw[hE];clear hE;go_enter Tryz.func243, Tryz.ntmps243
 go_wp2;go_loop [5] (fun iv=>∃k:Nat,iv = .int .i64 (k:Int)/\k<=5/\Hid (insGo a b ([0,1,2,3,4].drop k)=E)) (fun iv=>5 - (intOf iv).toNat)
 case atStart=>exact⟨0,rfl,by omega,hE0⟩
 case round=>
  clear hE0;obtain⟨k,rfl,hk,hg⟩:=hrel;by_cases hlt:k < 5
  ·have hki:(k:Int) < 5:=(by omega);have hk0:(0:Int)<=(k:Int):=Int.natCast_nonneg _;have hg':=hg.out;rw[dropM hlt] at hg';replace hg:=qH hg';clear hg';have H1:=fun W=>refHas a k W ha ha1 (by omega) (by omega);have H2:=fun W=>refHas b k W hb hb1 (by omega) (by omega);cases q1:hasI a k with
   | true=>
    simp only[q1] at H1;cases q2:hasI b k with
    | true=>
     simp only[q2] at H2;replace H1:=qH H1;replace H2:=qH H2;replace q1:=qH q1;replace q2:=qH q2;go_wp2_with fail
     refine(H1.out _).mono ?_;rintro e w1 ⟨rfl,rfl⟩;go_wp2_with fail
     refine(H2.out _).mono ?_;rintro e w1 ⟨rfl,rfl⟩;go_wp2;go_round
     case rel=>exact⟨k+1,by go_num,hlt,by show _=_;rw[<-hg.out,insGo_2 q2.out]⟩
     case measure=>simp[intOf];omega
    | false=>
     simp only[q2] at H2;replace H1:=qH H1;replace H2:=qH H2;replace q1:=qH q1;replace q2:=qH q2;go_wp2_with fail
     refine(H1.out _).mono ?_;rintro e w1 ⟨rfl,rfl⟩;go_wp2_with fail
     refine(H2.out _).mono ?_;rintro e w1 ⟨rfl,rfl⟩;go_wp2;go_ret;exact⟨ret_bool (by rw[<-hg.out,insGo_stop q1.out q2.out]),rfl⟩
   | false=>
    simp only[q1] at H1;replace H1:=qH H1;replace q1:=qH q1;clear H2;go_wp2_with fail
    refine(H1.out _).mono ?_;rintro e w1 ⟨rfl,rfl⟩;go_wp2;go_round
    case rel=>exact⟨k+1,by go_num,hlt,by show _=_;rw[<-hg.out,insGo_1 q1.out]⟩
    case measure=>simp[intOf];omega
  ·obtain rfl:k=5:=(by omega);go_wp2;go_ret;exact⟨ret_bool (by rw[<-hg.out];rfl),rfl⟩
def movesN (ss:Jc):Nat:=(ss.map List.length).foldr (· + ·) 0
def mvPre (ss:Jc) (k:Nat):Nat:=movesN (ss.take k)
theorem movesN_app (a b:Jc):movesN (a++b)=movesN a+movesN b:=by
 unfold movesN;induction a with
 | nil=>simp
 | cons x a ih=>simp only[List.cons_append,List.map_cons,List.foldr_cons,ih];omega
theorem mvPre_succ {ss:Jc}{k:Nat}(h:k < ss.length):mvPre ss (k+1)=mvPre ss k+(ss.getD k []).length:=by
 rw[mvPre,take_snoc h [],movesN_app];simp[mvPre,movesN]
theorem mvPre_le (ss:Jc) (k:Nat):mvPre ss k<=movesN ss:=by
 have:=movesN_app (ss.take k) (ss.drop k)
 rw[List.take_append_drop] at this;rw[mvPre];omega
theorem mvPre_all (ss:Jc):mvPre ss ss.length=movesN ss:=by rw[mvPre,List.take_length]
theorem movesN_big:∀(ss:Jc) (B:Nat),(∀s∈ss,s.length<=B)->movesN ss<=ss.length * B
 | [],B,_=>by simp[movesN]
 | s::ss,B,h=>by
  have h1:=h s (by simp);have h2:=movesN_big ss B fun s hs=>h s (by simp[hs]);have e:movesN (s::ss)=s.length+movesN ss:=rfl;rw[e,List.length_cons,Nat.add_mul];omega
def AdvV (w:World) (v:Value) (n:Int) (ss:Jc):Prop:=∃sv,v = .agg #[.int .i64 n,sv]/\KSS 8 w sv ss
theorem AdvV.keep {w w':World}{v:Value}{n:Int}{ss:Jc}(h:AdvV w v n ss) (hb:Below w.heap.size w w'):AdvV w' v n ss:=by
 obtain⟨sv,h1,h2⟩:=h;exact⟨sv,h1,h2.keep hb⟩
theorem refMoves {w:World}{v:Value}{n:Int}{ss:Jc}(h:AdvV w v n ss) (hl:ss.length<=256):Calls Tryz.prog 167 #[v] w fun e w'=>e = .returned (.int .i64 (movesN ss))/\Below w.heap.size w w':=by
 obtain⟨sv,rfl,a,c,b,off,rfl,ha,hc,_⟩:=h;have hb:=(Below.refl w.heap.size w).alloc (Nat.le_refl _) (.cells #[.int .i64 n,.slice a ss.length c] 27);have hcb:=hc.keep hb
 have hB:∀s∈ss,s.length<=2199023255552:=fun s hs=>by
  obtain⟨j,hj,rfl⟩:=List.mem_iff_getElem.1 hs;obtain⟨u,_,_,_,_,_,_,_,_,hl⟩:=hc j hj;rwa [getD_eq hj] at hl
 have hM:=movesN_big ss _ hB;have hM2:ss.length * 2199023255552<=256 * 2199023255552:=Nat.mul_le_mul_right _ hl;have hP:=mvPre_le ss;have hA:=qH (mvPre_all ss);clear hB hc;go_enter Tryz.func167, Tryz.ntmps167
 go_wp2;go_loop [3,4] (fun nv iv=>∃k:Nat,k<=ss.length/\iv = .int .i64 k/\nv = .int .i64 (mvPre ss k)) (fun _ iv=>ss.length - (intOf iv).toNat)
 case atStart=>exact⟨0,by omega,rfl,rfl⟩
 case round=>
  obtain⟨k,hk,rfl,rfl⟩:=hrel;have p1:=hP k;by_cases hlt:k < ss.length
  ·obtain rfl:=ha (by omega);obtain⟨u,hcu,hu⟩:=hcb k hlt;obtain⟨ua,uc,rfl⟩:=hu.shape;have hs:=mvPre_succ hlt;have p2:=hP (k+1);obtain⟨p,hp⟩:=exE (mvPre ss k);obtain⟨m,hm⟩:=exE ((ss.getD k []).length);rw[hp] at p1 hs;rw[hm] at hs hcu;rw[hs] at p2;rw[hp];replace hs:=qH hs;clear hp hm hP ha hcb hu;go_wp2;go_round
   case rel=>exact⟨k+1,by omega,by go_num,by rw[hs.out];go_num⟩
   case measure=>simp[intOf];omega
  ·obtain rfl:k=ss.length:=(by omega);clear ha hcb hP;go_wp2;go_ret;exact⟨ret_int (by rw[hA.out]),hb⟩
end Go.Proofs.YtcnedkkcgdkioaaGreat
