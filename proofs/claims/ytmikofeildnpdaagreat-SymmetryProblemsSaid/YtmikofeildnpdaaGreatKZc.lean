/- Texts of this claim, put together: KL A1 A2. -/
import Derived.Test.YtmikofeildnpdaaGreatKZa

set_option maxRecDepth 100000
set_option maxHeartbeats 12800000
namespace Go.Proofs.YtmikofeildnpdaaGreat
open Go.RowKit
def CK (k:Nat) (w:World) (b off:Nat) (xs:List (List Int)):Prop:=∀j,j < xs.length→(xs.getD j []).length=k∧CI w b (off+j * k) (xs.getD j [])
theorem CK.keep {k:Nat}{w w':World}{b off:Nat}{xs:List (List Int)}(h:CK k w b off xs) (hb:Below w.heap.size w w'):CK k w' b off xs:=
 fun j hj=>⟨(h j hj).1,(h j hj).2.keep hb⟩
def KS (k:Nat) (w:World) (v:Value) (xs:List (List Int)):Prop:=
 ∃a c b off,v = .slice a xs.length c∧(0 < xs.length→a=some ⟨b,off,none⟩)∧CK k w b off xs∧xs.length≤2199023255552
theorem KS.keep {k:Nat}{w w':World}{v:Value}{xs:List (List Int)}(h:KS k w v xs) (hb:Below w.heap.size w w'):KS k w' v xs:=by
 obtain⟨a,c,b,off,hv,ha,hc,hl⟩:=h;exact⟨a,c,b,off,hv,ha,hc.keep hb,hl⟩
theorem KS.shape {k:Nat}{w:World}{v:Value}{xs:List (List Int)}(h:KS k w v xs):∃a c,v = .slice a xs.length c:=by
 obtain⟨a,c,_,_,hv,_⟩:=h;exact⟨a,c,hv⟩
theorem KS.nil (k:Nat) (w:World) (a:Option Addr) (c:Nat):KS k w (.slice a 0 c) []:=⟨a,c,0,0,rfl,by simp,by intro j hj;simp at hj,by simp⟩
def CKK (k:Nat) (w:World) (b off:Nat) (xs:List (List (List Int))):Prop:=∀j,j < xs.length→∃u,w.cell? ⟨b,off+j,none⟩=some u∧KS k w u (xs.getD j [])
theorem CKK.keep {k:Nat}{w w':World}{b off:Nat}{xs:List (List (List Int))}(h:CKK k w b off xs) (hb:Below w.heap.size w w'):CKK k w' b off xs:=
 fun j hj=>let ⟨u,h1,h2⟩:=h j hj;⟨u,cell_kept hb h1,h2.keep hb⟩
def KSS (k:Nat) (w:World) (v:Value) (xs:List (List (List Int))):Prop:=
 ∃a c b off,v = .slice a xs.length c∧(0 < xs.length→a=some ⟨b,off,none⟩)∧CKK k w b off xs∧xs.length≤5864062014805
theorem KSS.keep {k:Nat}{w w':World}{v:Value}{xs:List (List (List Int))}(h:KSS k w v xs) (hb:Below w.heap.size w w'):KSS k w' v xs:=by
 obtain⟨a,c,b,off,hv,ha,hc,hl⟩:=h;exact⟨a,c,b,off,hv,ha,hc.keep hb,hl⟩
theorem KSS.shape {k:Nat}{w:World}{v:Value}{xs:List (List (List Int))}(h:KSS k w v xs):∃a c,v = .slice a xs.length c:=by
 obtain⟨a,c,_,_,hv,_⟩:=h;exact⟨a,c,hv⟩
theorem eight {x:List Int}(h:x.length=8):∃a b c d e f g i,x = [a,b,c,d,e,f,g,i]:=by
 match x,h with
 | [a,b,c,d,e,f,g,i],_=>exact⟨a,b,c,d,e,f,g,i,rfl⟩
theorem seven {x:List Int}(h:x.length=7):∃a b c d e f g,x = [a,b,c,d,e,f,g]:=by
 match x,h with
 | [a,b,c,d,e,f,g],_=>exact⟨a,b,c,d,e,f,g,rfl⟩
theorem six {x:List Int}(h:x.length=6):∃a b c d e f,x = [a,b,c,d,e,f]:=by
 match x,h with
 | [a,b,c,d,e,f],_=>exact⟨a,b,c,d,e,f,rfl⟩
theorem CI.all8 {w:World}{b o:Nat}{x0 x1 x2 x3 x4 x5 x6 x7:Int}(h:CI w b o [x0,x1,x2,x3,x4,x5,x6,x7]) :
  w.cell? ⟨b,o,none⟩=some (.int .i64 x0)∧w.cell? ⟨b,o+1,none⟩=some (.int .i64 x1)∧w.cell? ⟨b,o+2,none⟩=some (.int .i64 x2)∧w.cell? ⟨b,o+3,none⟩=some (.int .i64 x3)∧
  w.cell? ⟨b,o+4,none⟩=some (.int .i64 x4)∧w.cell? ⟨b,o+5,none⟩=some (.int .i64 x5)∧w.cell? ⟨b,o+6,none⟩=some (.int .i64 x6)∧w.cell? ⟨b,o+7,none⟩=some (.int .i64 x7):=
 ⟨h 0 (by simp),h 1 (by simp),h 2 (by simp),h 3 (by simp),h 4 (by simp),h 5 (by simp),h 6 (by simp),h 7 (by simp)⟩
theorem CI.all7 {w:World}{b o:Nat}{x0 x1 x2 x3 x4 x5 x6:Int}(h:CI w b o [x0,x1,x2,x3,x4,x5,x6]) :
  w.cell? ⟨b,o,none⟩=some (.int .i64 x0)∧w.cell? ⟨b,o+1,none⟩=some (.int .i64 x1)∧w.cell? ⟨b,o+2,none⟩=some (.int .i64 x2)∧w.cell? ⟨b,o+3,none⟩=some (.int .i64 x3)∧
  w.cell? ⟨b,o+4,none⟩=some (.int .i64 x4)∧w.cell? ⟨b,o+5,none⟩=some (.int .i64 x5)∧w.cell? ⟨b,o+6,none⟩=some (.int .i64 x6):=
 ⟨h 0 (by simp),h 1 (by simp),h 2 (by simp),h 3 (by simp),h 4 (by simp),h 5 (by simp),h 6 (by simp)⟩
theorem powN (n:Int) (h1:1≤n) (h5:n≤5):n=1∨n=2∨n=3∨n=4∨n=5:=by omega
def fullI (n:Int):Int:=if n=1 then 1 else if n=2 then 3 else if n=3 then 7 else if n=4 then 15 else 31
theorem fullI_le (n:Int):1≤fullI n∧fullI n≤31:=by unfold fullI;split;omega;split;omega;split;omega;split;omega;omega
def twoI (p:Int):Int:=if p=0 then 1 else if p=1 then 2 else if p=2 then 4 else if p=3 then 8 else if p=4 then 16 else 32
theorem fullCall (n:Int) (w:World) (h1:1≤n) (h5:n≤5):Calls Tryz.prog 180 #[.int .i64 n] w fun e w'=>e = .returned (.int .i64 (fullI n))∧w=w':=by
 rcases powN n h1 h5 with rfl|rfl|rfl|rfl|rfl<;>
 ·go_enter Tryz.func180,Tryz.ntmps180
  go_wp2;go_ret;exact⟨rfl,rfl⟩
theorem powerCall (n:Int) (w:World) (h1:0≤n) (h5:n≤5):Calls Tryz.prog 179 #[.int .i64 n] w fun e w'=>e = .returned (.int .i64 (twoI n))∧w=w':=by
 go_enter Tryz.func179,Tryz.ntmps179
 go_wp2;go_loop [3,4] (fun o i=>∃k:Int,0≤k∧k≤n∧i = .int .i64 k∧o = .int .i64 (twoI k)) (fun _ i=>(n - intOf i).toNat)
 case atStart=>exact⟨0,by omega,by omega,rfl,rfl⟩
 case round=>
  obtain⟨k,hk0,hk,rfl,rfl⟩:=hrel;by_cases hlt:k < n
  ·have hs:twoI (k+1)=twoI k * 2:=by
    have:k=0∨k=1∨k=2∨k=3∨k=4:=by omega
    rcases this with rfl|rfl|rfl|rfl|rfl<;>decide
   have hb:1≤twoI k∧twoI k≤32:=(by unfold twoI;split;omega;split;omega;split;omega;split;omega;split;omega;omega);obtain⟨hb1,hb2⟩:=hb;obtain⟨t,ht⟩:=exE (twoI k);rw[ht] at hs hb1 hb2⊢;replace hs:=qH hs;clear ht;go_wp2;go_round
   case rel=>exact⟨k+1,by omega,by omega,rfl,by rw[hs.out]⟩
   case measure=>simp[intOf];omega
  ·obtain rfl:k=n:=(by omega);go_wp2;go_ret;exact⟨rfl,rfl⟩
theorem refFull (n:Int) (w:World) (h1:1≤n) (h5:n≤5):Calls Tryz.prog 178 #[.int .i64 n] w fun e w'=>e = .returned (.int .i64 (fullI n))∧w=w':=by
 have H:=qH (powerCall n w (by omega) h5);have e:fullI n=twoI n - 1:=by rcases powN n h1 h5 with rfl|rfl|rfl|rfl|rfl<;>decide
 have hb:1≤twoI n∧twoI n≤32:=by rcases powN n h1 h5 with rfl|rfl|rfl|rfl|rfl<;>decide
 obtain⟨hb1,hb2⟩:=hb;obtain⟨t,ht⟩:=exE (twoI n);rw[ht] at e hb1 hb2 H;replace e:=qH e;clear ht;go_enter Tryz.func178,Tryz.ntmps178
 go_wp2_with (go_at_call 179;refine H.out.mono ?_;rintro e w' ⟨rfl,rfl⟩)
 go_ret;exact⟨ret_int e.out.symm,rfl⟩
def hasI (x p:Int):Bool:=x / twoI p % 2 == 1
theorem refHas (x p:Int) (w:World) (h0:0≤x) (hx:x≤1000000) (h1:0≤p) (h5:p≤5):Calls Tryz.prog 127 #[.int .i64 x,.int .i64 p] w fun e w'=>e = .returned (.bool (hasI x p))∧w=w':=by
 have H:=qH (powerCall p w h1 h5);have hb:1≤twoI p∧twoI p≤32:=by unfold twoI;split;omega;split;omega;split;omega;split;omega;split;omega;omega
 obtain⟨hb1,hb2⟩:=hb;have e:=qH (show hasI x p=(x / twoI p % 2 == 1) from rfl);obtain⟨t,ht⟩:=exE (twoI p);rw[ht] at e hb1 hb2 H;have ht0:t ≠ 0:=by omega
 have hq1:0≤x / t:=Int.ediv_nonneg h0 (by omega);have hq2:x / t≤1000000:=Int.le_trans (Int.ediv_le_self _ h0) hx;clear ht;go_enter Tryz.func127,Tryz.ntmps127
 go_wp2_with (go_at_call 179;refine H.out.mono ?_;rintro e w' ⟨rfl,rfl⟩)
 go_ret;exact⟨ret_bool e.out.symm,rfl⟩
def procE (n:Int):Int:=if n < 1∨5 < n then 1 else 0
theorem refProcs (n:Int) (w:World):Calls Tryz.prog 88 #[.int .i64 n] w fun e w'=>e = .returned (.int .i64 (procE n))∧w=w':=by
 by_cases h1:n < 1
 ·go_enter Tryz.func88,Tryz.ntmps88
  go_wp2;go_ret;exact⟨ret_int (by rw[procE,if_pos (.inl h1)]),rfl⟩
 ·have h1':decide (n < 1)=false:=by simpa using h1
  by_cases h5:5 < n
  ·go_enter Tryz.func88,Tryz.ntmps88
   go_wp2;go_ret;exact⟨ret_int (by rw[procE,if_pos (.inr h5)]),rfl⟩
  ·have h5':decide (5 < n)=false:=(by simpa using h5);go_enter Tryz.func88,Tryz.ntmps88
   go_wp2;go_ret;exact⟨ret_int (by rw[procE,if_neg (by omega)]),rfl⟩
theorem procs (n:Int) (w:World):Calls Tryz.prog 181 #[.int .i64 n] w fun e w'=>e = .returned (.int .i64 (procE n))∧w=w':=by
 by_cases h1:n < 1
 ·go_enter Tryz.func181,Tryz.ntmps181
  go_wp2;go_ret;exact⟨ret_int (by rw[procE,if_pos (.inl h1)]),rfl⟩
 ·have h1':decide (n < 1)=false:=by simpa using h1
  by_cases h5:5 < n
  ·go_enter Tryz.func181,Tryz.ntmps181
   go_wp2;go_ret;exact⟨ret_int (by rw[procE,if_pos (.inr h5)]),rfl⟩
  ·have h5':decide (5 < n)=false:=(by simpa using h5);go_enter Tryz.func181,Tryz.ntmps181
   go_wp2;go_ret;exact⟨ret_int (by rw[procE,if_neg (by omega)]),rfl⟩
def hErr (n p x:Int):Int:=if n≤p then (if x=0 then 0 else 3) else if x < 0∨fullI n < x then 2 else if hasI x p then 0 else 3
def hGo (n:Int):Int→List Int→Int
 | _,[]=>0
 | p,x::r=>if hErr n p x ≠ 0 then hErr n p x else hGo n (p+1) r
def chkGr (n:Int) (hs:List Int):Int:=if n < 1∨5 < n then 2 else hGo n 0 hs
def chkSet (n x:Int):Int:=if procE n ≠ 0 then 1 else if x < 0∨twoI n≤x then 2 else 0
theorem and1_ok:((List.range 32).all fun x=>(List.range 5).all fun p=>decide (bits .and .i64 ((x:Int) / twoI p) 1=if hasI x p then 1 else 0))=true:=by decide +kernel
theorem and1 {x p:Int}(h0:0≤x) (h1:x≤31) (hp0:0≤p) (hp:p≤4):bits .and .i64 (x / twoI p) 1=if hasI x p then 1 else 0:=by
 have:=List.all_eq_true.1 (List.all_eq_true.1 and1_ok x.toNat (by rw[List.mem_range];omega)) p.toNat (by rw[List.mem_range];omega)
 have:=of_decide_eq_true this
 rwa [show((x.toNat:Nat):Int)=x by omega,show((p.toNat:Nat):Int)=p by omega] at this
theorem ix0 (a b c d e:Value) (w:World):(Instr.index 83 (.agg #[a,b,c,d,e]) (.int .i64 0)).run Tryz.prog w = .ok a w:=by kernel_rfl
theorem ix1 (a b c d e:Value) (w:World):(Instr.index 83 (.agg #[a,b,c,d,e]) (.int .i64 1)).run Tryz.prog w = .ok b w:=by kernel_rfl
theorem ix2 (a b c d e:Value) (w:World):(Instr.index 83 (.agg #[a,b,c,d,e]) (.int .i64 2)).run Tryz.prog w = .ok c w:=by kernel_rfl
theorem ix3 (a b c d e:Value) (w:World):(Instr.index 83 (.agg #[a,b,c,d,e]) (.int .i64 3)).run Tryz.prog w = .ok d w:=by kernel_rfl
theorem ix4 (a b c d e:Value) (w:World):(Instr.index 83 (.agg #[a,b,c,d,e]) (.int .i64 4)).run Tryz.prog w = .ok e w:=by kernel_rfl
theorem hGo_step {n:Int}{p x:Int}{r:List Int}(h:hErr n p x=0):hGo n p (x::r)=hGo n (p+1) r:=by rw[hGo,if_neg (fun k=>k h)]
theorem hGo_stop {n:Int}{p x:Int}{r:List Int}(h:hErr n p x ≠ 0):hGo n p (x::r)=hErr n p x:=by rw[hGo,if_pos h]
theorem hGoE {k:IntKind}{n p x E c:Int}{r:List Int}(hg:hGo n p (x::r)=E) (he:hErr n p x=c) (hc:c ≠ 0):Ending.returned (.int k c) = .returned (.int k E):=ret_int (by rw[←hg,hGo_stop (by rw[he];exact hc),he])
theorem hErr_1 {n p x:Int}(h:n≤p) (hx:x=0):hErr n p x=0:=by rw[hErr,if_pos h,if_pos hx]
theorem hErr_2 {n p x:Int}(h:n≤p) (hx : ¬x=0):hErr n p x=3:=by rw[hErr,if_pos h,if_neg hx]
theorem hErr_3 {n p x:Int}(h:p < n) (hx:x < 0∨fullI n < x):hErr n p x=2:=by rw[hErr,if_neg (by omega),if_pos hx]
theorem hErr_4 {n p x:Int}(h:p < n) (hx:0≤x∧x≤fullI n) (hb:hasI x p=false):hErr n p x=3:=by rw[hErr,if_neg (by omega),if_neg (by omega),hb];rfl
theorem hErr_5 {n p x:Int}(h:p < n) (hx:0≤x∧x≤fullI n) (hb:hasI x p=true):hErr n p x=0:=by rw[hErr,if_neg (by omega),if_neg (by omega),hb];rfl
theorem graphCheck (n h0 h1 h2 h3 h4:Int) (w:World):Calls Tryz.prog 129 #[.agg #[.int .i64 n,.int .i64 h0,.int .i64 h1,.int .i64 h2,.int .i64 h3,.int .i64 h4]] w fun e w'=>e = .returned (.int .i64 (chkGr n [h0,h1,h2,h3,h4]))∧Below w.heap.size w w':=by
 by_cases hn:n < 1∨5 < n
 ·have hE:=qH (show chkGr n [h0,h1,h2,h3,h4]=2 by rw[chkGr,if_pos hn]);by_cases hn1:n < 1
  ·go_enter Tryz.func129, Tryz.ntmps129
   go_wp2;go_ret;exact⟨ret_int hE.out.symm,(Below.refl _ _).alloc (Nat.le_refl _) _⟩
  ·have hn1':decide (n < 1)=false:=(by simpa using hn1);have hn5:5 < n:=(by omega);go_enter Tryz.func129, Tryz.ntmps129
   go_wp2;go_ret;exact⟨ret_int hE.out.symm,(Below.refl _ _).alloc (Nat.le_refl _) _⟩
 ·have hn1:decide (n < 1)=false:=decide_eq_false (by omega);have hn5:decide (5 < n)=false:=decide_eq_false (by omega);obtain⟨E,hE⟩:=exE (chkGr n [h0,h1,h2,h3,h4]);have hE0:=qH (show hGo n 0 [h0,h1,h2,h3,h4]=E by rw[←hE,chkGr,if_neg hn]);rw[hE];have g1:1≤n:=by omega
  have g5:n≤5:=by omega
  have hF:=fun W=>fullCall n W g1 g5;obtain⟨f1,f31⟩:=fullI_le n;obtain⟨F,hFe⟩:=exE (fullI n);rw[hFe] at f1 f31;simp only[hFe] at hF;replace hF:=qH hF;replace hFe:=qH hFe;clear hn hE;go_enter Tryz.func129, Tryz.ntmps129
  go_wp2;have hb:=(Below.refl w.heap.size w).alloc (Nat.le_refl _) (.cells #[.int .i64 n,.int .i64 h0,.int .i64 h1,.int .i64 h2,.int .i64 h3,.int .i64 h4] 85);go_loop [15] (fun iv=>∃k:Int,iv = .int .i64 k∧((k=0∧Hid (hGo n 0 [h0,h1,h2,h3,h4]=E))∨(k=1∧Hid (hGo n 1 [h1,h2,h3,h4]=E))∨(k=2∧Hid (hGo n 2 [h2,h3,h4]=E))∨(k=3∧Hid (hGo n 3 [h3,h4]=E))∨(k=4∧Hid (hGo n 4 [h4]=E))∨(k=5∧Hid (hGo n 5 []=E)))) (fun iv=>5 - (intOf iv).toNat)
  case atStart=>exact⟨0,rfl,.inl ⟨rfl,hE0⟩⟩
  case round=>
   clear hE0;obtain⟨k,rfl,hk⟩:=hrel;rcases hk with⟨rfl,hg⟩|⟨rfl,hg⟩|⟨rfl,hg⟩|⟨rfl,hg⟩|⟨rfl,hg⟩|⟨rfl,hg⟩
   ·have hix:=ix0 (.int .i64 h0) (.int .i64 h1) (.int .i64 h2) (.int .i64 h3) (.int .i64 h4);by_cases hp0:n≤0
    ·have hp:=qH hp0;have hp1:decide (n≤0)=true:=decide_eq_true hp0;clear hp0;by_cases hx:h0=0
     ·have hx':(h0 != 0)=false:=(by simp[hx]);replace hx:=qH hx;go_wp2;go_round
      case rel=>exact⟨1,rfl,.inr (.inl ⟨rfl,by show _=_;rw[←hg.out,hGo_step (hErr_1 hp.out hx.out)];rfl⟩)⟩
      case measure=>simp[intOf]
     ·have hx':(h0 != 0)=true:=(by simpa using hx);replace hx:=qH hx;go_wp2;go_ret;exact⟨hGoE hg.out (hErr_2 hp.out hx.out) (by decide),hb⟩
    ·have hp:=qH (show 0 < n by omega);have hp1:decide (n≤0)=false:=decide_eq_false hp0;clear hp0;by_cases hx0:h0 < 0
     ·have hx:=qH (show h0 < 0∨fullI n < h0 from .inl hx0);go_wp2;go_ret;exact⟨hGoE hg.out (hErr_3 hp.out hx.out) (by decide),hb⟩
     ·have hx0':decide (h0 < 0)=false:=decide_eq_false hx0;by_cases hx1:F < h0
      ·have hx:=qH (show h0 < 0∨fullI n < h0 from .inr (by rw[hFe.out];exact hx1));go_wp2_with (first|(go_at_call 180;refine(hF.out _).mono ?_;rintro e w1 ⟨rfl,rfl⟩))
       go_ret;exact⟨hGoE hg.out (hErr_3 hp.out hx.out) (by decide),hb⟩
      ·have hx1':decide (F < h0)=false:=decide_eq_false hx1;have hx:=qH (show 0≤h0∧h0≤fullI n by rw[hFe.out];omega);have ha:=and1 (x:=h0) (p:=0) (by omega) (by omega) (by omega) (by omega);by_cases hbit:hasI h0 0=true
       ·rw[hbit,if_pos rfl] at ha;rw[show twoI 0=1 from rfl,Int.ediv_one] at ha;replace hbit:=qH hbit;go_wp2_with (first|(go_at_call 180;refine(hF.out _).mono ?_;rintro e w1 ⟨rfl,rfl⟩))
        go_round
        case rel=>exact⟨1,rfl,.inr (.inl ⟨rfl,by show _=_;rw[←hg.out,hGo_step (hErr_5 hp.out hx.out hbit.out)];rfl⟩)⟩
        case measure=>simp[intOf]
       ·replace hbit:=eq_false_of_ne_true hbit;rw[hbit,if_neg (by decide)] at ha;rw[show twoI 0=1 from rfl,Int.ediv_one] at ha;replace hbit:=qH hbit;go_wp2_with (first|(go_at_call 180;refine(hF.out _).mono ?_;rintro e w1 ⟨rfl,rfl⟩))
        go_ret;exact⟨hGoE hg.out (hErr_4 hp.out hx.out hbit.out) (by decide),hb⟩
   ·have hix:=ix1 (.int .i64 h0) (.int .i64 h1) (.int .i64 h2) (.int .i64 h3) (.int .i64 h4);by_cases hp0:n≤1
    ·have hp:=qH hp0;have hp1:decide (n≤1)=true:=decide_eq_true hp0;clear hp0;by_cases hx:h1=0
     ·have hx':(h1 != 0)=false:=(by simp[hx]);replace hx:=qH hx;go_wp2;go_round
      case rel=>exact⟨2,rfl,.inr (.inr (.inl ⟨rfl,by show _=_;rw[←hg.out,hGo_step (hErr_1 hp.out hx.out)];rfl⟩))⟩
      case measure=>simp[intOf]
     ·have hx':(h1 != 0)=true:=(by simpa using hx);replace hx:=qH hx;go_wp2;go_ret;exact⟨hGoE hg.out (hErr_2 hp.out hx.out) (by decide),hb⟩
    ·have hp:=qH (show 1 < n by omega);have hp1:decide (n≤1)=false:=decide_eq_false hp0;clear hp0;by_cases hx0:h1 < 0
     ·have hx:=qH (show h1 < 0∨fullI n < h1 from .inl hx0);go_wp2;go_ret;exact⟨hGoE hg.out (hErr_3 hp.out hx.out) (by decide),hb⟩
     ·have hx0':decide (h1 < 0)=false:=decide_eq_false hx0;by_cases hx1:F < h1
      ·have hx:=qH (show h1 < 0∨fullI n < h1 from .inr (by rw[hFe.out];exact hx1));go_wp2_with (first|(go_at_call 180;refine(hF.out _).mono ?_;rintro e w1 ⟨rfl,rfl⟩))
       go_ret;exact⟨hGoE hg.out (hErr_3 hp.out hx.out) (by decide),hb⟩
      ·have hx1':decide (F < h1)=false:=decide_eq_false hx1;have hx:=qH (show 0≤h1∧h1≤fullI n by rw[hFe.out];omega);have ha:=and1 (x:=h1) (p:=1) (by omega) (by omega) (by omega) (by omega);by_cases hbit:hasI h1 1=true
       ·rw[hbit,if_pos rfl] at ha;rw[show twoI 1=2 from rfl] at ha;replace hbit:=qH hbit;go_wp2_with (first|(go_at_call 180;refine(hF.out _).mono ?_;rintro e w1 ⟨rfl,rfl⟩))
        go_round
        case rel=>exact⟨2,rfl,.inr (.inr (.inl ⟨rfl,by show _=_;rw[←hg.out,hGo_step (hErr_5 hp.out hx.out hbit.out)];rfl⟩))⟩
        case measure=>simp[intOf]
       ·replace hbit:=eq_false_of_ne_true hbit;rw[hbit,if_neg (by decide)] at ha;rw[show twoI 1=2 from rfl] at ha;replace hbit:=qH hbit;go_wp2_with (first|(go_at_call 180;refine(hF.out _).mono ?_;rintro e w1 ⟨rfl,rfl⟩))
        go_ret;exact⟨hGoE hg.out (hErr_4 hp.out hx.out hbit.out) (by decide),hb⟩
   ·have hix:=ix2 (.int .i64 h0) (.int .i64 h1) (.int .i64 h2) (.int .i64 h3) (.int .i64 h4);by_cases hp0:n≤2
    ·have hp:=qH hp0;have hp1:decide (n≤2)=true:=decide_eq_true hp0;clear hp0;by_cases hx:h2=0
     ·have hx':(h2 != 0)=false:=(by simp[hx]);replace hx:=qH hx;go_wp2;go_round
      case rel=>exact⟨3,rfl,.inr (.inr (.inr (.inl ⟨rfl,by show _=_;rw[←hg.out,hGo_step (hErr_1 hp.out hx.out)];rfl⟩)))⟩
      case measure=>simp[intOf]
     ·have hx':(h2 != 0)=true:=(by simpa using hx);replace hx:=qH hx;go_wp2;go_ret;exact⟨hGoE hg.out (hErr_2 hp.out hx.out) (by decide),hb⟩
    ·have hp:=qH (show 2 < n by omega);have hp1:decide (n≤2)=false:=decide_eq_false hp0;clear hp0;by_cases hx0:h2 < 0
     ·have hx:=qH (show h2 < 0∨fullI n < h2 from .inl hx0);go_wp2;go_ret;exact⟨hGoE hg.out (hErr_3 hp.out hx.out) (by decide),hb⟩
     ·have hx0':decide (h2 < 0)=false:=decide_eq_false hx0;by_cases hx1:F < h2
      ·have hx:=qH (show h2 < 0∨fullI n < h2 from .inr (by rw[hFe.out];exact hx1));go_wp2_with (first|(go_at_call 180;refine(hF.out _).mono ?_;rintro e w1 ⟨rfl,rfl⟩))
       go_ret;exact⟨hGoE hg.out (hErr_3 hp.out hx.out) (by decide),hb⟩
      ·have hx1':decide (F < h2)=false:=decide_eq_false hx1;have hx:=qH (show 0≤h2∧h2≤fullI n by rw[hFe.out];omega);have ha:=and1 (x:=h2) (p:=2) (by omega) (by omega) (by omega) (by omega);by_cases hbit:hasI h2 2=true
       ·rw[hbit,if_pos rfl] at ha;rw[show twoI 2=4 from rfl] at ha;replace hbit:=qH hbit;go_wp2_with (first|(go_at_call 180;refine(hF.out _).mono ?_;rintro e w1 ⟨rfl,rfl⟩))
        go_round
        case rel=>exact⟨3,rfl,.inr (.inr (.inr (.inl ⟨rfl,by show _=_;rw[←hg.out,hGo_step (hErr_5 hp.out hx.out hbit.out)];rfl⟩)))⟩
        case measure=>simp[intOf]
       ·replace hbit:=eq_false_of_ne_true hbit;rw[hbit,if_neg (by decide)] at ha;rw[show twoI 2=4 from rfl] at ha;replace hbit:=qH hbit;go_wp2_with (first|(go_at_call 180;refine(hF.out _).mono ?_;rintro e w1 ⟨rfl,rfl⟩))
        go_ret;exact⟨hGoE hg.out (hErr_4 hp.out hx.out hbit.out) (by decide),hb⟩
   ·have hix:=ix3 (.int .i64 h0) (.int .i64 h1) (.int .i64 h2) (.int .i64 h3) (.int .i64 h4);by_cases hp0:n≤3
    ·have hp:=qH hp0;have hp1:decide (n≤3)=true:=decide_eq_true hp0;clear hp0;by_cases hx:h3=0
     ·have hx':(h3 != 0)=false:=(by simp[hx]);replace hx:=qH hx;go_wp2;go_round
      case rel=>exact⟨4,rfl,.inr (.inr (.inr (.inr (.inl ⟨rfl,by show _=_;rw[←hg.out,hGo_step (hErr_1 hp.out hx.out)];rfl⟩))))⟩
      case measure=>simp[intOf]
     ·have hx':(h3 != 0)=true:=(by simpa using hx);replace hx:=qH hx;go_wp2;go_ret;exact⟨hGoE hg.out (hErr_2 hp.out hx.out) (by decide),hb⟩
    ·have hp:=qH (show 3 < n by omega);have hp1:decide (n≤3)=false:=decide_eq_false hp0;clear hp0;by_cases hx0:h3 < 0
     ·have hx:=qH (show h3 < 0∨fullI n < h3 from .inl hx0);go_wp2;go_ret;exact⟨hGoE hg.out (hErr_3 hp.out hx.out) (by decide),hb⟩
     ·have hx0':decide (h3 < 0)=false:=decide_eq_false hx0;by_cases hx1:F < h3
      ·have hx:=qH (show h3 < 0∨fullI n < h3 from .inr (by rw[hFe.out];exact hx1));go_wp2_with (first|(go_at_call 180;refine(hF.out _).mono ?_;rintro e w1 ⟨rfl,rfl⟩))
       go_ret;exact⟨hGoE hg.out (hErr_3 hp.out hx.out) (by decide),hb⟩
      ·have hx1':decide (F < h3)=false:=decide_eq_false hx1;have hx:=qH (show 0≤h3∧h3≤fullI n by rw[hFe.out];omega);have ha:=and1 (x:=h3) (p:=3) (by omega) (by omega) (by omega) (by omega);by_cases hbit:hasI h3 3=true
       ·rw[hbit,if_pos rfl] at ha;rw[show twoI 3=8 from rfl] at ha;replace hbit:=qH hbit;go_wp2_with (first|(go_at_call 180;refine(hF.out _).mono ?_;rintro e w1 ⟨rfl,rfl⟩))
        go_round
        case rel=>exact⟨4,rfl,.inr (.inr (.inr (.inr (.inl ⟨rfl,by show _=_;rw[←hg.out,hGo_step (hErr_5 hp.out hx.out hbit.out)];rfl⟩))))⟩
        case measure=>simp[intOf]
       ·replace hbit:=eq_false_of_ne_true hbit;rw[hbit,if_neg (by decide)] at ha;rw[show twoI 3=8 from rfl] at ha;replace hbit:=qH hbit;go_wp2_with (first|(go_at_call 180;refine(hF.out _).mono ?_;rintro e w1 ⟨rfl,rfl⟩))
        go_ret;exact⟨hGoE hg.out (hErr_4 hp.out hx.out hbit.out) (by decide),hb⟩
   ·have hix:=ix4 (.int .i64 h0) (.int .i64 h1) (.int .i64 h2) (.int .i64 h3) (.int .i64 h4);by_cases hp0:n≤4
    ·have hp:=qH hp0;have hp1:decide (n≤4)=true:=decide_eq_true hp0;clear hp0;by_cases hx:h4=0
     ·have hx':(h4 != 0)=false:=(by simp[hx]);replace hx:=qH hx;go_wp2;go_round
      case rel=>exact⟨5,rfl,.inr (.inr (.inr (.inr (.inr (⟨rfl,by show _=_;rw[←hg.out,hGo_step (hErr_1 hp.out hx.out)];rfl⟩)))))⟩
      case measure=>simp[intOf]
     ·have hx':(h4 != 0)=true:=(by simpa using hx);replace hx:=qH hx;go_wp2;go_ret;exact⟨hGoE hg.out (hErr_2 hp.out hx.out) (by decide),hb⟩
    ·have hp:=qH (show 4 < n by omega);have hp1:decide (n≤4)=false:=decide_eq_false hp0;clear hp0;by_cases hx0:h4 < 0
     ·have hx:=qH (show h4 < 0∨fullI n < h4 from .inl hx0);go_wp2;go_ret;exact⟨hGoE hg.out (hErr_3 hp.out hx.out) (by decide),hb⟩
     ·have hx0':decide (h4 < 0)=false:=decide_eq_false hx0;by_cases hx1:F < h4
      ·have hx:=qH (show h4 < 0∨fullI n < h4 from .inr (by rw[hFe.out];exact hx1));go_wp2_with (first|(go_at_call 180;refine(hF.out _).mono ?_;rintro e w1 ⟨rfl,rfl⟩))
       go_ret;exact⟨hGoE hg.out (hErr_3 hp.out hx.out) (by decide),hb⟩
      ·have hx1':decide (F < h4)=false:=decide_eq_false hx1;have hx:=qH (show 0≤h4∧h4≤fullI n by rw[hFe.out];omega);have ha:=and1 (x:=h4) (p:=4) (by omega) (by omega) (by omega) (by omega);by_cases hbit:hasI h4 4=true
       ·rw[hbit,if_pos rfl] at ha;rw[show twoI 4=16 from rfl] at ha;replace hbit:=qH hbit;go_wp2_with (first|(go_at_call 180;refine(hF.out _).mono ?_;rintro e w1 ⟨rfl,rfl⟩))
        go_round
        case rel=>exact⟨5,rfl,.inr (.inr (.inr (.inr (.inr (⟨rfl,by show _=_;rw[←hg.out,hGo_step (hErr_5 hp.out hx.out hbit.out)];rfl⟩)))))⟩
        case measure=>simp[intOf]
       ·replace hbit:=eq_false_of_ne_true hbit;rw[hbit,if_neg (by decide)] at ha;rw[show twoI 4=16 from rfl] at ha;replace hbit:=qH hbit;go_wp2_with (first|(go_at_call 180;refine(hF.out _).mono ?_;rintro e w1 ⟨rfl,rfl⟩))
        go_ret;exact⟨hGoE hg.out (hErr_4 hp.out hx.out hbit.out) (by decide),hb⟩
   ·go_wp2;go_ret;exact⟨ret_int (by rw[←hg.out];rfl),hb⟩
theorem refGraphCheck (n h0 h1 h2 h3 h4:Int) (w:World):Calls Tryz.prog 125 #[.agg #[.int .i64 n,.int .i64 h0,.int .i64 h1,.int .i64 h2,.int .i64 h3,.int .i64 h4]] w fun e w'=>e = .returned (.int .i64 (chkGr n [h0,h1,h2,h3,h4]))∧Below w.heap.size w w':=by
 by_cases hn:n < 1∨5 < n
 ·have hE:=qH (show chkGr n [h0,h1,h2,h3,h4]=2 by rw[chkGr,if_pos hn]);by_cases hn1:n < 1
  ·go_enter Tryz.func125, Tryz.ntmps125
   go_wp2;go_ret;exact⟨ret_int hE.out.symm,(Below.refl _ _).alloc (Nat.le_refl _) _⟩
  ·have hn1':decide (n < 1)=false:=(by simpa using hn1);have hn5:5 < n:=(by omega);go_enter Tryz.func125, Tryz.ntmps125
   go_wp2;go_ret;exact⟨ret_int hE.out.symm,(Below.refl _ _).alloc (Nat.le_refl _) _⟩
 ·have hn1:decide (n < 1)=false:=decide_eq_false (by omega);have hn5:decide (5 < n)=false:=decide_eq_false (by omega);obtain⟨E,hE⟩:=exE (chkGr n [h0,h1,h2,h3,h4]);have hE0:=qH (show hGo n 0 [h0,h1,h2,h3,h4]=E by rw[←hE,chkGr,if_neg hn]);rw[hE];have g1:1≤n:=by omega
  have g5:n≤5:=by omega
  have hF:=fun W=>refFull n W g1 g5;obtain⟨f1,f31⟩:=fullI_le n;obtain⟨F,hFe⟩:=exE (fullI n);rw[hFe] at f1 f31;simp only[hFe] at hF;replace hF:=qH hF;replace hFe:=qH hFe;clear hn hE;go_enter Tryz.func125, Tryz.ntmps125
  go_wp2;have hb:=(Below.refl w.heap.size w).alloc (Nat.le_refl _) (.cells #[.int .i64 n,.int .i64 h0,.int .i64 h1,.int .i64 h2,.int .i64 h3,.int .i64 h4] 85);go_loop [3] (fun iv=>∃k:Int,iv = .int .i64 k∧((k=0∧Hid (hGo n 0 [h0,h1,h2,h3,h4]=E))∨(k=1∧Hid (hGo n 1 [h1,h2,h3,h4]=E))∨(k=2∧Hid (hGo n 2 [h2,h3,h4]=E))∨(k=3∧Hid (hGo n 3 [h3,h4]=E))∨(k=4∧Hid (hGo n 4 [h4]=E))∨(k=5∧Hid (hGo n 5 []=E)))) (fun iv=>5 - (intOf iv).toNat)
  case atStart=>exact⟨0,rfl,.inl ⟨rfl,hE0⟩⟩
  case round=>
   clear hE0;obtain⟨k,rfl,hk⟩:=hrel;rcases hk with⟨rfl,hg⟩|⟨rfl,hg⟩|⟨rfl,hg⟩|⟨rfl,hg⟩|⟨rfl,hg⟩|⟨rfl,hg⟩
   ·have hix:=ix0 (.int .i64 h0) (.int .i64 h1) (.int .i64 h2) (.int .i64 h3) (.int .i64 h4);by_cases hp0:n≤0
    ·have hp:=qH hp0;have hp1:decide (n≤0)=true:=decide_eq_true hp0;clear hp0;by_cases hx:h0=0
     ·have hx':(h0 != 0)=false:=(by simp[hx]);replace hx:=qH hx;go_wp2;go_round
      case rel=>exact⟨1,rfl,.inr (.inl ⟨rfl,by show _=_;rw[←hg.out,hGo_step (hErr_1 hp.out hx.out)];rfl⟩)⟩
      case measure=>simp[intOf]
     ·have hx':(h0 != 0)=true:=(by simpa using hx);replace hx:=qH hx;go_wp2;go_ret;exact⟨hGoE hg.out (hErr_2 hp.out hx.out) (by decide),hb⟩
    ·have hp:=qH (show 0 < n by omega);have hp1:decide (n≤0)=false:=decide_eq_false hp0;clear hp0;by_cases hx0:h0 < 0
     ·have hx:=qH (show h0 < 0∨fullI n < h0 from .inl hx0);go_wp2;go_ret;exact⟨hGoE hg.out (hErr_3 hp.out hx.out) (by decide),hb⟩
     ·have hx0':decide (h0 < 0)=false:=decide_eq_false hx0;by_cases hx1:F < h0
      ·have hx:=qH (show h0 < 0∨fullI n < h0 from .inr (by rw[hFe.out];exact hx1));go_wp2_with (first|(go_at_call 178;refine(hF.out _).mono ?_;rintro e w1 ⟨rfl,rfl⟩)|(go_at_call 127;refine(refHas _ _ _ (by omega) (by omega) (by omega) (by omega)).mono ?_;rintro e w2 ⟨rfl,rfl⟩;rw[hbit]))
       go_ret;exact⟨hGoE hg.out (hErr_3 hp.out hx.out) (by decide),hb⟩
      ·have hx1':decide (F < h0)=false:=decide_eq_false hx1;have hx:=qH (show 0≤h0∧h0≤fullI n by rw[hFe.out];omega);have ha:=and1 (x:=h0) (p:=0) (by omega) (by omega) (by omega) (by omega);by_cases hbit:hasI h0 0=true
       ·clear ha;go_wp2_with (first|(go_at_call 178;refine(hF.out _).mono ?_;rintro e w1 ⟨rfl,rfl⟩)|(go_at_call 127;refine(refHas _ _ _ (by omega) (by omega) (by omega) (by omega)).mono ?_;rintro e w2 ⟨rfl,rfl⟩;rw[hbit]))
        go_round
        case rel=>exact⟨1,rfl,.inr (.inl ⟨rfl,by show _=_;rw[←hg.out,hGo_step (hErr_5 hp.out hx.out hbit)];rfl⟩)⟩
        case measure=>simp[intOf]
       ·replace hbit:=eq_false_of_ne_true hbit;clear ha;go_wp2_with (first|(go_at_call 178;refine(hF.out _).mono ?_;rintro e w1 ⟨rfl,rfl⟩)|(go_at_call 127;refine(refHas _ _ _ (by omega) (by omega) (by omega) (by omega)).mono ?_;rintro e w2 ⟨rfl,rfl⟩;rw[hbit]))
        go_ret;exact⟨hGoE hg.out (hErr_4 hp.out hx.out hbit) (by decide),hb⟩
   ·have hix:=ix1 (.int .i64 h0) (.int .i64 h1) (.int .i64 h2) (.int .i64 h3) (.int .i64 h4);by_cases hp0:n≤1
    ·have hp:=qH hp0;have hp1:decide (n≤1)=true:=decide_eq_true hp0;clear hp0;by_cases hx:h1=0
     ·have hx':(h1 != 0)=false:=(by simp[hx]);replace hx:=qH hx;go_wp2;go_round
      case rel=>exact⟨2,rfl,.inr (.inr (.inl ⟨rfl,by show _=_;rw[←hg.out,hGo_step (hErr_1 hp.out hx.out)];rfl⟩))⟩
      case measure=>simp[intOf]
     ·have hx':(h1 != 0)=true:=(by simpa using hx);replace hx:=qH hx;go_wp2;go_ret;exact⟨hGoE hg.out (hErr_2 hp.out hx.out) (by decide),hb⟩
    ·have hp:=qH (show 1 < n by omega);have hp1:decide (n≤1)=false:=decide_eq_false hp0;clear hp0;by_cases hx0:h1 < 0
     ·have hx:=qH (show h1 < 0∨fullI n < h1 from .inl hx0);go_wp2;go_ret;exact⟨hGoE hg.out (hErr_3 hp.out hx.out) (by decide),hb⟩
     ·have hx0':decide (h1 < 0)=false:=decide_eq_false hx0;by_cases hx1:F < h1
      ·have hx:=qH (show h1 < 0∨fullI n < h1 from .inr (by rw[hFe.out];exact hx1));go_wp2_with (first|(go_at_call 178;refine(hF.out _).mono ?_;rintro e w1 ⟨rfl,rfl⟩)|(go_at_call 127;refine(refHas _ _ _ (by omega) (by omega) (by omega) (by omega)).mono ?_;rintro e w2 ⟨rfl,rfl⟩;rw[hbit]))
       go_ret;exact⟨hGoE hg.out (hErr_3 hp.out hx.out) (by decide),hb⟩
      ·have hx1':decide (F < h1)=false:=decide_eq_false hx1;have hx:=qH (show 0≤h1∧h1≤fullI n by rw[hFe.out];omega);have ha:=and1 (x:=h1) (p:=1) (by omega) (by omega) (by omega) (by omega);by_cases hbit:hasI h1 1=true
       ·clear ha;go_wp2_with (first|(go_at_call 178;refine(hF.out _).mono ?_;rintro e w1 ⟨rfl,rfl⟩)|(go_at_call 127;refine(refHas _ _ _ (by omega) (by omega) (by omega) (by omega)).mono ?_;rintro e w2 ⟨rfl,rfl⟩;rw[hbit]))
        go_round
        case rel=>exact⟨2,rfl,.inr (.inr (.inl ⟨rfl,by show _=_;rw[←hg.out,hGo_step (hErr_5 hp.out hx.out hbit)];rfl⟩))⟩
        case measure=>simp[intOf]
       ·replace hbit:=eq_false_of_ne_true hbit;clear ha;go_wp2_with (first|(go_at_call 178;refine(hF.out _).mono ?_;rintro e w1 ⟨rfl,rfl⟩)|(go_at_call 127;refine(refHas _ _ _ (by omega) (by omega) (by omega) (by omega)).mono ?_;rintro e w2 ⟨rfl,rfl⟩;rw[hbit]))
        go_ret;exact⟨hGoE hg.out (hErr_4 hp.out hx.out hbit) (by decide),hb⟩
   ·have hix:=ix2 (.int .i64 h0) (.int .i64 h1) (.int .i64 h2) (.int .i64 h3) (.int .i64 h4);by_cases hp0:n≤2
    ·have hp:=qH hp0;have hp1:decide (n≤2)=true:=decide_eq_true hp0;clear hp0;by_cases hx:h2=0
     ·have hx':(h2 != 0)=false:=(by simp[hx]);replace hx:=qH hx;go_wp2;go_round
      case rel=>exact⟨3,rfl,.inr (.inr (.inr (.inl ⟨rfl,by show _=_;rw[←hg.out,hGo_step (hErr_1 hp.out hx.out)];rfl⟩)))⟩
      case measure=>simp[intOf]
     ·have hx':(h2 != 0)=true:=(by simpa using hx);replace hx:=qH hx;go_wp2;go_ret;exact⟨hGoE hg.out (hErr_2 hp.out hx.out) (by decide),hb⟩
    ·have hp:=qH (show 2 < n by omega);have hp1:decide (n≤2)=false:=decide_eq_false hp0;clear hp0;by_cases hx0:h2 < 0
     ·have hx:=qH (show h2 < 0∨fullI n < h2 from .inl hx0);go_wp2;go_ret;exact⟨hGoE hg.out (hErr_3 hp.out hx.out) (by decide),hb⟩
     ·have hx0':decide (h2 < 0)=false:=decide_eq_false hx0;by_cases hx1:F < h2
      ·have hx:=qH (show h2 < 0∨fullI n < h2 from .inr (by rw[hFe.out];exact hx1));go_wp2_with (first|(go_at_call 178;refine(hF.out _).mono ?_;rintro e w1 ⟨rfl,rfl⟩)|(go_at_call 127;refine(refHas _ _ _ (by omega) (by omega) (by omega) (by omega)).mono ?_;rintro e w2 ⟨rfl,rfl⟩;rw[hbit]))
       go_ret;exact⟨hGoE hg.out (hErr_3 hp.out hx.out) (by decide),hb⟩
      ·have hx1':decide (F < h2)=false:=decide_eq_false hx1;have hx:=qH (show 0≤h2∧h2≤fullI n by rw[hFe.out];omega);have ha:=and1 (x:=h2) (p:=2) (by omega) (by omega) (by omega) (by omega);by_cases hbit:hasI h2 2=true
       ·clear ha;go_wp2_with (first|(go_at_call 178;refine(hF.out _).mono ?_;rintro e w1 ⟨rfl,rfl⟩)|(go_at_call 127;refine(refHas _ _ _ (by omega) (by omega) (by omega) (by omega)).mono ?_;rintro e w2 ⟨rfl,rfl⟩;rw[hbit]))
        go_round
        case rel=>exact⟨3,rfl,.inr (.inr (.inr (.inl ⟨rfl,by show _=_;rw[←hg.out,hGo_step (hErr_5 hp.out hx.out hbit)];rfl⟩)))⟩
        case measure=>simp[intOf]
       ·replace hbit:=eq_false_of_ne_true hbit;clear ha;go_wp2_with (first|(go_at_call 178;refine(hF.out _).mono ?_;rintro e w1 ⟨rfl,rfl⟩)|(go_at_call 127;refine(refHas _ _ _ (by omega) (by omega) (by omega) (by omega)).mono ?_;rintro e w2 ⟨rfl,rfl⟩;rw[hbit]))
        go_ret;exact⟨hGoE hg.out (hErr_4 hp.out hx.out hbit) (by decide),hb⟩
   ·have hix:=ix3 (.int .i64 h0) (.int .i64 h1) (.int .i64 h2) (.int .i64 h3) (.int .i64 h4);by_cases hp0:n≤3
    ·have hp:=qH hp0;have hp1:decide (n≤3)=true:=decide_eq_true hp0;clear hp0;by_cases hx:h3=0
     ·have hx':(h3 != 0)=false:=(by simp[hx]);replace hx:=qH hx;go_wp2;go_round
      case rel=>exact⟨4,rfl,.inr (.inr (.inr (.inr (.inl ⟨rfl,by show _=_;rw[←hg.out,hGo_step (hErr_1 hp.out hx.out)];rfl⟩))))⟩
      case measure=>simp[intOf]
     ·have hx':(h3 != 0)=true:=(by simpa using hx);replace hx:=qH hx;go_wp2;go_ret;exact⟨hGoE hg.out (hErr_2 hp.out hx.out) (by decide),hb⟩
    ·have hp:=qH (show 3 < n by omega);have hp1:decide (n≤3)=false:=decide_eq_false hp0;clear hp0;by_cases hx0:h3 < 0
     ·have hx:=qH (show h3 < 0∨fullI n < h3 from .inl hx0);go_wp2;go_ret;exact⟨hGoE hg.out (hErr_3 hp.out hx.out) (by decide),hb⟩
     ·have hx0':decide (h3 < 0)=false:=decide_eq_false hx0;by_cases hx1:F < h3
      ·have hx:=qH (show h3 < 0∨fullI n < h3 from .inr (by rw[hFe.out];exact hx1));go_wp2_with (first|(go_at_call 178;refine(hF.out _).mono ?_;rintro e w1 ⟨rfl,rfl⟩)|(go_at_call 127;refine(refHas _ _ _ (by omega) (by omega) (by omega) (by omega)).mono ?_;rintro e w2 ⟨rfl,rfl⟩;rw[hbit]))
       go_ret;exact⟨hGoE hg.out (hErr_3 hp.out hx.out) (by decide),hb⟩
      ·have hx1':decide (F < h3)=false:=decide_eq_false hx1;have hx:=qH (show 0≤h3∧h3≤fullI n by rw[hFe.out];omega);have ha:=and1 (x:=h3) (p:=3) (by omega) (by omega) (by omega) (by omega);by_cases hbit:hasI h3 3=true
       ·clear ha;go_wp2_with (first|(go_at_call 178;refine(hF.out _).mono ?_;rintro e w1 ⟨rfl,rfl⟩)|(go_at_call 127;refine(refHas _ _ _ (by omega) (by omega) (by omega) (by omega)).mono ?_;rintro e w2 ⟨rfl,rfl⟩;rw[hbit]))
        go_round
        case rel=>exact⟨4,rfl,.inr (.inr (.inr (.inr (.inl ⟨rfl,by show _=_;rw[←hg.out,hGo_step (hErr_5 hp.out hx.out hbit)];rfl⟩))))⟩
        case measure=>simp[intOf]
       ·replace hbit:=eq_false_of_ne_true hbit;clear ha;go_wp2_with (first|(go_at_call 178;refine(hF.out _).mono ?_;rintro e w1 ⟨rfl,rfl⟩)|(go_at_call 127;refine(refHas _ _ _ (by omega) (by omega) (by omega) (by omega)).mono ?_;rintro e w2 ⟨rfl,rfl⟩;rw[hbit]))
        go_ret;exact⟨hGoE hg.out (hErr_4 hp.out hx.out hbit) (by decide),hb⟩
   ·have hix:=ix4 (.int .i64 h0) (.int .i64 h1) (.int .i64 h2) (.int .i64 h3) (.int .i64 h4);by_cases hp0:n≤4
    ·have hp:=qH hp0;have hp1:decide (n≤4)=true:=decide_eq_true hp0;clear hp0;by_cases hx:h4=0
     ·have hx':(h4 != 0)=false:=(by simp[hx]);replace hx:=qH hx;go_wp2;go_round
      case rel=>exact⟨5,rfl,.inr (.inr (.inr (.inr (.inr (⟨rfl,by show _=_;rw[←hg.out,hGo_step (hErr_1 hp.out hx.out)];rfl⟩)))))⟩
      case measure=>simp[intOf]
     ·have hx':(h4 != 0)=true:=(by simpa using hx);replace hx:=qH hx;go_wp2;go_ret;exact⟨hGoE hg.out (hErr_2 hp.out hx.out) (by decide),hb⟩
    ·have hp:=qH (show 4 < n by omega);have hp1:decide (n≤4)=false:=decide_eq_false hp0;clear hp0;by_cases hx0:h4 < 0
     ·have hx:=qH (show h4 < 0∨fullI n < h4 from .inl hx0);go_wp2;go_ret;exact⟨hGoE hg.out (hErr_3 hp.out hx.out) (by decide),hb⟩
     ·have hx0':decide (h4 < 0)=false:=decide_eq_false hx0;by_cases hx1:F < h4
      ·have hx:=qH (show h4 < 0∨fullI n < h4 from .inr (by rw[hFe.out];exact hx1));go_wp2_with (first|(go_at_call 178;refine(hF.out _).mono ?_;rintro e w1 ⟨rfl,rfl⟩)|(go_at_call 127;refine(refHas _ _ _ (by omega) (by omega) (by omega) (by omega)).mono ?_;rintro e w2 ⟨rfl,rfl⟩;rw[hbit]))
       go_ret;exact⟨hGoE hg.out (hErr_3 hp.out hx.out) (by decide),hb⟩
      ·have hx1':decide (F < h4)=false:=decide_eq_false hx1;have hx:=qH (show 0≤h4∧h4≤fullI n by rw[hFe.out];omega);have ha:=and1 (x:=h4) (p:=4) (by omega) (by omega) (by omega) (by omega);by_cases hbit:hasI h4 4=true
       ·clear ha;go_wp2_with (first|(go_at_call 178;refine(hF.out _).mono ?_;rintro e w1 ⟨rfl,rfl⟩)|(go_at_call 127;refine(refHas _ _ _ (by omega) (by omega) (by omega) (by omega)).mono ?_;rintro e w2 ⟨rfl,rfl⟩;rw[hbit]))
        go_round
        case rel=>exact⟨5,rfl,.inr (.inr (.inr (.inr (.inr (⟨rfl,by show _=_;rw[←hg.out,hGo_step (hErr_5 hp.out hx.out hbit)];rfl⟩)))))⟩
        case measure=>simp[intOf]
       ·replace hbit:=eq_false_of_ne_true hbit;clear ha;go_wp2_with (first|(go_at_call 178;refine(hF.out _).mono ?_;rintro e w1 ⟨rfl,rfl⟩)|(go_at_call 127;refine(refHas _ _ _ (by omega) (by omega) (by omega) (by omega)).mono ?_;rintro e w2 ⟨rfl,rfl⟩;rw[hbit]))
        go_ret;exact⟨hGoE hg.out (hErr_4 hp.out hx.out hbit) (by decide),hb⟩
   ·go_wp2;go_ret;exact⟨ret_int (by rw[←hg.out];rfl),hb⟩
end Go.Proofs.YtmikofeildnpdaaGreat
