/- Texts of this claim, put together: A3 A4 A5 A6. -/
import Derived.Test.YtcnedkkcgdkioaaGreatKBb
import Derived.StillTailTactics

set_option maxRecDepth 100000
set_option maxHeartbeats 12800000
namespace Go.Proofs.YtcnedkkcgdkioaaGreat
open Go.RowKit
theorem TE (a:Int) (w:World):Calls Tryz.prog 209 #[.int .i64 a] w fun e w'=>e = .returned (.bool false)/\w=w':=by
 go_enter Tryz.func209, Tryz.ntmps209
 go_wp2;go_ret;exact⟨LC (by simp),rfl⟩
theorem MW (a b:Int) (w:World):Calls Tryz.prog 177 #[.int .i64 a,.int .i64 b] w fun e w'=>e = .returned (.int .i64 (AU a b))/\w=w':=by
 by_cases h:a < b
 ·go_enter Tryz.func177, Tryz.ntmps177
  go_wp2_with (go_at_call 209;refine(TE _ _).mono ?_;rintro e w' ⟨rfl,rfl⟩)
  go_ret;exact⟨AM (by rw[AU,if_pos h]),rfl⟩
 ·have d:decide (a < b)=false:=by simpa using h
  by_cases c:b < a
  ·go_enter Tryz.func177, Tryz.ntmps177
   go_wp2_with (go_at_call 209;refine(TE _ _).mono ?_;rintro e w' ⟨rfl,rfl⟩)
   go_ret;exact⟨AM (by rw[AU,if_neg (by omega),if_pos c]),rfl⟩
  ·have f:decide (b < a)=false:=(by simpa using c);go_enter Tryz.func177, Tryz.ntmps177
   go_wp2_with (go_at_call 209;refine(TE _ _).mono ?_;rintro e w' ⟨rfl,rfl⟩)
   go_ret;exact⟨AM (by rw[AU,if_neg (by omega),if_neg (by omega)]),rfl⟩
theorem gT (a b:Int) (w:World):Calls Tryz.prog 177 #[.int .i64 a,.int .i64 b] w fun e w'=>e = .returned (.int .i64 (AU a b))/\Qt w w':=(MW a b w).mono fun _ _ ⟨h,c⟩=>⟨h,0,c.symm⟩
theorem LB {P:Program}{f:FuncId}{args:Array Value}{w:World}{a n:Nat}{v:Value}(h:Calls P f args (w.drewN (a+n)) fun e w'=>e = .returned v/\Qt (w.drewN (a+n)) w') :
  Calls P f args (w.drewN (a+n)) fun e c=>e = .returned v/\∃m,c=w.drewN (a+m):=by
 refine h.mono ?_;rintro e w' ⟨b,k,rfl⟩;exact⟨b,n+k,by rw[World.drewN_drewN];congr 1;omega⟩
theorem NZ:∀x:List Int,AH x x=0
 | []=>rfl
 | a::x=>by rw[AH,show AU a a=0 by simp[AU],if_pos rfl,NZ x]
theorem JA {a b:Int}{x y:List Int}(h:AU a b=0):AH (a::x) (b::y)=AH x y:=by rw[AH,if_pos h]
theorem GP {a b:Int}{x y:List Int}(h : ¬AU a b=0):AH (a::x) (b::y)=AU a b:=by rw[AH,if_neg h]
theorem KM {a b:Int}:AU a b=0↔a=b:=by
 unfold AU;by_cases h:a < b
 ·simp[h];omega
 ·by_cases c:b < a
  ·simp[h,c];omega
  ·simp[h,c];omega
theorem MV {a b:Int}(h:a < b):AU a b = -1:=by rw[AU,if_pos h]
theorem MU {a b:Int}(h:b < a):AU a b=1:=by rw[AU,if_neg (by omega),if_pos h]
theorem eB {w W:World}{c d:Array Value}{t s:TypeId}(h:W=(w.alloc (.cells c t)).alloc (.cells d s)):Below w.heap.size w W/\W.heap[w.heap.size]? = some (.cells c t)/\W.heap[w.heap.size+1]? = some (.cells d s):=by
 have e:=wE (w.alloc (.cells c t)) (.cells d s);rw[World.size_alloc] at e;rw[h];exact⟨((wB _ w).alloc (wC _) _).alloc (by simp) _,(Below.heap_alloc _ _ _ (by simp)).trans (wE w _),e⟩
theorem PP {W:World}{b k:Nat}{n a c d e f:Int}{t:TypeId}(h:W.heap[b]? = some (.cells #[.int .i64 n,.int .i64 a,.int .i64 c,.int .i64 d,.int .i64 e,.int .i64 f] t)) (g:k < 5):W.cell? ⟨b,1+k,none⟩=some (.int .i64 ([a,c,d,e,f].getD k 0)):=by
 rw[cell_of_row _ b (1+k) _ _ _ h];rcases(show k=0\/k=1\/k=2\/k=3\/k=4 by omega) with rfl|rfl|rfl|rfl|rfl<;>rfl
theorem lC (n i j l o p m g0 g a b f:Int) (w:World):Calls Tryz.prog 269 #[.agg #[.int .i64 n,.int .i64 i,.int .i64 j,.int .i64 l,.int .i64 o,.int .i64 p],.agg #[.int .i64 m,.int .i64 g0,.int .i64 g,.int .i64 a,.int .i64 b,.int .i64 f]] w fun e w'=>e = .returned (.int .i64 (AH [n,i,j,l,o,p] [m,g0,g,a,b,f]))/\Below w.heap.size w w':=by
 obtain⟨P,q⟩:=AF ((w.alloc (.cells #[.int .i64 n,.int .i64 i,.int .i64 j,.int .i64 l,.int .i64 o,.int .i64 p] 146)).alloc (.cells #[.int .i64 m,.int .i64 g0,.int .i64 g,.int .i64 a,.int .i64 b,.int .i64 f] 146));obtain⟨F,K,J⟩:=eB q;by_cases u : [n,i,j,l,o,p] = [m,g0,g,a,b,f]
 ·have r:=qH (show AH [n,i,j,l,o,p] [m,g0,g,a,b,f]=0 by rw[u];exact NZ _);have M:=qH (FN.2 u);replace q:=qH q;clear u K J;go_enter Tryz.func269, Tryz.ntmps269
  have T:=M.out;go_wp2;go_ret;exact⟨AM r.out.symm,by rw[<-q.out];exact F⟩
 ·have M:=FL.2 u;clear u;obtain⟨E,r⟩:=AB (AH [n,i,j,l,o,p] [m,g0,g,a,b,f]);rw[r];by_cases t:n=m
  ·have C:=qH (show AH [i,j,l,o,p] [g0,g,a,b,f]=E by rw[<-r];exact(JA (KM.2 t)).symm);have S:(n != m)=false:=(by simp[t]);replace t:=qH t;replace q:=qH q;clear r;go_enter Tryz.func269, Tryz.ntmps269
   go_wp2;rw[<-q.out];go_loopw [20] (fun I wr=>∃k L:Nat,wr=P.drewN L/\I = .int .i64 (k:Int)/\k<=5/\Hid (AH ([i,j,l,o,p].drop k) ([g0,g,a,b,f].drop k)=E)) (fun I _=>5 - (intOf I).toNat)
   case atStart=>exact⟨0,0,(by first|rfl|simp),rfl,by omega,C⟩
   case round=>
    clear C;obtain⟨k,L,rfl,rfl,U,v⟩:=hrel;have H:=qH (fun d=>wH F d);by_cases A:k < 5
    ·have X:(k:Int) < 5:=(by omega);have V:(0:Int)<=(k:Int):=Int.natCast_nonneg _;have R:=PP K A;have Q:=PP J A;have z:=v.out;rw[NA i j l o p A,NA g0 g a b f A] at z;obtain⟨x,N⟩:=AB ([i,j,l,o,p].getD k 0);obtain⟨y,O⟩:=AB ([g0,g,a,b,f].getD k 0);rw[N] at R z;rw[O] at Q z;replace v:=qH z;clear z N O;obtain⟨c,s⟩:=AB (AU x y);have B:=fun W=>gT x y W;simp only[s] at B;replace B:=qH B;by_cases D:c=0
     ·subst D;have G:=qH s;clear s;go_wp2;go_quiet ((go_at_call 177;exact LB (B.out _)))
      go_wp2;go_roundw
      case rel=>exact⟨k+1,_,(by first|exact rfl|exact World.drewN_drewN _ _ _),by go_num,A,by show _=_;rw[<-v.out,JA G.out]⟩
      case measure=>simp[intOf];omega
     ·have Y:(c != 0)=true:=(by simpa using D);have G:=qH (show ¬AU x y=0 by rw[s];exact D);replace s:=qH s;clear D;go_wp2;go_quiet ((go_at_call 177;exact LB (B.out _)))
      go_wp2;go_ret;exact⟨AM (by rw[<-v.out,GP G.out,s.out]),(by first|exact H.out _|exact wH (H.out _) _|exact wH (wH (H.out _) _) _)⟩
    ·obtain rfl:k=5:=(by omega);go_wp2;go_ret;exact⟨AM v.out,(by first|exact H.out _|exact wH (H.out _) _|exact wH (wH (H.out _) _) _)⟩
  ·have C:=qH (show AU n m=E by rw[<-r,GP (fun h=>t (KM.1 h))]);have S:(n != m)=true:=(by simpa using t);replace q:=qH q;clear r t K J;go_enter Tryz.func269, Tryz.ntmps269
   go_wp2_with (go_at_call 177;refine(MW _ _ _).mono ?_;rintro e Z ⟨rfl,rfl⟩)
   go_ret;exact⟨AM C.out,by rw[<-q.out];exact F⟩
theorem pZ (n h i j o p m g0 g b c f:Int) (w:World):Calls Tryz.prog 266 #[.agg #[.int .i64 n,.int .i64 h,.int .i64 i,.int .i64 j,.int .i64 o,.int .i64 p],.agg #[.int .i64 m,.int .i64 g0,.int .i64 g,.int .i64 b,.int .i64 c,.int .i64 f]] w fun e w'=>e = .returned (.int .i64 (AH [n,h,i,j,o,p] [m,g0,g,b,c,f]))/\Below w.heap.size w w':=by
 obtain⟨K,W⟩:=AF ((w.alloc (.cells #[.int .i64 n,.int .i64 h,.int .i64 i,.int .i64 j,.int .i64 o,.int .i64 p] 146)).alloc (.cells #[.int .i64 m,.int .i64 g0,.int .i64 g,.int .i64 b,.int .i64 c,.int .i64 f] 146));obtain⟨v,B,G⟩:=eB W;obtain⟨E,q⟩:=AB (AH [n,h,i,j,o,p] [m,g0,g,b,c,f]);rw[q];replace W:=qH W;by_cases l:n < m
 ·have r:=qH (show E = -1 by rw[<-q,GP (by rw[MV l];decide),MV l]);have C:decide (n < m)=true:=vZ l;clear q B G;go_enter Tryz.func266, Tryz.ntmps266
  go_wp2;go_ret;exact⟨AM r.out.symm,by rw[<-W.out];exact v⟩
 ·have C:decide (n < m)=false:=vY l;by_cases a:m < n
  ·have r:=qH (show E=1 by rw[<-q,GP (by rw[MU a];decide),MU a]);have D:decide (m < n)=true:=vZ a;clear q B G;go_enter Tryz.func266, Tryz.ntmps266
   go_wp2;go_ret;exact⟨AM r.out.symm,by rw[<-W.out];exact v⟩
  ·have D:decide (m < n)=false:=vY a;have r:=qH (show AH [h,i,j,o,p] [g0,g,b,c,f]=E by rw[<-q];exact(JA (KM.2 (show n=m by omega))).symm);clear q l a;go_enter Tryz.func266, Tryz.ntmps266
   go_wp2;rw[<-W.out];go_loopw [5] (fun A wr=>∃k F:Nat,wr=K.drewN F/\A = .int .i64 (k:Int)/\k<=5/\Hid (AH ([h,i,j,o,p].drop k) ([g0,g,b,c,f].drop k)=E)) (fun A _=>5 - (intOf A).toNat)
   case atStart=>exact⟨0,0,(by first|rfl|simp),rfl,by omega,r⟩
   case round=>
    clear r;obtain⟨k,F,rfl,rfl,N,s⟩:=hrel;have H:=qH (fun d=>wH v d);by_cases u:k < 5
    ·have P:(k:Int) < 5:=(by omega);have O:(0:Int)<=(k:Int):=Int.natCast_nonneg _;have M:=PP B u;have L:=PP G u;have t:=s.out;rw[NA h i j o p u,NA g0 g b c f u] at t;obtain⟨x,I⟩:=AB ([h,i,j,o,p].getD k 0);obtain⟨y,J⟩:=AB ([g0,g,b,c,f].getD k 0);rw[I] at M t;rw[J] at L t;replace s:=qH t;clear t I J;by_cases l:x < y
     ·have C:decide (x < y)=true:=vZ l;have z:=qH (MV l);clear l;go_wp2;go_quiet (fail)
      go_wp2;go_ret;exact⟨AM (by rw[<-s.out,GP (by rw[z.out];decide),z.out]),(by first|exact H.out _|exact wH (H.out _) _|exact wH (wH (H.out _) _) _)⟩
     ·have C:decide (x < y)=false:=vY l;by_cases a:y < x
      ·have D:decide (y < x)=true:=vZ a;have z:=qH (MU a);clear l a;go_wp2;go_quiet (fail)
       go_wp2;go_quiet (fail)
       go_wp2;go_ret;exact⟨AM (by rw[<-s.out,GP (by rw[z.out];decide),z.out]),(by first|exact H.out _|exact wH (H.out _) _|exact wH (wH (H.out _) _) _)⟩
      ·have D:decide (y < x)=false:=vY a;have z:=qH (KM.2 (show x=y by omega));clear l a;go_wp2;go_quiet (fail)
       go_wp2;go_quiet (fail)
       go_wp2;go_roundw
       case rel=>exact⟨k+1,_,(by first|exact rfl|exact World.drewN_drewN _ _ _),by go_num,u,by show _=_;rw[<-s.out,JA z.out]⟩
       case measure=>simp[intOf];omega
    ·obtain rfl:k=5:=(by omega);go_wp2;go_ret;exact⟨AM s.out,(by first|exact H.out _|exact wH (H.out _) _|exact wH (wH (H.out _) _) _)⟩
theorem WP {n x:Int}(h:n < 1\/5 < n):GO n x=1:=by rw[GO,FA,if_pos h];rfl
theorem PS {n x:Int}(a:1<=n) (b:n<=5) (h:x < 0\/CD n<=x):GO n x=2:=by rw[GO,FA,if_neg (show ¬(n < 1\/5 < n) by omega),if_neg (by decide),if_pos h]
theorem WN {n x:Int}(a:1<=n) (b:n<=5) (h:0<=x/\x < CD n):GO n x=0:=by rw[GO,FA,if_neg (show ¬(n < 1\/5 < n) by omega),if_neg (by decide),if_neg (by omega)]
theorem tE (n x:Int) (w:World):Calls Tryz.prog 268 #[.int .i64 n,.int .i64 x] w fun e w'=>e = .returned (.int .i64 (GO n x))/\w=w':=by
 have H:=oL n w;by_cases a:n < 1\/5 < n
 ·rw[FA,if_pos a] at H;replace H:=qH H;have h:=qH (WP (x:=x) a);clear a;go_enter Tryz.func268, Tryz.ntmps268
  go_wp2_with (go_at_call 279;refine H.out.mono ?_;rintro e f ⟨rfl,rfl⟩)
  go_ret;exact⟨AM h.out.symm,rfl⟩
 ·rw[FA,if_neg a] at H;replace H:=qH H;have g:1<=n:=by omega
  have c:n<=5:=by omega
  clear a;by_cases d:x < 0
  ·have h:=qH (PS g c (.inl d));have i:decide (x < 0)=true:=vZ d;go_enter Tryz.func268, Tryz.ntmps268
   go_wp2_with (go_at_call 279;refine H.out.mono ?_;rintro e f ⟨rfl,rfl⟩)
   go_ret;exact⟨AM h.out.symm,rfl⟩
  ·have i:decide (x < 0)=false:=vY d;obtain⟨k,rfl⟩:∃k:Nat,n=(k:Int):=⟨n.toNat,by omega⟩
   have e:CD (k:Int)=2 ^ k/\(x / 2 ^ k != 0)=decide ((2:Int) ^ k<=x):=by
    rcases(show k=1\/k=2\/k=3\/k=4\/k=5 by omega) with rfl|rfl|rfl|rfl|rfl
    all_goals exact⟨by decide,by rw[Bool.eq_iff_iff];simp;omega⟩
   obtain⟨e,q⟩:=e;by_cases b:(2:Int) ^ k<=x
   case' pos=>
    rw[vZ b] at q;have h:=qH (PS g c (.inr (by rw[e];exact b)))
   case' neg=>
    rw[vY b] at q;have h:=qH (WN g c (show 0<=x/\x < CD (k:Int) by rw[e];omega))
   all_goals
    clear e b;go_enter Tryz.func268, Tryz.ntmps268
    go_wp2_with (go_at_call 279;refine H.out.mono ?_;rintro e f ⟨rfl,rfl⟩)
    go_ret;exact⟨AM h.out.symm,rfl⟩
theorem rC (n x:Int) (w:World):Calls Tryz.prog 265 #[.int .i64 n,.int .i64 x] w fun e w'=>e = .returned (.int .i64 (GO n x))/\w=w':=by
 have H:=qO n w;by_cases a:n < 1\/5 < n
 ·rw[FA,if_pos a] at H;replace H:=qH H;have h:=qH (WP (x:=x) a);clear a;go_enter Tryz.func265, Tryz.ntmps265
  go_wp2_with (go_at_call 277;refine H.out.mono ?_;rintro e f ⟨rfl,rfl⟩)
  go_ret;exact⟨AM h.out.symm,rfl⟩
 ·rw[FA,if_neg a] at H;replace H:=qH H;have b:1<=n:=by omega
  have g:n<=5:=by omega
  clear a;by_cases c:x < 0
  ·have h:=qH (PS b g (.inl c));have j:decide (x < 0)=true:=vZ c;go_enter Tryz.func265, Tryz.ntmps265
   go_wp2_with (go_at_call 277;refine H.out.mono ?_;rintro e f ⟨rfl,rfl⟩)
   go_ret;exact⟨AM h.out.symm,rfl⟩
  ·have j:decide (x < 0)=false:=vY c;obtain⟨t,d⟩:=AB (CD n);have p:=TZ n;rw[d] at p;by_cases i:t<=x
   ·have h:=qH (PS b g (.inr (show CD n<=x by omega)));have k:decide (t<=x)=true:=vZ i;replace p:=qH (fun W=>p W (by omega) g);clear d;go_enter Tryz.func265, Tryz.ntmps265
    go_wp2_with (first|(go_at_call 277;refine H.out.mono ?_;rintro e f ⟨rfl,rfl⟩)|(go_at_call 182;refine(p.out _).mono ?_;rintro e l ⟨rfl,rfl⟩))
    go_ret;exact⟨AM h.out.symm,rfl⟩
   ·have h:=qH (WN b g (show 0<=x/\x < CD n by omega));have k:decide (t<=x)=false:=vY i;replace p:=qH (fun W=>p W (by omega) g);clear d;go_enter Tryz.func265, Tryz.ntmps265
    go_wp2_with (first|(go_at_call 277;refine H.out.mono ?_;rintro e f ⟨rfl,rfl⟩)|(go_at_call 182;refine(p.out _).mono ?_;rintro e l ⟨rfl,rfl⟩))
    go_ret;exact⟨AM h.out.symm,rfl⟩
def EN (r:List Int):Int:=if DG (r.getD 0 0) ((r.drop 1).take 5) ≠ 0 then DG (r.getD 0 0) ((r.drop 1).take 5) else GO (r.getD 0 0) (r.getD 6 0)
theorem PR {n a b c d e f:Int}(h:DG n [a,b,c,d,e] ≠ 0):EN [n,a,b,c,d,e,f]=DG n [a,b,c,d,e]:=if_pos h
theorem WM {n a b c d e f:Int}(h:DG n [a,b,c,d,e]=0):EN [n,a,b,c,d,e,f]=GO n f:=if_neg (fun k=>k h)
theorem PO {w:World}{cs:Array Value}{t:TypeId}{j:Nat}{v:Value}(h:cs[j]? = some v):(w.alloc (.cells cs t)).cell? ⟨w.heap.size,j,none⟩=some v:=by
 rw[cell_of_row _ w.heap.size j cs t (0,0) (wE w _)];exact h
theorem sA (n h a b c d f:Int) (w:World):Calls Tryz.prog 245 #[.agg #[.int .i64 n,.int .i64 h,.int .i64 a,.int .i64 b,.int .i64 c,.int .i64 d,.int .i64 f]] w fun e w'=>e = .returned (.int .i64 (EN [n,h,a,b,c,d,f]))/\Below w.heap.size w w':=by
 have H:=fun W=>lB n h a b c d W;have j:Below w.heap.size w (w.alloc (.cells #[.int .i64 n,.int .i64 h,.int .i64 a,.int .i64 b,.int .i64 c,.int .i64 d,.int .i64 f] 148)):=(wB _ _).alloc (wC _) _;by_cases z:DG n [h,a,b,c,d]=0
 ·have i:=qH (WM (f:=f) z);simp only[z] at H;replace H:=qH H;clear z;go_enter Tryz.func245, Tryz.ntmps245
  go_wp2_with fail
  refine(H.out _).mono ?_;rintro e k ⟨rfl,g⟩;have m:k.cell? ⟨w.heap.size,0,none⟩=some (.int .i64 n):=AC g (PO rfl);have o:k.cell? ⟨w.heap.size,6,none⟩=some (.int .i64 f):=AC g (PO rfl);have s:k.heap[w.heap.size]? = some (.cells #[.int .i64 n,.int .i64 h,.int .i64 a,.int .i64 b,.int .i64 c,.int .i64 d,.int .i64 f] 148):=(g.block _ (by simp)).trans (wE w _);go_wp2_with fail
  refine(tE n f _).mono ?_;rintro e q ⟨rfl,rfl⟩;go_wp2;go_ret;exact⟨AM i.out.symm,bt j g j.size⟩
 ·have i:=qH (PR (f:=f) z);obtain⟨E,l⟩:=AB (DG n [h,a,b,c,d]);rw[l] at z i;simp only[l] at H;replace H:=qH H;have p:(E != 0)=true:=by simpa using z
  clear l z;go_enter Tryz.func245, Tryz.ntmps245
  go_wp2_with fail
  refine(H.out _).mono ?_;rintro e k ⟨rfl,g⟩;go_wp2;go_ret;exact⟨AM i.out.symm,bt j g j.size⟩
theorem qU (n h a b c d f:Int) (w:World):Calls Tryz.prog 241 #[.agg #[.int .i64 n,.int .i64 h,.int .i64 a,.int .i64 b,.int .i64 c,.int .i64 d,.int .i64 f]] w fun e w'=>e = .returned (.int .i64 (EN [n,h,a,b,c,d,f]))/\Below w.heap.size w w':=by
 have H:=fun W=>pY n h a b c d W;have j:Below w.heap.size w (w.alloc (.cells #[.int .i64 n,.int .i64 h,.int .i64 a,.int .i64 b,.int .i64 c,.int .i64 d,.int .i64 f] 148)):=(wB _ _).alloc (wC _) _;by_cases z:DG n [h,a,b,c,d]=0
 ·have i:=qH (WM (f:=f) z);simp only[z] at H;replace H:=qH H;clear z;go_enter Tryz.func241, Tryz.ntmps241
  go_wp2_with fail
  refine(H.out _).mono ?_;rintro e k ⟨rfl,g⟩;have m:k.cell? ⟨w.heap.size,0,none⟩=some (.int .i64 n):=AC g (PO rfl);have o:k.cell? ⟨w.heap.size,6,none⟩=some (.int .i64 f):=AC g (PO rfl);have s:k.heap[w.heap.size]? = some (.cells #[.int .i64 n,.int .i64 h,.int .i64 a,.int .i64 b,.int .i64 c,.int .i64 d,.int .i64 f] 148):=(g.block _ (by simp)).trans (wE w _);go_wp2_with fail
  refine(rC n f _).mono ?_;rintro e q ⟨rfl,rfl⟩;go_wp2;go_ret;exact⟨AM i.out.symm,bt j g j.size⟩
 ·have i:=qH (PR (f:=f) z);obtain⟨E,l⟩:=AB (DG n [h,a,b,c,d]);rw[l] at z i;simp only[l] at H;replace H:=qH H;have p:(E != 0)=true:=by simpa using z
  clear l z;go_enter Tryz.func241, Tryz.ntmps241
  go_wp2_with fail
  refine(H.out _).mono ?_;rintro e k ⟨rfl,g⟩;go_wp2;go_ret;exact⟨AM i.out.symm,bt j g j.size⟩
theorem SC {f g:Int}:∀ {x y:List Int},x.length=y.length->AH (x ++ [f]) (y ++ [g])=if AH x y=0 then AU f g else AH x y
 | [],[],_=>by
  show AH [f] [g]=if (0:Int)=0 then AU f g else 0
  rw[if_pos rfl,AH];by_cases h:AU f g=0
  ·rw[if_pos h,h];rfl
  ·rw[if_neg h]
 | a::x,b::y,h=>by
  rw[List.cons_append,List.cons_append,AH,AH];by_cases c:AU a b=0
  ·rw[if_pos c,if_pos c];exact SC (by simpa using h)
  ·rw[if_neg c,if_neg c,if_neg c]
theorem cmpL_zero:∀ {x y:List Int},AH x y=0↔x=y
 | [],[]=>by simp[AH]
 | [],b::y=>by simp[AH]
 | a::x,[]=>by simp[AH]
 | a::x,b::y=>by
  rw[AH];by_cases c:AU a b=0
  ·rw[if_pos c,cmpL_zero];have:=KM.1 c
   simp[this]
  ·rw[if_neg c];constructor
   ·intro h;exact absurd h c
   ·intro h;injection h with h1 h2;exact absurd (KM.2 h1) c
theorem WW {n e i j l o f m g0 a b c d g:Int}(h : [n,e,i,j,l,o] ≠ [m,g0,a,b,c,d]):AH [n,e,i,j,l,o,f] [m,g0,a,b,c,d,g]=AH [n,e,i,j,l,o] [m,g0,a,b,c,d]:=by
 have:=SC (f:=f) (g:=g) (x:=[n,e,i,j,l,o]) (y:=[m,g0,a,b,c,d]) rfl
 rw[if_neg (fun k=>h (cmpL_zero.1 k))] at this;exact this
theorem WY {n e i j k l f m g0 a b c d g:Int}(h : [n,e,i,j,k,l] = [m,g0,a,b,c,d]):AH [n,e,i,j,k,l,f] [m,g0,a,b,c,d,g]=AU f g:=by
 have:=SC (f:=f) (g:=g) (x:=[n,e,i,j,k,l]) (y:=[m,g0,a,b,c,d]) rfl
 rw[if_pos (cmpL_zero.2 h)] at this;exact this
theorem sB (n h i j k l f m g0 a b c d g:Int) (w:World):Calls Tryz.prog 246 #[.agg #[.int .i64 n,.int .i64 h,.int .i64 i,.int .i64 j,.int .i64 k,.int .i64 l,.int .i64 f],.agg #[.int .i64 m,.int .i64 g0,.int .i64 a,.int .i64 b,.int .i64 c,.int .i64 d,.int .i64 g]] w fun e w'=>e = .returned (.int .i64 (AH [n,h,i,j,k,l,f] [m,g0,a,b,c,d,g]))/\Below w.heap.size w w':=by
 have q:Below w.heap.size w ((w.alloc (.cells #[.int .i64 n,.int .i64 h,.int .i64 i,.int .i64 j,.int .i64 k,.int .i64 l,.int .i64 f] 148)).alloc (.cells #[.int .i64 m,.int .i64 g0,.int .i64 a,.int .i64 b,.int .i64 c,.int .i64 d,.int .i64 g] 148)):=((wB _ _).alloc (wC _) _).alloc (by simp) _;have H:=qH (fun W=>lC n h i j k l m g0 a b c d W);by_cases p : [n,h,i,j,k,l,f] = [m,g0,a,b,c,d,g]
 ·have E:=qH (show AH [n,h,i,j,k,l,f] [m,g0,a,b,c,d,g]=0 from cmpL_zero.2 p);have r:=qH (FN.2 p);clear p;go_enter Tryz.func246, Tryz.ntmps246
  have v:=r.out;go_wp2;go_ret;exact⟨AM E.out.symm,q⟩
 ·have r:=FL.2 p;clear p;by_cases o : [n,h,i,j,k,l] = [m,g0,a,b,c,d]
  ·have E:=qH (WY (f:=f) (g:=g) o);have s:=qH (FN.2 o);clear o;go_enter Tryz.func246, Tryz.ntmps246
   have x:=s.out;go_wp2_with fail
   refine(MW f g _).mono ?_;rintro e u ⟨rfl,rfl⟩;go_wp2;go_ret;exact⟨AM E.out.symm,q⟩
  ·have E:=qH (WW (f:=f) (g:=g) o);have s:=FL.2 o;clear o;go_enter Tryz.func246, Tryz.ntmps246
   go_wp2_with fail
   refine(H.out _).mono ?_;rintro e u ⟨rfl,t⟩;go_wp2;go_ret;exact⟨AM E.out.symm,bt q t q.size⟩
theorem qV (n j l o p q f m g0 a b d i g:Int) (w:World):Calls Tryz.prog 242 #[.agg #[.int .i64 n,.int .i64 j,.int .i64 l,.int .i64 o,.int .i64 p,.int .i64 q,.int .i64 f],.agg #[.int .i64 m,.int .i64 g0,.int .i64 a,.int .i64 b,.int .i64 d,.int .i64 i,.int .i64 g]] w fun e w'=>e = .returned (.int .i64 (AH [n,j,l,o,p,q,f] [m,g0,a,b,d,i,g]))/\Below w.heap.size w w':=by
 have t:Below w.heap.size w ((w.alloc (.cells #[.int .i64 n,.int .i64 j,.int .i64 l,.int .i64 o,.int .i64 p,.int .i64 q,.int .i64 f] 148)).alloc (.cells #[.int .i64 m,.int .i64 g0,.int .i64 a,.int .i64 b,.int .i64 d,.int .i64 i,.int .i64 g] 148)):=((wB _ _).alloc (wC _) _).alloc (by simp) _;have H:=fun W=>pZ n j l o p q m g0 a b d i W;have v:((w.alloc (.cells #[.int .i64 n,.int .i64 j,.int .i64 l,.int .i64 o,.int .i64 p,.int .i64 q,.int .i64 f] 148)).alloc (.cells #[.int .i64 m,.int .i64 g0,.int .i64 a,.int .i64 b,.int .i64 d,.int .i64 i,.int .i64 g] 148)).heap[w.heap.size]? = some (.cells #[.int .i64 n,.int .i64 j,.int .i64 l,.int .i64 o,.int .i64 p,.int .i64 q,.int .i64 f] 148):=(Below.heap_alloc _ _ _ (by simp)).trans (wE w _);have x:((w.alloc (.cells #[.int .i64 n,.int .i64 j,.int .i64 l,.int .i64 o,.int .i64 p,.int .i64 q,.int .i64 f] 148)).alloc (.cells #[.int .i64 m,.int .i64 g0,.int .i64 a,.int .i64 b,.int .i64 d,.int .i64 i,.int .i64 g] 148)).heap[w.heap.size+1]? = some (.cells #[.int .i64 m,.int .i64 g0,.int .i64 a,.int .i64 b,.int .i64 d,.int .i64 i,.int .i64 g] 148):=by have:=wE (w.alloc (.cells #[.int .i64 n,.int .i64 j,.int .i64 l,.int .i64 o,.int .i64 p,.int .i64 q,.int .i64 f] 148)) (.cells #[.int .i64 m,.int .i64 g0,.int .i64 a,.int .i64 b,.int .i64 d,.int .i64 i,.int .i64 g] 148);rwa [World.size_alloc] at this
 by_cases u : [n,j,l,o,p,q] = [m,g0,a,b,d,i]
 ·have E:=qH (WY (f:=f) (g:=g) u);simp only[cmpL_zero.2 u] at H;replace H:=qH H;clear u;replace v:=qH v;replace x:=qH x;by_cases y:f < g
  ·have G:decide (f < g)=true:=vZ y;have r:=qH (MV y);clear y;go_enter Tryz.func242, Tryz.ntmps242
   go_wp2_with fail
   refine(H.out _).mono ?_;rintro e s ⟨rfl,h⟩;have z:=(h.block _ (by simp;omega)).trans v.out;have A:=(h.block _ (by simp)).trans x.out;have C:s.cell? ⟨w.heap.size,6,none⟩=some (.int .i64 f):=(by rw[cell_of_row _ _ 6 _ _ _ z];rfl);have D:s.cell? ⟨w.heap.size+1,6,none⟩=some (.int .i64 g):=(by rw[cell_of_row _ _ 6 _ _ _ A];rfl);go_wp2;go_ret;exact⟨AM (by rw[E.out,r.out]),bt t h t.size⟩
  ·have G:decide (f < g)=false:=vY y;by_cases B:g < f
   ·have I:decide (g < f)=true:=vZ B;have r:=qH (MU B);clear y B;go_enter Tryz.func242, Tryz.ntmps242
    go_wp2_with fail
    refine(H.out _).mono ?_;rintro e s ⟨rfl,h⟩;have z:=(h.block _ (by simp;omega)).trans v.out;have A:=(h.block _ (by simp)).trans x.out;have C:s.cell? ⟨w.heap.size,6,none⟩=some (.int .i64 f):=(by rw[cell_of_row _ _ 6 _ _ _ z];rfl);have D:s.cell? ⟨w.heap.size+1,6,none⟩=some (.int .i64 g):=(by rw[cell_of_row _ _ 6 _ _ _ A];rfl);go_wp2;go_ret;exact⟨AM (by rw[E.out,r.out]),bt t h t.size⟩
   ·have I:decide (g < f)=false:=vY B;have r:=qH (KM.2 (show f=g by omega));clear y B;go_enter Tryz.func242, Tryz.ntmps242
    go_wp2_with fail
    refine(H.out _).mono ?_;rintro e s ⟨rfl,h⟩;have z:=(h.block _ (by simp;omega)).trans v.out;have A:=(h.block _ (by simp)).trans x.out;have C:s.cell? ⟨w.heap.size,6,none⟩=some (.int .i64 f):=(by rw[cell_of_row _ _ 6 _ _ _ z];rfl);have D:s.cell? ⟨w.heap.size+1,6,none⟩=some (.int .i64 g):=(by rw[cell_of_row _ _ 6 _ _ _ A];rfl);go_wp2;go_ret;exact⟨AM (by rw[E.out,r.out]),bt t h t.size⟩
 ·have E:=qH (WW (f:=f) (g:=g) u);obtain⟨c,r⟩:=AB (AH [n,j,l,o,p,q] [m,g0,a,b,d,i]);rw[r] at E;have F:c ≠ 0:=fun k=>u (cmpL_zero.1 (by rw[r];exact k));simp only[r] at H;replace H:=qH H;have J:(c != 0)=true:=by simpa using F
  clear u r F v x;go_enter Tryz.func242, Tryz.ntmps242
  go_wp2_with fail
  refine(H.out _).mono ?_;rintro e s ⟨rfl,h⟩;go_wp2;go_ret;exact⟨AM E.out.symm,bt t h t.size⟩
def EK (a b:Int):Bool:=[0,1,2,3,4].all fun p=>!AY a p || AY b p
def GU (a b:Int):List Int->Bool
 | []=>true
 | p::r=>if AY a p && !AY b p then false else GU a b r
theorem lY (a b:Int):GU a b [0,1,2,3,4]=EK a b:=by
 simp only[GU,EK,List.all_cons,List.all_nil];cases AY a 0<;>cases AY b 0<;>cases AY a 1<;>cases AY b 1<;>cases AY a 2<;>cases AY b 2<;>cases AY a 3<;>cases AY b 3<;>cases AY a 4<;>cases AY b 4<;>rfl
theorem lX {a b p:Int}{r:List Int}(h:AY a p=true) (c:AY b p=false):GU a b (p::r)=false:=by rw[GU,h,c];rfl
theorem lV {a b p:Int}{r:List Int}(h:AY a p=false):GU a b (p::r)=GU a b r:=by rw[GU,h];rfl
theorem lW {a b p:Int}{r:List Int}(h:AY b p=true):GU a b (p::r)=GU a b r:=by rw[GU,h];cases AY a p<;>rfl
theorem iU {k:Nat}(h:k < 5):([0,1,2,3,4]:List Int).drop k=(k:Int)::[0,1,2,3,4].drop (k+1):=by
 rcases(show k=0\/k=1\/k=2\/k=3\/k=4 by omega) with rfl|rfl|rfl|rfl|rfl<;>rfl
theorem qF (a b:Int) (w:World) (m:0<=a) (n:a<=1000000) (o:0<=b) (p:b<=1000000):Calls Tryz.prog 243 #[.int .i64 a,.int .i64 b] w fun e w'=>e = .returned (.bool (EK a b))/\w=w':=by
 obtain⟨E,g⟩:=AB (EK a b);have j:=qH (show GU a b [0,1,2,3,4]=E by rw[lY,g]);rw[g];clear g;go_enter Tryz.func243, Tryz.ntmps243
 go_wp2;go_loop [5] (fun v=>∃k:Nat,v = .int .i64 (k:Int)/\k<=5/\Hid (GU a b ([0,1,2,3,4].drop k)=E)) (fun v=>5 - (intOf v).toNat)
 case atStart=>exact⟨0,rfl,by omega,j⟩
 case round=>
  clear j;obtain⟨k,rfl,r,h⟩:=hrel;by_cases l:k < 5
  ·have t:(k:Int) < 5:=(by omega);have s:(0:Int)<=(k:Int):=Int.natCast_nonneg _;have i:=h.out;rw[iU l] at i;replace h:=qH i;clear i;have H:=fun W=>MC a k W m n (by omega) (by omega);have c:=fun W=>MC b k W o p (by omega) (by omega);cases q:AY a k with
   | true=>
    simp only[q] at H;cases d:AY b k with
    | true=>
     simp only[d] at c;replace H:=qH H;replace c:=qH c;replace q:=qH q;replace d:=qH d;go_wp2_with fail
     refine(H.out _).mono ?_;rintro e f ⟨rfl,rfl⟩;go_wp2_with fail
     refine(c.out _).mono ?_;rintro e f ⟨rfl,rfl⟩;go_wp2;go_round
     case rel=>exact⟨k+1,by go_num,l,by show _=_;rw[<-h.out,lW d.out]⟩
     case measure=>simp[intOf];omega
    | false=>
     simp only[d] at c;replace H:=qH H;replace c:=qH c;replace q:=qH q;replace d:=qH d;go_wp2_with fail
     refine(H.out _).mono ?_;rintro e f ⟨rfl,rfl⟩;go_wp2_with fail
     refine(c.out _).mono ?_;rintro e f ⟨rfl,rfl⟩;go_wp2;go_ret;exact⟨LC (by rw[<-h.out,lX q.out d.out]),rfl⟩
   | false=>
    simp only[q] at H;replace H:=qH H;replace q:=qH q;clear c;go_wp2_with fail
    refine(H.out _).mono ?_;rintro e f ⟨rfl,rfl⟩;go_wp2;go_round
    case rel=>exact⟨k+1,by go_num,l,by show _=_;rw[<-h.out,lV q.out]⟩
    case measure=>simp[intOf];omega
  ·obtain rfl:k=5:=(by omega);go_wp2;go_ret;exact⟨LC (by rw[<-h.out];rfl),rfl⟩
def CA (ss:Jc):Nat:=(ss.map List.length).foldr (· + ·) 0
def JH (ss:Jc) (k:Nat):Nat:=CA (ss.take k)
theorem QJ (a b:Jc):CA (a++b)=CA a+CA b:=by
 unfold CA;induction a with
 | nil=>simp
 | cons x a i=>simp only[List.cons_append,List.map_cons,List.foldr_cons,i];omega
theorem nI {ss:Jc}{k:Nat}(h:k < ss.length):JH ss (k+1)=JH ss k+(ss.getD k []).length:=by
 rw[JH,BY h [],QJ];simp[JH,CA]
theorem nH (ss:Jc) (k:Nat):JH ss k<=CA ss:=by
 have:=QJ (ss.take k) (ss.drop k)
 rw[List.take_append_drop] at this;rw[JH];omega
theorem nG (ss:Jc):JH ss ss.length=CA ss:=by rw[JH,List.take_length]
theorem aC:∀(ss:Jc) (B:Nat),(∀s∈ss,s.length<=B)->CA ss<=ss.length * B
 | [],B,_=>by simp[CA]
 | s::ss,B,h=>by
  have b:=h s (by simp);have c:=aC ss B fun s a=>h s (by simp[a]);have e:CA (s::ss)=s.length+CA ss:=rfl;rw[e,List.length_cons,Nat.add_mul];omega
def DC (w:World) (v:Value) (n:Int) (ss:Jc):Prop:=∃s,v = .agg #[.int .i64 n,s]/\BT 8 w s ss
theorem DC.keep {w w':World}{v:Value}{n:Int}{ss:Jc}(h:DC w v n ss) (c:Below w.heap.size w w'):DC w' v n ss:=by
 obtain⟨s,a,b⟩:=h;exact⟨s,a,b.keep c⟩
theorem cJ {w:World}{v:Value}{n:Int}{ss:Jc}(h:DC w v n ss) (l:ss.length<=256):Calls Tryz.prog 167 #[v] w fun e w'=>e = .returned (.int .i64 (CA ss))/\Below w.heap.size w w':=by
 obtain⟨J,rfl,a,c,b,I,rfl,f,g,_⟩:=h;have r:=(wB w.heap.size w).alloc (wC _) (.cells #[.int .i64 n,.slice a ss.length c] 27);have i:=g.keep r
 have B:∀s∈ss,s.length<=2199023255552:=fun s d=>by
  obtain⟨j,t,rfl⟩:=List.mem_iff_getElem.1 d;obtain⟨u,_,_,_,_,_,_,_,_,l⟩:=g j t;rwa [AK t] at l
 have M:=aC ss _ B;have G:ss.length * 2199023255552<=256 * 2199023255552:=Nat.mul_le_mul_right _ l;have P:=nH ss;have A:=qH (nG ss);clear B g;go_enter Tryz.func167, Tryz.ntmps167
 go_wp2;go_loop [3,4] (fun D q=>∃k:Nat,k<=ss.length/\q = .int .i64 k/\D = .int .i64 (JH ss k)) (fun _ q=>ss.length - (intOf q).toNat)
 case atStart=>exact⟨0,by omega,rfl,rfl⟩
 case round=>
  obtain⟨k,H,rfl,rfl⟩:=hrel;have E:=P k;by_cases x:k < ss.length
  ·obtain rfl:=f (by omega);obtain⟨u,C,z⟩:=i k x;obtain⟨K,L,rfl⟩:=z.shape;have d:=nI x;have F:=P (k+1);obtain⟨p,o⟩:=AB (JH ss k);obtain⟨m,y⟩:=AB ((ss.getD k []).length);rw[o] at E d;rw[y] at d C;rw[d] at F;rw[o];replace d:=qH d;clear o y P f i z;go_wp2;go_round
   case rel=>exact⟨k+1,by omega,by go_num,by rw[d.out];go_num⟩
   case measure=>simp[intOf];omega
  ·obtain rfl:k=ss.length:=(by omega);clear f i P;go_wp2;go_ret;exact⟨AM (by rw[A.out]),r⟩
end Go.Proofs.YtcnedkkcgdkioaaGreat
