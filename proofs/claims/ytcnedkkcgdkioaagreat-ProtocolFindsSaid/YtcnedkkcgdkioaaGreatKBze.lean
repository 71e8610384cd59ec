/- Texts of this claim, put together: PI PG PJ PK. -/
import Derived.Test.YtcnedkkcgdkioaaGreatKBzd

set_option maxRecDepth 100000
set_option maxHeartbeats 12800000
namespace Go.Proofs.YtcnedkkcgdkioaaGreat
open Go.RowKit
theorem uD : Tryz.prog.underlying 3=some (.int .i64):=by kernel_rfl
theorem lD {w:World}(n:Nat) (d:0 < n) (p:n<=1000000) :
  Calls Tryz.prog 202 #[.slice none 0 0,.int .i64 (n:Int)] w fun e w'=>∃v',e = .returned v'/\w'.ownsRow w.heap.size 83 2 v' 0 []/\Below w.heap.size w w':=by
 obtain⟨k,i,z,f,j⟩:=info_parts EE.2.1;have r:=fun t=>Lib.run_append_nil_zeros (P:=Tryz.prog) w 38 3 t 83 k _ .i64 .i64 EE.1 uD i z n d (by rw[f];decide) (by omega) (by rw[j];omega);have g:=grownCap_ge w n 0 83;have m:grownCap w n 0 83<=maxLen:=grownCap_le_maxLen w n 0 83 (by unfold maxLen;omega);obtain⟨c,a⟩:=AB (grownCap w n 0 83);rw[a] at g m;simp only[a] at r;obtain⟨W,h⟩:=AF (w.drew.alloc (.cells (Builtin.zeroCells (Value.agg #[.int .i64 0,.int .i64 0]).cells n++Builtin.zeroCells (Value.agg #[.int .i64 0,.int .i64 0]).cells (c - n)) 83));have b:Below w.heap.size w W:=by rw[h];exact(wB _ w).drew.alloc (wC _) _
 have o:W.ownsRow w.heap.size 83 2 (.slice (some ⟨w.heap.size,0,none⟩) 0 c) 0 []:=by
  refine⟨rfl,.inr ⟨w.heap.size,c,_,rfl,wC _,by rw[h];exact wE w.drew _,Nat.zero_le _,m,?_,by simp⟩⟩;simp only[Array.size_append,size_zeroCells,EE.2.2];omega
 simp only[<-h] at r;unfold maxLen at m;have l:(c:Int)<=9223372036854775807:=by omega
 have u:(n:Int)<=(c:Int):=by omega
 have q:decide ((n:Int) < 0)=false:=vY (by omega);have s:decide (0 < (n:Int))=true:=vZ (by omega);replace o:=qH o;replace b:=qH b;clear h a i;go_enter Tryz.func202, Tryz.ntmps202
 go_wp2_with (at_builtin;refine wpList_plain rfl fun _ K=>Lib.wp_append_run w _ _ 38 3 rfl (.slice none 0 0) (.int .i64 (n:Int)) rfl rfl _ W (r _) (K _ _ ?_))
 go_wp2;go_ret;exact⟨_,rfl,o.out,b.out⟩
theorem lE {w:World}(n:Nat) (d:n<=1000000) :
  Calls Tryz.prog 202 #[.slice none 0 0,.int .i64 (n:Int)] w fun e w'=>∃v',e = .returned v'/\AA 83 2 EI w' w.heap.size v' 0 []/\Below w.heap.size w w':=by
 rcases Nat.eq_zero_or_pos n with h|h
 ·subst h;go_enter Tryz.func202, Tryz.ntmps202
  go_wp2;go_ret;exact⟨_,rfl,AA.nil _ _,wB _ _⟩
 ·refine(lD n h d).mono ?_;rintro e w' ⟨v',rfl,a,b⟩;exact⟨v',rfl,⟨[],a,rfl,(fun u f=>by cases f),(fun j x c=>by simp at c)⟩,b⟩
theorem iJ {w:World}{v:Value}{ss:Jc}(L:BT 2 w v ss) (hn:ss.length<=1000) (n:∀s∈ss,0 < s.length/\s.length<=8) :
  Calls Tryz.prog 152 #[v] w fun e w'=>∃u,e = .returned u/\AA 83 2 EI w' w.heap.size u ss.flatten.length ss.flatten/\Below w.heap.size w w':=by
 obtain⟨b2,b4,b3,c0,rfl,A,B,-⟩:=L;have C:=qH B
 have m:∀i,(ss.take i).flatten.length<=i * 8:=by
  intro i;induction i with
  | zero=>simp
  | succ i ih=>
   by_cases b:i < ss.length
   ·rw[BY b ([]:Jb),List.flatten_append,List.length_append];have:=(n (ss.getD i []) (by rw[AK b];exact wG b)).2
    simp only[List.flatten_cons,List.flatten_nil,List.append_nil];omega
   ·rw[List.take_of_length_le (by omega)];rw[List.take_of_length_le (by omega)] at ih;omega
 have I:Hid (∀i,i < ss.length->(ss.take (i+1)).flatten=(ss.take i).flatten++ss.getD i []):=fun i b=>by
  rw[BY b ([]:Jb),List.flatten_append];simp
 have x:=m ss.length;rw[List.take_length] at x;have m:=qH m;have D:=qH n;obtain⟨N,a⟩:=AB (ss.flatten.length);rw[a];have H:Hid (∀W:World,∃Q,Q=W):=fun W=>⟨W,rfl⟩;rw[a] at x;replace a:=qH a;have b5:N<=8000:=by omega
 clear B n H;go_enter Tryz.func152, Tryz.ntmps152
 go_wp2_with fail
 go_loop [3,11] (fun sv f=>∃i z:Nat,sv = .int .i64 z/\f = .int .i64 i/\i<=ss.length/\Hid (z=(ss.take i).flatten.length)) (fun _ f=>ss.length - (intOf f).toNat)
 case atStart=>exact⟨0,0,rfl,rfl,by omega,rfl⟩
 case round=>
  obtain⟨i,z,rfl,rfl,b,g⟩:=hrel;by_cases l:i < ss.length
  ·have U:(i:Int) < (ss.length:Int):=(by omega);obtain rfl:=A (by omega);obtain⟨u,p,k⟩:=C.out i l;have j:=m.out i;rw[<-g.out] at j;have X:=(D.out (ss.getD i []) (by rw[AK l];exact wG l)).2
   have J:Hid (z+(ss.getD i []).length=(ss.take (i+1)).flatten.length):=by
    show _=_;rw[I.out i l,List.length_append,<-g.out]
   obtain⟨s,d⟩:=AB (ss.getD i []);rw[d] at k X J;obtain⟨ua,K,rfl⟩:=k.shape;have b8:IntKind.i64.wrap ((z:Int)+(s.length:Int))=((z+s.length:Nat):Int):=(by rw[IntWalk.i64_in _ (by omega)];omega);have hd:decide (((z+s.length:Nat):Int) < 0)=false:=vY (by omega);replace d:=qH d;clear k g;go_wp2;go_round
   case rel=>exact⟨i+1,z+s.length,by first|rfl|go_num,by go_num,by omega,J⟩
   case measure=>simp[intOf];omega
  ·obtain rfl:i=ss.length:=(by omega);have a0:z=N:=(by rw[g.out,List.take_length];exact a.out);subst a0;have H:=qH (lE (w:=w) z (by omega));clear g;go_wp2_with fail
   refine H.out.mono ?_;rintro e w1 ⟨v1,rfl,E,O⟩;have q:Hid (AA 83 2 EI w1 w.heap.size v1 (ss.take 0).flatten.length (ss.take 0).flatten):=E;clear E;go_wp2_with fail
   go_loopw [6,27] (fun vv f wr=>∃i:Nat,f = .int .i64 i/\i<=ss.length/\Hid (AA 83 2 EI wr w.heap.size vv (ss.take i).flatten.length (ss.take i).flatten)/\Below w.heap.size w wr) (fun _ f _=>ss.length - (intOf f).toNat)
   case atStart=>exact⟨0,rfl,by omega,q,O⟩
   case round=>
    clear q;obtain⟨i,rfl,b,o,r⟩:=hrel;obtain⟨oa,oc,Z⟩:=o.out.shape;subst Z;by_cases l:i < ss.length
    ·have U:(i:Int) < (ss.length:Int):=(by omega);obtain rfl:=A (by omega);obtain⟨u,p,k⟩:=C.out i l;replace p:=AC r p;have G:=D.out (ss.getD i []) (by rw[AK l];exact wG l);have j:=m.out i;have t:=I.out i l;obtain⟨s,d⟩:=AB (ss.getD i []);rw[d] at k G t;obtain⟨ua,K,ub,uo,T,a1,-⟩:=id k;subst T;obtain rfl:=a1 G.1;have V:=k.keep r;have S:=r.size;obtain⟨P,y⟩:=AB ((ss.take i).flatten);rw[y] at j t o|-;have M:P.length+s.length<=1000000:=(by omega);have F:=o.out;have a2:(some (⟨ub,uo,none⟩:Addr))=none->K=0:=fun h=>by cases h
     replace t:=qH t;replace d:=qH d;clear k y o;go_wp2_with (at_builtin;refine vH (ys:=s) EE (by decide) (by decide) rfl _ _ rfl rfl F rfl rfl V a2 M S ?_)
     intro v' w2 c _ R _
     have Y:Hid (AA 83 2 EI w2 w.heap.size v' (ss.take (i+1)).flatten.length (ss.take (i+1)).flatten):=by
      show AA _ _ _ _ _ _ _ _;rw[t.out,List.length_append];exact c
     clear c F;go_wp2_with fail
     go_roundw
     case rel=>exact⟨i+1,by go_num,by omega,Y,r.trans R⟩
     case measure=>simp[intOf];omega
    ·obtain rfl:i=ss.length:=(by omega);rw[List.take_length] at o;have c:=o.out;rw[a.out] at c;rw[List.take_length,a.out];have c:=qH c;clear o;go_wp2;go_ret;exact⟨_,rfl,c.out,r⟩
theorem eA (w:World) (a b c d:Int) (t:TypeId):∃W,W=(w.alloc (.cells #[.int .i64 a,.int .i64 b] t)).alloc (.cells #[.int .i64 c,.int .i64 d] t)/\Below w.heap.size w W/\W.heap[w.heap.size]? = some (.cells #[.int .i64 a,.int .i64 b] t)/\W.heap[w.heap.size+1]? = some (.cells #[.int .i64 c,.int .i64 d] t):=by
 refine⟨_,rfl,((wB _ w).alloc (wC _) _).alloc (by simp) _,(Below.heap_alloc _ _ _ (by simp)).trans (wE w _),?_⟩;have:=wE (w.alloc (.cells #[.int .i64 a,.int .i64 b] t)) (.cells #[.int .i64 c,.int .i64 d] t)
 rwa [World.size_alloc] at this
theorem UJ (a b c d:Int) (w:World):Calls Tryz.prog 117 #[.agg #[.int .i64 a,.int .i64 b],.agg #[.int .i64 c,.int .i64 d]] w fun e w'=>e = .returned (.int .i64 (AH [a,b] [c,d]))/\Below w.heap.size w w':=by
 obtain⟨o,W,g,A,B⟩:=eA w a b c d 83;obtain⟨z,n⟩:=BA A;obtain⟨y,m⟩:=BA B;rw[W] at z n y m;clear A B;rw[XC];rcases Int.lt_trichotomy a c with h|h|h
 ·have j:=vZ h;have f:(if AU a c=0 then AU b d else AU a c) = -1:=by unfold AU;rw[if_pos h];rfl
  rw[f];clear h f;go_enter Tryz.func117, Tryz.ntmps117
  go_wp2;go_ret;rw[<-W];exact⟨rfl,g⟩
 ·subst h;have j:=vY (Int.lt_irrefl a);have i:AU a a=0:=by unfold AU;rw[if_neg (Int.lt_irrefl a),if_neg (Int.lt_irrefl a)]
  rw[if_pos i];rcases Int.lt_trichotomy b d with h|h|h
  ·have k:=vZ h;have f:AU b d = -1:=(by unfold AU;rw[if_pos h]);rw[f];clear h f i;go_enter Tryz.func117, Tryz.ntmps117
   go_wp2;go_ret;rw[<-W];exact⟨rfl,g⟩
  ·subst h;have k:=vY (Int.lt_irrefl b);have f:AU b b=0:=(by unfold AU;rw[if_neg (Int.lt_irrefl b),if_neg (Int.lt_irrefl b)]);rw[f];clear f i;go_enter Tryz.func117, Tryz.ntmps117
   go_wp2;go_ret;rw[<-W];exact⟨rfl,g⟩
  ·have k:=vY (show ¬b < d by omega);have l:=vZ h;have f:AU b d=1:=(by unfold AU;rw[if_neg (show ¬b < d by omega),if_pos h]);rw[f];clear h f i;go_enter Tryz.func117, Tryz.ntmps117
   go_wp2;go_ret;rw[<-W];exact⟨rfl,g⟩
 ·have j:=vY (show ¬a < c by omega);have l:=vZ h;have f:(if AU a c=0 then AU b d else AU a c)=1:=by unfold AU;rw[if_neg (show ¬a < c by omega),if_pos h];rfl
  rw[f];clear h f;go_enter Tryz.func117, Tryz.ntmps117
  go_wp2;go_ret;rw[<-W];exact⟨rfl,g⟩
theorem qT (a b:Int) (w:World):Calls Tryz.prog 116 #[.agg #[.int .i64 a,.int .i64 b]] w fun e w'=>e = .returned (.bool (EZ [a,b]))/\Below w.heap.size w w':=by
 rw[TX];obtain⟨k,W⟩:=AF (w.alloc (.cells #[.int .i64 a,.int .i64 b] 83));have i:Below w.heap.size w k:=by rw[W];exact(wB _ w).alloc (wC _) _
 have A:k.heap[w.heap.size]? = some (.cells #[.int .i64 a,.int .i64 b] 83):=by rw[W];exact wE _ _
 obtain⟨z,m⟩:=BA A;rw[W] at z m;clear A;by_cases h:0<=a
 ·by_cases d:a < 8
  ·by_cases g:0<=b
   ·have c:=vZ h;have f:=vZ d;have j:=vZ g;obtain⟨B,l⟩:=AB (decide (b<=1048576));rw[c,f,j,l];clear h d g;go_enter Tryz.func116, Tryz.ntmps116
    go_wp2;go_ret;rw[<-W];exact⟨by simp,i⟩
   ·have c:=vZ h;have f:=vZ d;have j:=vY g;rw[c,f,j];clear h d g;go_enter Tryz.func116, Tryz.ntmps116
    go_wp2;go_ret;rw[<-W];exact⟨rfl,i⟩
  ·have c:=vZ h;have f:=vY d;rw[c,f];clear h d;go_enter Tryz.func116, Tryz.ntmps116
   go_wp2;go_ret;rw[<-W];exact⟨rfl,i⟩
 ·have c:=vY h;rw[c];clear h;go_enter Tryz.func116, Tryz.ntmps116
  go_wp2;go_ret;rw[<-W];exact⟨rfl,i⟩
theorem RE {α:Type}{p:α->Bool}{l:List α}{i:Nat}{d:α}(h:i < l.length):(l.take (i+1)).any p=((l.take i).any p || p (l.getD i d)):=by
 rw[BY h d,List.any_append];simp
theorem uA {α:Type}{p:α->Bool}{l:List α}{i:Nat}{d:α}(h:i < l.length):(l.take (i+1)).all p=((l.take i).all p && p (l.getD i d)):=by
 rw[BY h d,List.all_append];simp
theorem PM {α:Type}{p:α->Bool}{l:List α}{i:Nat}{d:α}(h:i < l.length) (a:p (l.getD i d)=true):l.any p=true:=by
 rw[List.any_eq_true];exact⟨l.getD i d,by rw[AK h];exact wG h,a⟩
theorem eX {α:Type}{p:α->Bool}{l:List α}{i:Nat}{d:α}(h:i < l.length) (a:p (l.getD i d)=false):l.all p=false:=by
 rw[List.all_eq_false];exact⟨l.getD i d,by rw[AK h];exact wG h,by rw[a];decide⟩
def HL (v x:List Int):Bool:=decide (x=v)
theorem cF {w:World}{u:Value}{s:Jb}{a b:Int}(h:KS 2 w u s) :
  Calls Tryz.prog 180 #[u,.agg #[.int .i64 a,.int .i64 b]] w fun e w'=>e = .returned (.bool (decide ([a,b]∈s)))/\Below w.heap.size w w':=by
 have E:decide ([a,b]∈s)=s.any (HL [a,b]):=by
  rw[Bool.eq_iff_iff,List.any_eq_true,decide_eq_true_eq];exact⟨fun h=>⟨_,h,vZ rfl⟩,fun⟨x,y,z⟩=>by rw[<-of_decide_eq_true z];exact y⟩
 rw[E];obtain⟨N,P,O,Q,rfl,D,r,M⟩:=h;obtain⟨k,W⟩:=AF (w.alloc (.cells #[.int .i64 a,.int .i64 b] 83));have m:Below w.heap.size w k:=by rw[W];exact(wB _ w).alloc (wC _) _
 have A:k.heap[w.heap.size]? = some (.cells #[.int .i64 a,.int .i64 b] 83):=by rw[W];exact wE _ _
 have H:=qH (BA A);have F:=qH (r.keep m);have o:Hid ((s.take 0).any (HL [a,b])=false):=rfl;clear r A E;go_enter Tryz.func180, Tryz.ntmps180
 go_wp2_with fail
 rw[<-W];replace W:=qH W;go_loopw [5] (fun v wr=>∃i:Nat,v = .int .i64 i/\i<=s.length/\Hid ((s.take i).any (HL [a,b])=false)/\Qt k wr) (fun v _=>s.length - (intOf v).toNat)
 case atStart=>exact⟨0,rfl,by omega,o,Qt.refl _⟩
 case round=>
  clear o;obtain⟨i,rfl,K,t,n,rfl⟩:=hrel;by_cases l:i < s.length
  ·obtain rfl:=D (by omega);have L:(i:Int) < (s.length:Int):=(by omega);obtain⟨g,j⟩:=F.out i l;obtain⟨x,f⟩:=AB (s.getD i []);rw[f] at g j;obtain⟨p,q,rfl⟩:=BZ g;obtain⟨I,J⟩:=j.all2;obtain⟨R,S⟩:=H.out;by_cases c : [p,q] = [a,b]
   ·have E:BI [p,q] [a,b]=true:=FN.2 c;have C:Hid (s.any (HL [a,b])=true):=PM l (by rw[f];exact vZ c);clear f t c j g;go_wp2;go_quiet (fail)
    go_wp2;go_ret;exact⟨by rw[C.out];rfl,btt m (wH (wH (wB _ _) _) _)⟩
   ·have E:BI [p,q] [a,b]=false:=FL.2 c
    have G:Hid ((s.take (i+1)).any (HL [a,b])=false):=by
     show _=_;rw[RE l (d:=[]),t.out,f];exact vY c
    clear f t c j g;go_wp2;go_quiet (fail)
    go_wp2;go_roundw
    case rel=>exact⟨i+1,by go_num,l,G,by first|exact(Qt.mk' _ n).step nq|exact Qt.mk' _ _⟩
    case measure=>simp[intOf];omega
  ·obtain rfl:i=s.length:=(by omega);have B:Hid (s.any (HL [a,b])=false):=(by have:=t.out;rw[List.take_length] at this;exact this);clear t;go_wp2;go_ret;exact⟨by rw[B.out];rfl,btt m (wH (wB _ _) _)⟩
def CN (b:Jb) (x:List Int):Bool:=decide (x∈b)
theorem dX (a b:Jb):CJ a b=a.all (CN b):=rfl
theorem cI {w:World}{u v:Value}{s t:Jb}(h:KS 2 w u s) (k:KS 2 w v t) :
  Calls Tryz.prog 118 #[u,v] w fun e w'=>e = .returned (.bool (CJ s t))/\Below w.heap.size w w':=by
 rw[dX];have G:=qH (fun W (K:Below w.heap.size w W) c q=>cF (a:=c) (b:=q) (k.keep K));obtain⟨P,Q,rfl⟩:=k.shape;obtain⟨R,T,S,U,rfl,J,F,O⟩:=h;have L:=qH F;have D:Hid ((s.take 0).all (CN t)=true):=rfl;clear F k;go_enter Tryz.func118, Tryz.ntmps118
 go_wp2_with fail
 go_loopw [5] (fun o wr=>∃i:Nat,o = .int .i64 i/\i<=s.length/\Hid ((s.take i).all (CN t)=true)/\Below w.heap.size w wr) (fun o _=>s.length - (intOf o).toNat)
 case atStart=>exact⟨0,rfl,by omega,D,wB _ _⟩
 case round=>
  clear D;obtain⟨i,rfl,M,j,r⟩:=hrel;by_cases l:i < s.length
  ·obtain rfl:=J (by omega);have N:(i:Int) < (s.length:Int):=(by omega);obtain⟨y,z⟩:=L.out i l;obtain⟨x,m⟩:=AB (s.getD i []);rw[m] at y z;obtain⟨c,q,rfl⟩:=BZ y;obtain⟨A,B⟩:=z.all2;replace A:=AC r A;replace B:=AC r B;obtain⟨C,f⟩:=AB (decide ([c,q]∈t));have H:=G.out wr r c q;rw[f] at H;have g:=uA (p:=CN t) l (d:=[]);rw[j.out,m,show CN t [c,q]=C from f] at g;have n:C=false->s.all (CN t)=false:=fun e=>eX l (by rw[m];exact f.trans e);replace H:=qH H;replace g:=qH g;replace n:=qH n;clear m j z y f;go_wp2_with fail
   refine H.out.mono ?_;rintro e V ⟨rfl,E⟩;cases C
   ·go_wp2_with fail
    go_ret;exact⟨by rw[n.out (by first|rfl|trivial)];rfl,btt r E⟩
   ·go_wp2_with fail
    go_roundw
    case rel=>exact⟨i+1,by go_num,l,g,btt r E⟩
    case measure=>simp[intOf];omega
  ·obtain rfl:i=s.length:=(by omega);have I:Hid (s.all (CN t)=true):=(by have:=j.out;rw[List.take_length] at this;exact this);clear j;go_wp2_with fail
   go_ret;exact⟨by rw[I.out];rfl,r⟩
theorem ZS {w:World}{b:Nat}{x y:Int}(h:w.heap[b]? = some (.cells #[.int .i64 x,.int .i64 y] 83)):KS 2 w (.slice (some ⟨b,0,none⟩) 1 1) [[x,y]]:=by
 refine⟨_,_,b,0,rfl,fun _=>rfl,fun j c=>?_,by simp⟩;have c:j < 1:=c;obtain rfl:j=0:=by omega
 obtain⟨z,d⟩:=BA h;refine⟨rfl,fun i a=>?_⟩;have a:i < 2:=a;have:i=0\/i=1:=by omega
 rcases this with rfl|rfl
 ·exact z
 ·exact d
theorem gV (a b c d:Int):BS [[a,b]] [[c,d]]=AH [a,b] [c,d]:=rfl
theorem uK (a b c d:Int) (w:World):Calls Tryz.prog 154 #[.agg #[.int .i64 a,.int .i64 b],.agg #[.int .i64 c,.int .i64 d]] w fun e w'=>e = .returned (.int .i64 (AH [a,b] [c,d]))/\Below w.heap.size w w'/\w.drawn<=w'.drawn:=by
 obtain⟨W,f,i,k,B⟩:=eA w a b c d 83;obtain⟨W2,h⟩:=AF ((W.alloc (.cells #[.int .i64 a,.int .i64 b] 83)).alloc (.cells #[.int .i64 c,.int .i64 d] 83));have l:Below W.heap.size W W2:=by rw[h];exact((wB _ W).alloc (wC _) _).alloc (by simp) _
 have s:W.heap.size=w.heap.size+2:=by rw[f];simp
 have C:W2.heap[W.heap.size]? = some (.cells #[.int .i64 a,.int .i64 b] 83):=by
  rw[h];exact(Below.heap_alloc _ _ _ (by simp)).trans (wE W _)
 have D:W2.heap[W.heap.size+1]? = some (.cells #[.int .i64 c,.int .i64 d] 83):=by
  rw[h];have:=wE (W.alloc (.cells #[.int .i64 a,.int .i64 b] 83)) (.cells #[.int .i64 c,.int .i64 d] 83)
  rwa [World.size_alloc] at this
 have n:Hid (w.drawn=W2.drawn):=by show _=_;rw[h,f];rfl
 have H:=qH (SJ (ZS C) (ZS D));rw[gV] at H;obtain⟨E,g⟩:=AB (AH [a,b] [c,d]);rw[g] at H|-;obtain⟨x,p⟩:=BA k;obtain⟨y,q⟩:=BA B;rw[s] at H;have j:=btt i l;rw[f] at x p y q h;clear g C D k B s;go_enter Tryz.func154, Tryz.ntmps154
 go_wp2_with fail
 rw[<-h];replace h:=qH h;replace f:=qH f;refine H.out.mono ?_;rintro e r ⟨rfl,m,o⟩;go_wp2;go_ret;exact⟨rfl,btt j m,by rw[n.out];exact o⟩
open Go.Shelf Go.Lib Go.Sort
def V2:Type:={ x:List Int // x.length=2 }
instance:Inhabited V2:=⟨⟨[0,0],rfl⟩⟩
def V2.enc (x:V2):List Value:=x.1.map (Value.int .i64)
def V2.cf (x y:V2):Int:=AH x.1 y.1
theorem V2.len (x:V2):x.enc.length=2:=by rw[V2.enc,List.length_map];exact x.2
theorem V2.one (x:V2):∀v∈x.enc,v.oneCell'=true:=fun v h=>by
 obtain⟨i,_,rfl⟩:=List.mem_map.1 h;rfl
theorem V2.swo:SWO (ltOf V2.cf) where
 irrefl _:=vY fun h=>KN _ _ h h
 trans _ _ _ h1 h2:=vZ (JV _ _ _ (of_decide_eq_true h1) (of_decide_eq_true h2))
 ntrans _ _ _ h1 h2:=vY (XB _ _ _ (of_decide_eq_false h1) (of_decide_eq_false h2))
theorem V2.lays (b o size:Nat) (w:World):CmpLays Tryz.prog 154 #[] V2.enc 2 V2.cf b o size w:=by
 rintro m s k _ ⟨x,a⟩ ⟨y,c⟩;obtain⟨f,g,rfl⟩:=BZ a;obtain⟨i,j,rfl⟩:=BZ c;exact(uK f g i j _).mono fun _ _ ⟨e,h,d⟩=>⟨e,YU h d⟩
theorem jX (d:Array V2) (j:Nat) (a:j < d.size):((flatK V2.enc 2 d).toList.drop (j * 2)).take 2=(d[j]!).1.map (Value.int .i64):=by
 have b:(d[j]!).1.length=2:=(d[j]!).2;apply List.ext_getElem?
 intro k;rw[List.getElem?_take];by_cases h:k < 2
 ·have e:j * 2+2<=d.size * 2:=by rw[<-Nat.succ_mul];exact Nat.mul_le_mul_right _ a
  rw[if_pos h,List.getElem?_drop,Array.getElem?_toList,Array.getElem?_eq_getElem (by rw[size_flatK];omega)];have:=get_flatK V2.enc 2 d (j * 2+k) (by omega)
  rw[getElem!_pos _ _ (by rw[size_flatK];omega)] at this;rw[this,show(j * 2+k) / 2=j by omega,show(j * 2+k) % 2=k by omega];have l:=V2.len d[j]!;rw[getElem!_pos _ k (by omega)];show some _=(V2.enc d[j]!)[k]?;rw[List.getElem?_eq_getElem (by omega)]
 ·rw[if_neg h,List.getElem?_eq_none (by simp;omega)]
def eT (w:World) (B:Nat) (v:Value) (n:Nat) (xs:Jb) (e:Ending) (w':World):Prop:=
 e = .returned (.tuple #[])/\∃y,y.Perm xs/\y.Pairwise (fun a b=>¬AH b a < 0)/\AA 83 2 EI w' B v n y/\Go.RowKit.Below B w w'/\AE 83 w w'
theorem tU {w:World}{B g n cap:Nat}{xs:Jb}(h:AA 83 2 EI w B (.slice (some ⟨g,0,none⟩) n cap) n xs) (hn:n<=1000000) :
  Calls Tryz.prog 153 #[.slice (some ⟨g,0,none⟩) n cap,.func (.func 154) #[] #[]] w (eT w B (.slice (some ⟨g,0,none⟩) n cap) n xs):=by
 have Z:=h.length;have q:∀j,j < n->(xs.getD j []).length=2:=fun j b=>(h.intCells b).1;have T:∀j,j < n->CI w g (j * 2) (xs.getD j []):=fun j b=>(h.intCells b).2;have V:∀j,w.frozen? ⟨g,j,none⟩=false:=fun j=>h.frozen j;obtain⟨ws,P,_⟩:=h;rcases P.2 with⟨O,_⟩|⟨g',a3,u,U,C,v,D,R,E,a6⟩
 ·cases O
 ·injection U with he1 he2 he3;injection he1 with he1;injection he1 with he1;subst he1 he3;let mk:Fin n->V2:=fun j=>⟨xs.getD j [],q j j.2⟩
  obtain⟨d,F⟩:=AF (Array.ofFn mk);have s:d.size=n:=by rw[F];simp
  have G:∀j (b:j < n),d[j]! = mk ⟨j,b⟩:=fun j b=>by rw[getElem!_pos d j (by omega)];simp[F]
  have Q:HoldsK V2.enc 2 w g 0 d:=by
   intro t c;rw[size_flatK,s] at c;have f:t / 2 < n:=(by rw[Nat.div_lt_iff_lt_mul (by decide)];exact c);have z:t % 2 < 2:=Nat.mod_lt _ (by decide);constructor
   ·rw[get_flatK _ _ _ _ (by rw[s];exact c),G _ f];have:=T (t / 2) f (t % 2) (by rw[q _ f];exact z)
    rw[show t / 2 * 2+t % 2=0+t by rw[Nat.mul_comm,Nat.div_add_mod,Nat.zero_add]] at this;rw[this];show some _=some (id ((xs.getD (t / 2) []).map (Value.int .i64))[t % 2]!);have l:=q _ f;rw[getElem!_pos _ _ (by rw[List.length_map,l];exact z),List.getElem_map,AK (by rw[l];exact z)];rfl
   ·rw[Nat.zero_add];exact V t
  have H:=(wD.1 v).1;have M:∀A w,(callFunc 154 A).run Tryz.prog w = .ok (.enter 154 A) w:=enters_of Tryz.func154 (by kernel_rfl) rfl;have S:=AnyQ.slices_SortFunc Tryz.sortVx 2 Tryz.isAgg83 Tryz.sizeOf83 V2.enc V2.len V2.one V2.cf V2.swo 154 #[] g 0 cap d w M (V2.lays g 0 d.size w) Q H (by omega);rw[s] at S;change Calls Tryz.prog 153 _ _ _ at S;refine S.mono ?_;rintro e w' ⟨rfl,a,m,o,hp,hs,rfl⟩;obtain⟨p,_,J⟩:=hp;rw[s] at p;have K:a.extract 0 n=a:=by rw[<-p];simp
  have L:d.extract 0 n=d:=by rw[<-s];simp
  rw[K,L] at J
  have N:d.toList.map (fun x:V2=>x.1)=xs:=by
   apply List.ext_getElem
   ·simp[s,Z]
   ·intro j a8 Y;simp only[List.getElem_map,Array.getElem_toList];have:=G j (by omega)
    rw[getElem!_pos d j (by omega)] at this;rw[this];exact AK Y []
  have r:(flatK V2.enc 2 a).size=n * 2:=by rw[size_flatK,p]
  have a7:n * 2<=u.size:=by rw[E];exact Nat.mul_le_mul_right _ D
  have W:sortWorldK V2.enc 2 w g 0 m a o=sortWorld id w g 0 m (flatK V2.enc 2 a) o:=rfl;rw[W];refine⟨rfl,a.toList.map (fun x:V2=>x.1),?_,?_,⟨(flatK V2.enc 2 a).toList,⟨by rw[Array.length_toList,r],.inr ⟨g,cap,putCells id 0 (flatK V2.enc 2 a) u,rfl,C,ZE 0 m _ o v,D,R,by simpa [putCells] using E,?_⟩⟩,by simp[p],?_,?_⟩,RT m _ o C H,?_⟩
  ·rw[<-N];exact J.map _
  ·rw[List.pairwise_map,List.pairwise_iff_getElem];intro i j I b X;simp only[Array.length_toList] at I b;have:=hs i j (Nat.zero_le _) X (by omega)
   rw[getElem!_pos a i I,getElem!_pos a j b] at this;exact of_decide_eq_false this
  ·have:=bY id (flatK V2.enc 2 a) u (by omega)
   rw[r] at this;rw[this,List.map_id]
  ·intro b0 hu;obtain⟨t,c,rfl⟩:=List.getElem_of_mem hu;rw[Array.length_toList,r] at c;have:=get_flatK V2.enc 2 a t (by rw[p];exact c)
   rw[getElem!_pos _ _ (by omega)] at this;rw[Array.getElem_toList,this];have l:=V2.len a[t / 2]!;rw[getElem!_pos _ _ (by rw[l];exact Nat.mod_lt _ (show 0 < 2 by decide))];exact V2.one _ _ (wG _)
  ·intro j x b;rw[List.getElem?_map] at b
   have y:j < a.size:=by
    rcases Nat.lt_or_ge j a.size with h|h
    ·exact h
    ·rw[List.getElem?_eq_none (by simpa using h)] at b;cases b
   show _=_;rw[jX a j y];rw[Array.getElem?_toList,Array.getElem?_eq_getElem y] at b;simp only[Option.map_some,Option.some.injEq] at b;rw[getElem!_pos a j y,b]
  ·intro a' cs t k c;refine ZD _ _ _ _ (fun e=>?_) (wD.1 k).1;subst e;rw[v] at k;injection k with k;injection k with _ k;exact c k.symm
theorem XI:∀ {l:Jb}{x y:List Int},BV (l ++ [x] ++ [y])=if x=y then BV (l ++ [x]) else BV (l ++ [x]) ++ [y]
 | [],x,y=>by
  by_cases h:x=y
  ·subst h;simp[BV]
  ·simp[BV,h]
 | [a],x,y=>by
  by_cases c:a=x<;>by_cases h:x=y<;>simp[BV,c,h]
 | a::b::l,x,y=>by
  have i:=XI (l:=b::l) (x:=x) (y:=y);simp only[List.cons_append] at i|-;by_cases c:a=b
  ·rw[BV,if_pos c,i];by_cases h:x=y
   ·rw[if_pos h,if_pos h,BV,if_pos c]
   ·rw[if_neg h,if_neg h,BV,if_pos c]
  ·rw[BV,if_neg c,i];by_cases h:x=y
   ·rw[if_pos h,if_pos h,BV,if_neg c]
   ·rw[if_neg h,if_neg h,BV,if_neg c];rfl
theorem SF {xs:Jb}{m:Nat}(h:m+1 < xs.length):BV (xs.take (m+2))=if xs.getD m []=xs.getD (m+1) [] then BV (xs.take (m+1)) else BV (xs.take (m+1)) ++ [xs.getD (m+1) []]:=by
 rw[BY h [],BY (show m < xs.length by omega) [],XI]
theorem AA.storeIv {E:TypeId}{k:Nat}{w:World}{B g n cap:Nat}{xs:Jb}(h:AA E k EI w B (.slice (some ⟨g,0,none⟩) n cap) n xs) {j i:Nat}(A:j < n) (z:i < k) (y:Int) :
  AA E k EI (w.setCell ⟨g,j * k+i,none⟩ (.int .i64 y)) B (.slice (some ⟨g,0,none⟩) n cap) n (xs.set j ((xs.getD j []).set i y))/\w.grownBy (w.setCell ⟨g,j * k+i,none⟩ (.int .i64 y)) (some g):=by
 obtain⟨D,f,m,o,e⟩:=h;obtain⟨t,v⟩:=World.ownsRow.stored f (j * k+i) (.int .i64 y);refine⟨⟨_,t,by simp[m],fun u d=>?_,fun a x b=>?_⟩,v⟩
 ·rcases List.mem_or_eq_of_mem_set d with d|rfl
  ·exact o u d
  ·rfl
 ·show _=_;have r:xs[j]? = some (xs.getD j []):=by rw[AK (by omega)];exact List.getElem?_eq_some_iff.2 ⟨by omega,rfl⟩
  have C:a < xs.length:=by have:=(List.getElem?_eq_some_iff.1 b).1;simpa using this
  rw[List.drop_set];by_cases q:a=j
  ·subst q;rw[List.getElem?_set_self (by omega)] at b;simp only[Option.some.injEq] at b;rw[if_neg (by omega),show a * k+i - a * k=i by omega,List.take_set,e a _ r,<-b,List.map_set]
  ·rw[List.getElem?_set_ne (by omega)] at b;rw[<-e a x b];by_cases l:j * k+i < a * k
   ·rw[if_pos l]
   ·rw[if_neg l,List.take_set,List.set_eq_of_length_le];rw[List.length_take]
    have:k<=j * k+i - a * k:=by
     have s:a < j:=by
      rcases Nat.lt_or_ge a j with h|h
      ·exact h
      ·have p:j < a:=(by omega);have c:(j+1) * k<=a * k:=Nat.mul_le_mul_right _ p;rw[Nat.succ_mul] at c;omega
     have c:(a+1) * k<=j * k:=Nat.mul_le_mul_right _ s;rw[Nat.succ_mul] at c;omega
    omega
theorem AA.store2v {w:World}{B g n cap:Nat}{xs:Jb}(h:AA 83 2 EI w B (.slice (some ⟨g,0,none⟩) n cap) n xs) {j:Nat}(d:j < n) (y e:Int) :
  AA 83 2 EI ((w.setCell ⟨g,j * 2,none⟩ (.int .i64 y)).setCell ⟨g,j * 2+1,none⟩ (.int .i64 e)) B (.slice (some ⟨g,0,none⟩) n cap) n (xs.set j [y,e]):=by
 have m:=h.length;obtain⟨k,_⟩:=h.intCells d;have f:=(h.storeIv d (i:=0) (by decide) y).1;have c:=(f.storeIv d (i:=1) (by decide) e).1
 have l:∀(a:List Int),(xs.set j a).getD j []=a:=fun a=>by
  rw[List.getD_eq_getElem?_getD,List.getElem?_set_self (by omega)];rfl
 simp only[l,List.set_set] at c;obtain⟨a,b,x⟩:=BZ k;rw[x] at c;exact c
theorem fG {w w':World}{B g:Nat}{a b:Nat}{v d:Value}(h:Below B w w') (c:B<=g) :
  Below B w ((w'.setCell ⟨g,a,none⟩ v).setCell ⟨g,b,none⟩ d):=by
 have e:=h.setCell (p:=⟨g,a,none⟩) c v;exact e.setCell (p:=⟨g,b,none⟩) c d
theorem AA.keep2v {w:World}{B g n cap:Nat}{xs:Jb}(h:AA 83 2 EI w B (.slice (some ⟨g,0,none⟩) n cap) n xs) (j:Nat) (y b:Int) :
  AE 83 w ((w.setCell ⟨g,j * 2,none⟩ (.int .i64 y)).setCell ⟨g,j * 2+1,none⟩ (.int .i64 b)):=by
 obtain⟨_,d,_⟩:=h;obtain⟨s,a⟩:=EY d g rfl;have k:=AE.setCell (p:=⟨g,j * 2,none⟩) a (.int .i64 y);have c:=heap_setCell_same _ g (j * 2) _ _ (.int .i64 y) a;exact k.trans (AE.setCell (p:=⟨g,j * 2+1,none⟩) c (.int .i64 b))
theorem AA.setTailV {w:World}{B g n cap m:Nat}{xs:Jb}(h:AA 83 2 EI w B (.slice (some ⟨g,0,none⟩) n cap) n xs) (D:m<=n) (vs:List Value) :
  AA 83 2 EI (w.setCells g (m * 2) vs) B (.slice (some ⟨g,0,none⟩) m cap) m (xs.take m)/\Below B w (w.setCells g (m * 2) vs)/\AE 83 w (w.setCells g (m * 2) vs):=by
 have V:=h.length;obtain⟨s,d,S,o,p⟩:=h;rcases d.2 with⟨l,_⟩|⟨R,P,r,A,q,f,T,v,y,z⟩
 ·cases l
 ·injection A with he1 he2 he3;injection he1 with he1;injection he1 with he1;subst he1 he3;obtain⟨c,I,J,K,i,L,M,N,O⟩:=UR vs (m * 2) w r f;have E:m * 2<=n * 2:=Nat.mul_le_mul_right _ D;have W:s.length=n * 2:=d.1
  have H:c.toList.take (m * 2)=s.take (m * 2):=by
   rw[K,<-z,List.take_take,Nat.min_eq_left E]
  refine⟨⟨s.take (m * 2),⟨by rw[List.length_take];omega,.inr ⟨g,cap,c,rfl,q,I,by omega,v,by rw[J];exact y,H⟩⟩,by rw[List.length_take];omega,fun u G=>o u (List.mem_of_mem_take G),fun j x b=>?_⟩,⟨M,N,O,by rw[L];exact wC _,fun k a=>i k (by omega)⟩,fun k Q t a F=>i k fun e=>?_⟩
  ·rw[List.getElem?_take] at b;split at b
   ·rename_i C
    have:=p j x b
    have U:j * 2+2<=m * 2:=(by rw[<-Nat.succ_mul];exact Nat.mul_le_mul_right _ C);show _=_;rw[List.drop_take,List.take_take,Nat.min_eq_left (by omega)];exact this
   ·cases b
  ·subst e;rw[f] at a;injection a with a;injection a with _ a;exact F a.symm
theorem sK (w:World) (ty:TypeId) (b o m c:Nat) (p:0 < m) (a:∀j,j < m * 2->(w.cell? ⟨b,o+j,none⟩).isSome=true) (f:∀j,j < m * 2->w.frozen? ⟨b,o+j,none⟩=false) :
  (Builtin.clear_ #[38] ty #[.slice (some ⟨b,o,none⟩) m c]).run Tryz.prog w = .ok (.tuple #[]) (w.setCells b o (Builtin.zeroCells (Value.agg #[.int .i64 0,.int .i64 0]).cells m).toList):=by
 have g:∀w,(zeroValue 83).run Tryz.prog w = .ok (Value.agg #[.int .i64 0,.int .i64 0]) w:=fun w=>by kernel_rfl
 have l:(Value.agg #[.int .i64 0,.int .i64 0]).cells = #[.int .i64 0,.int .i64 0]:=by rfl
 have z:(Builtin.zeroCells (Value.agg #[.int .i64 0,.int .i64 0]).cells m).toList.length=m * 2:=by
  rw[Array.length_toList,size_zeroCells,l];rfl
 have n:∀v∈(Builtin.zeroCells (Value.agg #[.int .i64 0,.int .i64 0]).cells m).toList,v.oneCell'=true:=by
  intro v h;rw[l] at h;simp only[Builtin.zeroCells,Array.toList_map,List.mem_map] at h;obtain⟨i,_,rfl⟩:=h;have d:i % 2 < 2:=Nat.mod_lt _ (by decide)
  have:∀k,k < 2->((#[.int .i64 0,.int .i64 0]:Array Value)[k]!).oneCell'=true:=by
   intro k e;match k,e with
   | 0,_=>rfl
   | 1,_=>rfl
  exact this _ d
 have s:=run_storeCells_cells (P:=Tryz.prog) b o _ 0 w (by rw[z];simpa using a) (by rw[z];simpa using f) n;simp only[Nat.add_zero] at s;obtain⟨k,rfl⟩:∃k,m=k+1:=⟨m - 1,by omega⟩;simp[Builtin.clear_,run_underlying EE.1,g,s]
theorem iF {xs cs:Jb}{m kk:Nat}{x:List Int}(l:cs.length=xs.length) (k:kk < m) (c:m < xs.length) (a:cs.take kk=BV (xs.take m)) (b:∀j,kk<=j->cs.getD j []=xs.getD j []) (h:xs.getD m []=x) (n : ¬xs.getD (m - 1) []=x) :
  (cs.set kk x).take (kk+1)=BV (xs.take (m+1))/\∀j,kk+1<=j->(cs.set kk x).getD j []=xs.getD j []:=by
 obtain⟨p,rfl⟩:∃p,m=p+1:=⟨m - 1,by omega⟩;refine⟨?_,fun j d=>?_⟩
 ·rw[SF c,if_neg (by rw[h];exact n),<-a,h,List.take_set,BY (show kk < cs.length by omega) [],List.set_append_right _ _ (by rw[List.length_take];exact Nat.min_le_left _ _),List.length_take,Nat.min_eq_left (by omega),Nat.sub_self];rfl
 ·rw[List.getD_eq_getElem?_getD,List.getElem?_set_ne (by omega),<-List.getD_eq_getElem?_getD];exact b j (by omega)
theorem iD {w:World}{B g n cap:Nat}{xs:Jb}(h:AA 83 2 EI w B (.slice (some ⟨g,0,none⟩) n cap) n xs) (hn:n<=1000) :
  Calls Tryz.prog 155 #[.slice (some ⟨g,0,none⟩) n cap] w fun e w'=>∃m,e = .returned (.slice (some ⟨g,0,none⟩) m cap)/\AA 83 2 EI w' B (.slice (some ⟨g,0,none⟩) m cap) m (BV xs)/\Below B w w'/\AE 83 w w':=by
 have hl:=h.length
 have hB:B<=g:=by
  obtain⟨_,l,_⟩:=h;exact(World.ownsRow.lt l g rfl).1
 have f2:n<=cap/\(cap:Int)<=9223372036854775807:=by
  obtain⟨_,l,_⟩:=h;rcases l.2 with⟨h0,_⟩|⟨h1,g5,g6,b,_,_,e4,e5,_⟩
  ·cases h0
  ·injection b with _ _ he3;subst he3;unfold maxLen at e5;exact⟨e4,by omega⟩
 obtain⟨i9,i'⟩:=f2;have d7:∀a,a < n->(xs.getD a []).length=2:=fun a K=>(h.intCells K).1;have b':=qH (fun a (K:a < n)=>AA.intCells h K);have hh:=qH h;have o:=qH hl;have j4:=qH d7;clear h hl d7
 have c4:Hid (∀q,BV (xs.take n)=xs.take n->AA 83 2 EI (w.drewN q) B (.slice (some ⟨g,0,none⟩) n cap) n (BV xs)):=fun q S=>by
  rw[List.take_of_length_le (by rw[o.out];exact wC _)] at S;rw[S];exact hh.out.keep (EI.stab _) (wH (wB _ w) q)
 have Y:Hid (∀q,Below B w (w.drewN q)/\AE 83 w (w.drewN q)):=fun q=>⟨wH (wB _ w) q,AE.below (wH (wB _ w) q)⟩;by_cases h2:n < 2
 ·have e2:Hid (BV (xs.take n)=xs.take n):=by
   show _=_;have:n=0\/n=1:=by omega
   rcases this with rfl|rfl
   ·simp[BV]
   ·match xs,o.out with
    | [X],_=>simp[BV]
  have hd:decide ((n:Int) < 2)=true:=vZ (by omega);go_enter Tryz.func155, Tryz.ntmps155
  go_wp2;go_ret;exact⟨n,rfl,c4.out 0 e2.out,(Y.out 0).1,(Y.out 0).2⟩
 ·have hd:decide ((n:Int) < 2)=false:=vY (by omega)
  have l:Hid (BV (xs.take (0+1))=xs.take (0+1)):=by
   show _=_;match xs,o.out with
   | X::r,_=>simp[BV]
   | [],h=>simp at h;omega
  go_enter Tryz.func155, Tryz.ntmps155
  go_wp2_with fail
  go_loopg [3] n (fun f kv wr=>∃p q:Nat,kv = .int .i64 ((p:Int)+1)/\p+1<=n/\n<=p+1+f/\wr=w.drewN q/\Hid (BV (xs.take (p+1))=xs.take (p+1)))
  case atStart=>exact⟨0,0,rfl,by omega,by omega,rfl,l⟩
  case round=>
   clear l;obtain⟨p,q,rfl,hp,j1,rfl,G⟩:=hrel;by_cases a4:p+1 < n
   ·obtain⟨f,rfl⟩:∃f,gk=f+1:=⟨gk - 1,by omega⟩;obtain⟨A,u⟩:=b'.out (p+1) a4;obtain⟨C,v⟩:=b'.out p (by omega);obtain⟨X,t⟩:=AB (xs.getD (p+1) []);obtain⟨g3,y⟩:=AB (xs.getD p []);have z:=SF (xs:=xs) (m:=p) (by rw[o.out];exact a4);rw[t,y] at z;rw[t] at A u;rw[y] at C v;obtain⟨c,i,rfl⟩:=BZ A;obtain⟨E,F,rfl⟩:=BZ C;obtain⟨c0,c1⟩:=u.all2;obtain⟨d0,d1⟩:=v.all2;have e7:(p:Int)+1 < (n:Int):=(by omega);have i0:(0:Int)<=(p:Int):=(by omega);have e8:(0:Int)<=(p:Int)+1:=(by omega);have i1:(p:Int) < (n:Int):=(by omega);have V:IntKind.i64.wrap ((p:Int)+1 - 1)=(p:Int):=(by rw[show(p:Int)+1 - 1=(p:Int) by omega];exact IntWalk.i64_in _ (by omega));have U:((p:Int)+1).toNat=p+1:=(by omega);have a5:=y;have a6:=t;clear u v A C t y;by_cases b : [c,i] = [E,F]
    ·have P:BI [c,i] [E,F]=true:=FN.2 b;rw[if_pos b.symm,G.out] at z;have z:=qH z;replace a5:=qH a5;clear b G a6;go_wp2_with fail
     go_quiet (fail)
     go_wp2_with fail
     obtain⟨N,a0⟩:=AB (n - (p+1));obtain⟨C2,Z⟩:=AB (cap - (p+1));rw[a0,Z];have c9:n=p+1+N:=(by omega);replace Z:=qH Z;replace a0:=qH a0;have f1:=qH c9;have h4:(1:Int)<=(N:Int):=(by omega);have d4:Hid (xs.take (p+1)=BV (xs.take (p+1+(0+1)))):=z.out.symm;have b7:AA 83 2 EI (w.drewN (q+nq)) B (.slice (some ⟨g,0,none⟩) n cap) n xs:=hh.out;have b9:Below B w (w.drewN (q+nq)):=wH (wB _ w) _;have c6:AE 83 w (w.drewN (q+nq)):=AE.below (wH (wB _ w) _);have c7:=qH c6;have d5:Hid (∀a,p+1<=a->xs.getD a []=xs.getD a []):=fun _ _=>rfl;clear c9 c0 c1 d0 d1 P e7 e8 U V c6;go_loopg [3,5] N (fun f kv rv wr=>∃(k r:Nat) (s:Jb),kv = .int .i64 ((k:Nat):Int)/\rv = .int .i64 ((r:Int)+1)/\r+1<=N/\N<=r+1+f/\k < p+1+(r+1)/\AA 83 2 EI wr B (.slice (some ⟨g,0,none⟩) n cap) n s/\Hid (s.take k=BV (xs.take (p+1+(r+1))))/\Hid (∀a,k<=a->s.getD a []=xs.getD a [])/\Below B w wr/\Hid (AE 83 w wr))
     case atStart=>exact⟨p+1,0,xs,by go_num,rfl,by omega,by omega,by omega,b7,d4,d5,b9,c7⟩
     case round=>
      clear b7 d4 d5 b9 c7;obtain⟨k,r,s,rfl,rfl,hr,j3,e',O,T,L,a2,Q⟩:=hrel;have D:=O.length;have J:=qH O;have I:=f1.out;by_cases i7:r+1 < N
      ·obtain⟨f,rfl⟩:∃f,gk=f+1:=⟨gk - 1,by omega⟩;obtain⟨A,u⟩:=O.intCells (j:=p+1+(r+1)) (by omega);obtain⟨C,v⟩:=O.intCells (j:=p+1+r) (by omega);obtain⟨a7,a8⟩:=O.intCells (j:=k) (by omega);rw[L.out _ (by omega)] at A u;rw[L.out _ (by omega)] at C v;rw[Nat.add_mul (p+1) (r+1)] at u;rw[Nat.add_mul (p+1) r] at v;obtain⟨X,t⟩:=AB (xs.getD (p+1+(r+1)) []);obtain⟨g3,y⟩:=AB (xs.getD (p+1+r) []);obtain⟨j5,hz⟩:=AB (s.getD k []);have M:=SF (xs:=xs) (m:=p+1+r) (by rw[o.out];omega);have R:=iF (xs:=xs) (cs:=s) (m:=p+1+(r+1)) (kk:=k) (x:=X) (by rw[D,o.out]) e' (by rw[o.out];omega) T.out L.out t;rw[show p+1+r+1=p+1+(r+1) by omega,t,y] at M;rw[show p+1+(r+1) - 1=p+1+r by omega,y] at R;rw[t] at A u;rw[y] at C v;rw[hz] at a7 a8;obtain⟨c,i,rfl⟩:=BZ A;obtain⟨E,F,rfl⟩:=BZ C;obtain⟨z0,z1,rfl⟩:=BZ a7;obtain⟨c0,c1⟩:=u.all2;obtain⟨d0,d1⟩:=v.all2;obtain⟨e0,e1⟩:=a8.all2;have h6:(r:Int)+1 < (N:Int):=(by omega);have h7:(0:Int)<=(r:Int)+1:=(by omega);have h8:(0:Int)<=(r:Int):=(by omega);have h9:(r:Int) < (N:Int):=(by omega);have h':(k:Int) < (n:Int):=(by omega);have h3:(N:Int)<=1000:=(by omega);have i5:(k:Int)<=1000:=(by omega);have U:((r:Int)+1).toNat=r+1:=(by omega);have V:IntKind.i64.wrap ((r:Int)+1 - 1)=(r:Int):=(by rw[show(r:Int)+1 - 1=(r:Int) by omega];exact IntWalk.i64_in _ (by omega));have d6:IntKind.i64.wrap (r:Int)=(r:Int):=IntWalk.i64_in _ (by omega);clear u v a8 A C a7 t y hz O;by_cases b : [c,i] = [E,F]
       ·have P:BI [c,i] [E,F]=true:=FN.2 b;rw[if_pos b.symm] at M;have f9:Hid (s.take k=BV (xs.take (p+1+(r+1+1)))):=T.out.trans M.symm;clear b M R;replace I:=qH I;replace D:=qH D;go_wp2_with fail
        go_quiet (fail)
        clear V d6 U;go_wp2_with fail
        go_roundg f
        case measure=>omega
        case rel=>exact⟨k,r+1,s,rfl,by go_num,by omega,by omega,by omega,J.out,f9,L,wH a2 _,Q.out.trans (AE.below (wH (wB _ _) _))⟩
       ·have P:BI [c,i] [E,F]=false:=FL.2 b;obtain⟨c',d2⟩:=R (fun h=>b h.symm);have f3:=qH c';have f4:=qH d2;have f5:Hid (∀d,AA 83 2 EI (((wr.drewN d).setCell ⟨g,k * 2,none⟩ (.int .i64 c)).setCell ⟨g,k * 2+1,none⟩ (.int .i64 i)) B (.slice (some ⟨g,0,none⟩) n cap) n (s.set k [c,i])):=fun d=>AA.store2v (AA.keep (EI.stab _) J.out (wH (wB _ _) d)) (by omega) c i;have f7:Hid (∀d,Below B w (((wr.drewN d).setCell ⟨g,k * 2,none⟩ (.int .i64 c)).setCell ⟨g,k * 2+1,none⟩ (.int .i64 i))):=fun d=>fG (wH a2 d) hB;have f6:Hid (∀d,AE 83 w (((wr.drewN d).setCell ⟨g,k * 2,none⟩ (.int .i64 c)).setCell ⟨g,k * 2+1,none⟩ (.int .i64 i))):=fun d=>(Q.out.trans (AE.below (wH (wB _ _) d))).trans (AA.keep2v (AA.keep (EI.stab _) J.out (wH (wB _ _) d)) k c i);have H:∀a,wr.frozen? ⟨g,a,none⟩=false:=fun a=>J.out.frozen a;have f0:=H (k * 2);have g':=H (k * 2+1);clear b M R c' d2 H;replace I:=qH I;replace D:=qH D;go_wp2_with fail
        go_quiet (fail)
        clear V d6 U;go_wp2_with fail
        go_roundg f
        case measure=>omega
        case rel=>exact⟨k+1,r+1,s.set k [c,i],by go_num,by go_num,by omega,by omega,by omega,f5.out _,f3,f4,f7.out _,f6.out _⟩
      ·have d3:r+1=N:=(by omega);have H:∀a,wr.frozen? ⟨g,a,none⟩=false:=fun a=>O.frozen a
       have c3:∀a,a < (n - k) * 2->(wr.cell? ⟨g,k * 2+a,none⟩).isSome=true:=fun a K=>by
        have S:k+a / 2 < n:=by
         have:a / 2 < n - k:=by rw[Nat.div_lt_iff_lt_mul (by decide)];exact K
         omega
        obtain⟨k7,kc⟩:=O.intCells S;have hm:a % 2 < 2:=Nat.mod_lt _ (by decide);have l:=kc (a % 2) (by rw[k7];exact hm);rw[show(k+a / 2) * 2+a % 2=k * 2+a by rw[Nat.add_mul,Nat.add_assoc,Nat.mul_comm (a / 2) 2,Nat.div_add_mod]] at l;rw[l];rfl
       have c2:=fun ty=>sK wr ty g (k * 2) (n - k) (cap - k) (by omega) c3 (fun a _=>H _);obtain⟨b1,hZ⟩:=AB ((Builtin.zeroCells (Value.agg #[.int .i64 0,.int .i64 0]).cells (n - k)).toList);simp only[hZ] at c2;obtain⟨W,t2,t3⟩:=O.setTailV (m:=k) (by omega) b1;rw[T.out,List.take_of_length_le (by rw[o.out];omega)] at W;obtain⟨W2,a1⟩:=AB (wr.setCells g (k * 2) b1);rw[a1] at W t2 t3;simp only[a1] at c2;have a3:=qH W;have e9:=qH (Q.out.trans t3);have e3:=a2.trans t2;have i2:(k:Int)<=(n:Int):=(by omega);have i6:k < n:=(by omega);have i4:k < cap:=(by omega);have i3:(k:Int)<=(cap:Int):=(by omega);have h5:decide ((r:Int)+1 < (N:Int))=false:=vY (by omega);clear W t2 t3 O J H c3 hZ a1 T Q L;replace I:=qH I;replace D:=qH D;replace d3:=qH d3;go_wp2;go_ret;exact⟨k,rfl,a3.out,e3,e9.out⟩
    ·have P:BI [c,i] [E,F]=false:=FL.2 b;rw[if_neg (fun h=>b h.symm),G.out] at z;have f8:Hid (BV (xs.take (p+1+1))=xs.take (p+1+1)):=(by show _=_;rw[z,<-a6];exact(BY (by rw[o.out];exact a4) []).symm);clear b G a5 z a6;go_wp2_with fail
     go_quiet (fail)
     go_wp2_with fail
     go_roundg f
     case measure=>omega
     case rel=>exact⟨p+1,_,by go_num,by omega,by omega,(by first|exact rfl|exact World.drewN_drewN _ _ _),f8⟩
   ·obtain rfl:n=p+1:=(by omega);have a3:=qH (c4.out q G.out);obtain⟨d9,b2⟩:=Y.out q;have d':=qH b2;clear G b2;go_wp2_with fail
    go_ret;exact⟨p+1,by first|rfl|(congr 2;done),a3.out,d9,d'.out⟩
end Go.Proofs.YtcnedkkcgdkioaaGreat
