/- Texts of this claim, put together: SW SX SY0 SZ0. -/
import Derived.Test.YtcnedkkcgdkioaaGreatKBzh

set_option maxRecDepth 100000
set_option maxHeartbeats 12800000
namespace Go.Proofs.YtcnedkkcgdkioaaGreat
open Go.RowKit
section
variable {α:Type} {cmp:α->α->Int}
def GV (cmp:α->α->Int) (d:Bool) (s:α) (r:List α):List α:=if d=true then r else DA cmp s r
theorem XR {l:List α}{i:Nat}{x dd:α}(h:i < l.length) (a:l.getD i dd=x):l.drop i=x::l.drop (i+1):=by
 rw[List.drop_eq_getElem_cons h,<-a,AK h]
theorem oW {l out:List α}{s x dd:α}{i:Nat}{d:Bool}(h:out++GV cmp d s (l.drop i)=DA cmp s l) (t:i < l.length) (b:l.getD i dd=x) (a:d=true\/¬cmp s x < 0):(out ++ [x])++GV cmp d s (l.drop (i+1))=DA cmp s l:=by
 rw[<-h,XR t b,List.append_assoc];congr 1
 cases d
 ·have a:=a.resolve_left (by decide);show x::DA cmp s (l.drop (i+1))=DA cmp s (x::l.drop (i+1));rw[DA,if_neg a]
 ·rfl
theorem oX {l out:List α}{s x dd:α}{i:Nat}(h:out++GV cmp false s (l.drop i)=DA cmp s l) (t:i < l.length) (a:l.getD i dd=x) (n:cmp s x < 0):(out ++ [s] ++ [x])++GV cmp true s (l.drop (i+1))=DA cmp s l:=by
 rw[<-h,XR t a,List.append_assoc,List.append_assoc];congr 1
 show s::x::l.drop (i+1)=DA cmp s (x::l.drop (i+1));rw[DA,if_pos n]
theorem oV {l out:List α}{s:α}{i:Nat}{d:Bool}(h:out++GV cmp d s (l.drop i)=DA cmp s l):out.length<=l.length+1:=by
 have:=congrArg List.length h
 rw[List.length_append,OM] at this;omega
end
theorem qR {w:World}{v:Value}{l:Jb}{a b:Int}(h:AA 83 2 EI w 0 v l.length l) (hl:l.length<=100000) :
  Calls Tryz.prog 173 #[v,.agg #[.int .i64 a,.int .i64 b]] w fun e w'=>∃v',e = .returned v'/\AA 83 2 EI w' 0 v' (BK AH l [a,b]).length (BK AH l [a,b])/\Below w.heap.size w w':=by
 have c7 : Tryz.prog.follows .mixedOrders=true:=by kernel_rfl
 obtain⟨Q,t⟩:=AF (w.alloc (.cells #[.int .i64 a,.int .i64 b] 83));have Y:Below w.heap.size w Q:=by rw[t];exact(wB _ w).alloc (wC _) _
 have kA:Q.heap[w.heap.size]? = some (.cells #[.int .i64 a,.int .i64 b] 83):=by rw[t];exact wE _ _
 have HB:=qH (fun W (f:Below Q.heap.size Q W)=>And.intro (AC f (BA kA).1) (AC f (BA kA).2));obtain⟨va,vc,e5⟩:=h.shape;subst e5;have H:=cF (a:=a) (b:=b) ((h.keep (EI.stab _) Y).ks (by omega));obtain⟨R,T⟩:=AF (BK AH l [a,b]);rw[<-T];have hh:=qH h;obtain⟨n,r⟩:=HB.out Q (wB _ _);rw[t] at n r;by_cases L : [a,b]∈l
 ·rw[vZ L] at H;have j:R=l:=by rw[T];unfold BK;rw[if_pos L]
  subst j;replace H:=qH H;clear L T h kA;go_enter Tryz.func173, Tryz.ntmps173
  go_wp2_with fail
  rw[<-t];replace t:=qH t;refine H.out.mono ?_;rintro e z ⟨rfl,Z⟩;have a6:=btt Y Z;have s:=qH (hh.out.keep (EI.stab _) a6);clear n r;go_wp2_with fail
  go_ret;exact⟨_,rfl,s.out,a6⟩
 ·rw[vY L] at H;have j:R=DA AH [a,b] l:=by rw[T];unfold BK;rw[if_neg L]
  have d':=h.ks (by omega);obtain⟨ka,kc,kb,ko,d9,d8,c6,-⟩:=d';injection d9 with e1 e2 e3;subst e1 e3;have d4:=qH c6;have h0:Hid ([]++GV AH false [a,b] (l.drop 0)=R):=by show _=_;rw[j];rfl
  replace j:=qH j;replace H:=qH H;clear L T h kA c6 e2;go_enter Tryz.func173, Tryz.ntmps173
  go_wp2_with fail
  rw[<-t];replace t:=qH t;refine H.out.mono ?_;rintro e z ⟨rfl,Z⟩;clear n r;have c4:Hid (AA 83 2 EI z z.heap.size (.slice none 0 0) ([]:Jb).length []):=AA.nil _ _;go_wp2_with fail
  go_loopw [5,6,7] (fun ov dv iv wr=>∃(i:Nat) (d:Bool) (o:Jb),dv = .bool d/\iv = .int .i64 i/\i<=l.length/\Hid (AA 83 2 EI wr z.heap.size ov o.length o)/\Hid (o++GV AH d [a,b] (l.drop i)=R)/\Below z.heap.size z wr) (fun _ _ iv _=>l.length - (intOf iv).toNat)
  case atStart=>exact⟨0,false,[],rfl,rfl,by omega,c4,h0,wB _ _⟩
  case round=>
   clear c4 h0;obtain⟨i,d,o,rfl,rfl,hi,s,F,a1⟩:=hrel;obtain⟨oa,oc,e0⟩:=s.out.shape;subst e0;have P:=F.out.trans j.out;have f4:=oV P;have a7:o.length<=1000000000000:=(by omega);have d7:o.length+1<=1000000000000:=(by omega);have b5:=btt Z a1;have b4:=btt Y b5;have e6:=a1.size;by_cases J:i < l.length
   ·have f2:(i:Int) < (l.length:Int):=(by omega);obtain rfl:=d8 (by omega);obtain⟨x2,xi⟩:=d4.out i J;have a2:=fun(h1:o++GV AH false [a,b] (l.drop i)=DA AH [a,b] l) h2=>oX h1 J (dd:=[]) rfl h2;have A:=fun h2=>oW P J (dd:=[]) rfl h2;obtain⟨g4,hx⟩:=AB (l.getD i []);rw[hx] at x2 xi;simp only[hx] at a2 A;obtain⟨p,q,rfl⟩:=BZ x2;obtain⟨k,m⟩:=xi.all2;have cw:=qH (fun W (f:Below w.heap.size w W)=>And.intro (AC f k) (AC f m));have X:=qH (fun W (f:Below wr.heap.size wr W)=>And.intro (HB.out W (btt b5 f)) (And.intro (AC (btt b4 f) k) (AC (btt b4 f) m)))
    have b9:Hid (∀u∈(#[.int .i64 p,.int .i64 q]:Array Value).toList,u.oneCell'=true):=fun u g=>by
     rcases List.mem_cons.1 g with rfl|g
     ·rfl
     ·rw[List.mem_singleton.1 g];rfl
    have b7:Hid (∀u∈(#[.int .i64 a,.int .i64 b]:Array Value).toList,u.oneCell'=true):=fun u g=>by
     rcases List.mem_cons.1 g with rfl|g
     ·rfl
     ·rw[List.mem_singleton.1 g];rfl
    have h3:=SD [a,b] [p,q];have HC:=fun W=>UJ a b p q W;obtain⟨e',C⟩:=AB (AH [a,b] [p,q]);simp only[C] at HC a2 A;rw[C] at h3;rw[<-j.out] at A;replace HC:=qH HC;replace a2:=qH a2;replace A:=qH A;replace P:=qH P;clear C hx xi x2 k m;cases d
    ·go_wp2_with fail
     refine CW c7 (by kernel_rfl) ?_
     repeat (refine WQ.step fun K c=>?_;go_simp;first|(refine c _ ?_;clear c K)|(apply Exists.intro;refine⟨fun N C=>?_,c _ ?_⟩;(·(first|with_reducible rfl|(obtain⟨⟨n,r⟩,k,m⟩:=X.out N C;go_simp;first|done|with_reducible rfl|with_reducible exact⟨rfl,rfl⟩)));clear c K))
     (refine WQ.step fun K c=>?_;go_simp;first|(refine c _ ?_;clear c K)|(apply Exists.intro;refine⟨fun N C=>?_,c _ ?_⟩;(·(refine(HC.out N).mono ?_;rintro e w' ⟨rfl,d3⟩;exact⟨rfl,btt C d3⟩));clear c K))
     repeat (refine WQ.step fun K c=>?_;go_simp;first|(refine c _ ?_;clear c K)|(apply Exists.intro;refine⟨fun N C=>?_,c _ ?_⟩;(·(first|with_reducible rfl|(go_simp;first|done|with_reducible rfl|with_reducible exact⟨rfl,rfl⟩)));clear c K))
     refine WQ.nil ?_;intro D y;have I:=btt a1 y;have a8:=I.size;obtain⟨⟨n,r⟩,k,m⟩:=X.out D y;have f0:=qH (fun W (f:Below D.heap.size D W)=>(X.out W (btt y f)).2);rcases h3 with rfl|rfl|rfl
     case' inl=>
      have G:Hid (o ++ [[a,b]] ++ [[p,q]]++GV AH true [a,b] (l.drop (i+1))=R):=(a2.out P.out (by decide)).trans j.out.symm;have O:=s.out.keep (EI.stab _) y;have E:Hid (EI D [.int .i64 a,.int .i64 b] [a,b]):=rfl;go_wp2_with (at_builtin;refine FH (x:=[a,b]) EE (by decide) (by decide) (EI.stab _) rfl _ _ rfl rfl O rfl rfl rfl b7.out E.out a7 a8 ?_)
      intro v4 w4 M d5 b6 e8;have U:=I.trans b6;have e7:=U.size;obtain⟨pa,pc,e4⟩:=M.shape;subst e4;clear k m n r;obtain⟨k,m⟩:=cw.out w4 (btt Y (btt Z U));have d2:Hid (EI w4 [.int .i64 p,.int .i64 q] [p,q]):=rfl;go_wp2_with (at_builtin;refine FH (x:=[p,q]) EE (by decide) (by decide) (EI.stab _) rfl _ _ rfl rfl M rfl rfl rfl b9.out d2.out d7 e7 ?_)
      intro v5 w5 B c5 a0 c8
      have S:Hid (AA 83 2 EI w5 z.heap.size v5 (o ++ [[a,b]] ++ [[p,q]]).length (o ++ [[a,b]] ++ [[p,q]])):=by
       show AA _ _ _ _ _ _ _ _;rw[show o ++ [[a,b]] ++ [[p,q]]=o ++ [[a,b],[p,q]] by simp,List.length_append];exact B
      have V:=U.trans a0;clear B M O;go_wp2_with fail
      go_roundw
      case rel=>exact⟨i+1,true,_,rfl,by go_num,J,S,G,V⟩
      case measure=>simp[intOf];omega
     case' inr.inl=>have G:Hid (o ++ [[p,q]]++GV AH false [a,b] (l.drop (i+1))=R):=A.out (.inr (by decide))
     case' inr.inr=>have G:Hid (o ++ [[p,q]]++GV AH false [a,b] (l.drop (i+1))=R):=A.out (.inr (by decide))
     all_goals
      have E:Hid (EI D [.int .i64 p,.int .i64 q] [p,q]):=rfl;have O:=s.out.keep (EI.stab _) y;go_wp2_with (at_builtin;refine FH (x:=[p,q]) EE (by decide) (by decide) (EI.stab _) rfl _ _ rfl rfl O rfl rfl rfl b9.out E.out a7 a8 ?_)
      intro v5 w5 B c5 a0 c8
      have S:Hid (AA 83 2 EI w5 z.heap.size v5 (o ++ [[p,q]]).length (o ++ [[p,q]])):=by
       show AA _ _ _ _ _ _ _ _;rw[List.length_append];exact B
      have V:=I.trans a0;clear B O;go_wp2_with fail
      go_roundw
      case rel=>exact⟨i+1,_,_,rfl,by go_num,J,S,G,V⟩
      case measure=>simp[intOf];omega
    ·go_wp2_with fail
     refine CW c7 (by kernel_rfl) ?_
     repeat (refine WQ.step fun K c=>?_;go_simp;first|(refine c _ ?_;clear c K)|(apply Exists.intro;refine⟨fun N C=>?_,c _ ?_⟩;(·(first|with_reducible rfl|(obtain⟨⟨n,r⟩,k,m⟩:=X.out N C;go_simp;first|done|with_reducible rfl|with_reducible exact⟨rfl,rfl⟩)));clear c K))
     refine WQ.nil ?_;intro D y;have I:=btt a1 y;have a8:=I.size;obtain⟨⟨n,r⟩,k,m⟩:=X.out D y;have G:Hid (o ++ [[p,q]]++GV AH true [a,b] (l.drop (i+1))=R):=A.out (.inl (by first|rfl|trivial));have E:Hid (EI D [.int .i64 p,.int .i64 q] [p,q]):=rfl;have O:=s.out.keep (EI.stab _) y;go_wp2_with (at_builtin;refine FH (x:=[p,q]) EE (by decide) (by decide) (EI.stab _) rfl _ _ rfl rfl O rfl rfl rfl b9.out E.out a7 a8 ?_)
     intro v5 w5 B c5 a0 c8
     have S:Hid (AA 83 2 EI w5 z.heap.size v5 (o ++ [[p,q]]).length (o ++ [[p,q]])):=by
      show AA _ _ _ _ _ _ _ _;rw[List.length_append];exact B
     have V:=I.trans a0;clear B O;go_wp2_with fail
     go_roundw
     case rel=>exact⟨i+1,_,_,rfl,by go_num,J,S,G,V⟩
     case measure=>simp[intOf];omega
   ·obtain rfl:i=l.length:=(by omega);rw[List.drop_length] at F;have a6:=b4;cases d
    ·have hE:R=o ++ [[a,b]]:=F.out.symm;subst hE;obtain⟨n,r⟩:=HB.out wr b5
     have b7:Hid (∀u∈(#[.int .i64 a,.int .i64 b]:Array Value).toList,u.oneCell'=true):=fun u g=>by
      rcases List.mem_cons.1 g with rfl|g
      ·rfl
      ·rw[List.mem_singleton.1 g];rfl
     have E:Hid (EI wr [.int .i64 a,.int .i64 b] [a,b]):=rfl;have O:=s.out;clear F P j;go_wp2_with (at_builtin;refine FH (x:=[a,b]) EE (by decide) (by decide) (EI.stab _) rfl _ _ rfl rfl O rfl rfl rfl b7.out E.out a7 e6 ?_)
     intro v4 w4 M d5 b6 e8
     have b3:Hid (AA 83 2 EI w4 0 v4 (o ++ [[a,b]]).length (o ++ [[a,b]])):=by
      show AA _ _ _ _ _ _ _ _;rw[List.length_append];exact M.base (Nat.zero_le _)
     have U:=btt Y (btt Z (a1.trans b6));clear M O;go_wp2_with fail
     go_ret;exact⟨_,rfl,b3.out,U⟩
    ·have hE:R=o:=(by have:=F.out.symm;rwa [show GV AH true [a,b] [] = [] from rfl,List.append_nil] at this);subst hE;have b3:=qH (s.out.base (Nat.zero_le _));clear F P j s;go_wp2_with fail
     go_ret;exact⟨_,rfl,b3.out,a6⟩
end Go.Proofs.YtcnedkkcgdkioaaGreat
namespace Go.Proofs.YtcnedkkcgdkioaaGreat
open Go.RowKit
theorem pB {l:Jb}{s:List Int}:(BK AH l s).length<=l.length+1:=by
 unfold BK;split
 ·omega
 ·rw[OM];omega
theorem UH:∀ {t l:Jb},(t.foldl (BK AH) l).length<=l.length+t.length
 | [],l=>by simp
 | x::r,l=>by
  rw[List.foldl_cons,List.length_cons];have h:=UH (t:=r) (l:=BK AH l x);have a:=pB (l:=l) (s:=x);omega
theorem AA.made0 {α:Type}{E:TypeId}{k:Nat}{El:World->List Value->α->Prop}(w:World):AA E k El (w.alloc (.cells #[] E)) w.heap.size (.slice (some ⟨w.heap.size,0,none⟩) 0 0) 0 ([]:List α):=
 ⟨[],by simpa using World.ownsRow_made w #[] 0 (wC _) (Nat.zero_le _) (by simp),rfl,by simp,by simp⟩
theorem pF {w:World}{u v:Value}{s t:Jb}(h:AA 83 2 EI w 0 u s.length s) (k:KS 2 w v t) (a3:s.length+t.length<=100000) :
  Calls Tryz.prog 106 #[u,v] w fun e w'=>∃v',e = .returned v'/\AA 83 2 EI w' 0 v' (t.foldl (BK AH) s).length (t.foldl (BK AH) s)/\Below w.heap.size w w':=by
 obtain⟨A,W⟩:=AF (w.alloc (.cells #[] 83));have f:Below w.heap.size w A:=by rw[W];exact(wB _ w).alloc (wC _) _
 have m:AA 83 2 EI A w.heap.size (.slice (some ⟨w.heap.size,0,none⟩) 0 0) 0 []:=by rw[W];exact AA.made0 w
 have r:=(h.keep (EI.stab _) f).src;have J:=f.size;rw[W] at m r J;have S:0+s.length<=1000000:=by omega
 obtain⟨ua,uc,U⟩:=h.shape;subst U;obtain⟨va,vc,vb,vo,rfl,V,K,-⟩:=k;have Q:=qH K;clear h K;go_enter Tryz.func106, Tryz.ntmps106
 go_wp2_with (at_builtin;refine eQ (ys:=s) EE (by decide) (by decide) (EI.stab _) rfl _ _ rfl rfl m rfl r S J ?_)
 intro Z x H R F X;rw[<-W] at F;have M:=f.trans F
 have D:Hid (AA 83 2 EI x 0 Z ((t.take 0).foldl (BK AH) s).length ((t.take 0).foldl (BK AH) s)):=by
  show AA _ _ _ _ _ _ _ _;rw[List.take_zero,List.foldl_nil];have:=H.base (Nat.zero_le _)
  exact this
 replace W:=qH W;clear H X R m r;go_wp2_with fail
 go_loopw [5,6] (fun Y n wr=>∃i:Nat,n = .int .i64 i/\i<=t.length/\Hid (AA 83 2 EI wr 0 Y ((t.take i).foldl (BK AH) s).length ((t.take i).foldl (BK AH) s))/\Below x.heap.size x wr) (fun _ n _=>t.length - (intOf n).toNat)
 case atStart=>exact⟨0,rfl,by omega,D,wB _ _⟩
 case round=>
  clear D;obtain⟨i,rfl,hi,o,G⟩:=hrel;obtain⟨oa,oc,T⟩:=o.out.shape;subst T;have g:=btt M G;by_cases j:i < t.length
  ·obtain rfl:=V (by omega);have a2:(i:Int) < (t.length:Int):=(by omega);obtain⟨y,z⟩:=Q.out i j;have c:(t.take (i+1)).foldl (BK AH) s=BK AH ((t.take i).foldl (BK AH) s) (t.getD i []):=(by rw[BY j [],List.foldl_append];rfl);have I:=UH (t:=t.take i) (l:=s);rw[List.length_take] at I;obtain⟨b3,L⟩:=AB (t.getD i []);rw[L] at y z c;obtain⟨p,q,rfl⟩:=BZ y;obtain⟨B,C⟩:=z.all2;replace B:=AC g B;replace C:=AC g C;obtain⟨a0,O⟩:=AB ((t.take i).foldl (BK AH) s);rw[O] at o c I|-;have P:=qH (qR (a:=p) (b:=q) o.out (by omega));replace c:=qH c;clear O L z y;go_wp2_with fail
   refine P.out.mono ?_;rintro e w4 ⟨v4,rfl,E,N⟩;rw[<-c.out] at E;go_wp2_with fail
   go_roundw
   case rel=>exact⟨i+1,by go_num,j,E,btt G N⟩
   case measure=>simp[intOf];omega
  ·obtain rfl:i=t.length:=(by omega);have d:=o.out;rw[List.take_length] at d|-;replace d:=qH d;clear o;go_wp2_with fail
   go_ret;exact⟨_,rfl,d.out,g⟩
def FX (fs:Jc) (i:Nat):Jb:=(fs.take i).foldl (fun o f=>f.foldl (BK AH) o) []
theorem bW {fs:Jc}{i:Nat}{f:Jb}(h:i < fs.length) (a:fs.getD i []=f):FX fs (i+1)=f.foldl (BK AH) (FX fs i):=by
 unfold FX;rw[BY h [],a,List.foldl_append];rfl
theorem UB {fs:Jc}(h:∀s∈fs,s.length<=8):∀i,(FX fs i).length<=i * 8
 | 0=>by simp[FX]
 | i+1=>by
  by_cases a:i < fs.length
  ·rw[bW a rfl];have b:=UH (t:=fs.getD i []) (l:=FX fs i);have c:=UB h i;have d:=h (fs.getD i []) (by rw[AK a];exact wG a);omega
  ·have:FX fs (i+1)=FX fs i:=by unfold FX;rw[List.take_of_length_le (by omega),List.take_of_length_le (by omega)]
   rw[this];have:=UB h i
   omega
theorem qN {w:World}{u:Value}{fs:Jc}(h:BT 2 w u fs) (T:fs.length<=10000) (g:∀s∈fs,s.length<=8) :
  Calls Tryz.prog 57 #[.agg #[u]] w fun e w'=>∃v',e = .returned v'/\AA 83 2 EI w' 0 v' (DB fs).length (DB fs)/\Below w.heap.size w w':=by
 obtain⟨a,c,b,X,rfl,D,z,-⟩:=h;obtain⟨d,f⟩:=AF (w.alloc (.cells #[.slice a fs.length c] 57));have F:Below w.heap.size w d:=by rw[f];exact(wB _ w).alloc (wC _) _
 have B:d.heap[w.heap.size]? = some (.cells #[.slice a fs.length c] 57):=by rw[f];exact wE _ _
 have H:=qH (fun W (E:Below d.heap.size d W)=>AC E (wJ B));have I:=qH z;have C:=qH g;have K:=qH (UB g);have J:Hid (DB fs=FX fs fs.length):=by show _=_;unfold FX DB;rw[List.take_length]
 rw[J.out];have q:Hid (AA 83 2 EI d 0 (.slice none 0 0) (FX fs 0).length (FX fs 0)):=AA.nil _ _;clear B z g;go_enter Tryz.func57, Tryz.ntmps57
 go_wp2_with fail
 rw[<-f];replace f:=qH f;go_loopw [3,4] (fun Q v wr=>∃i:Nat,v = .int .i64 i/\i<=fs.length/\Hid (AA 83 2 EI wr 0 Q (FX fs i).length (FX fs i))/\Below d.heap.size d wr) (fun _ v _=>fs.length - (intOf v).toNat)
 case atStart=>exact⟨0,rfl,by omega,q,wB _ _⟩
 case round=>
  clear q;obtain⟨i,rfl,R,o,r⟩:=hrel;obtain⟨U,V,M⟩:=o.out.shape;subst M;have m:=H.out wr r;have j:=btt F r;by_cases l:i < fs.length
  ·obtain rfl:=D (by omega);have S:(i:Int) < (fs.length:Int):=(by omega);obtain⟨a0,x,k⟩:=I.out i l;replace x:=AC j x;have N:=C.out (fs.getD i []) (by rw[AK l];exact wG l);have L:=K.out i;have n:=bW l rfl;obtain⟨t,A⟩:=AB (fs.getD i []);rw[A] at k N n;obtain⟨O,p⟩:=AB (FX fs i);rw[p] at o n L|-;have P:=qH (pF o.out (k.keep j) (by omega));obtain⟨xa,xc,rfl⟩:=k.shape;replace n:=qH n;clear p A k;go_wp2_with fail
   refine P.out.mono ?_;rintro e Z ⟨Y,rfl,y,G⟩;rw[<-n.out] at y;go_wp2_with fail
   go_roundw
   case rel=>exact⟨i+1,by go_num,l,y,btt r G⟩
   case measure=>simp[intOf];omega
  ·obtain rfl:i=fs.length:=(by omega);clear m;have m:=H.out wr r;go_wp2_with fail
   go_ret;exact⟨_,rfl,o.out,j⟩
theorem qC {w:World}{u v:Value}{l:Jc}{s:Jb}(h:BT 2 w u l) (k:KS 2 w v s) :
  Calls Tryz.prog 66 #[.agg #[u],v] w fun e w'=>e = .returned (.bool (l.any (CJ s)))/\Below w.heap.size w w':=by
 obtain⟨U,V,O⟩:=k.shape;have P:=qH k;obtain⟨F,G,X,Y,rfl,K,D,T⟩:=h;obtain⟨a,b⟩:=AF (w.alloc (.cells #[.slice F l.length G] 57));have M:Below w.heap.size w a:=by rw[b];exact(wB _ w).alloc (wC _) _
 have E:a.heap[w.heap.size]? = some (.cells #[.slice F l.length G] 57):=by rw[b];exact wE _ _
 have I:=qH (fun W (L:Below a.heap.size a W)=>AC L (wJ E));have N:=qH D;have z:Hid ((l.take 0).any (CJ s)=false):=rfl;subst O;clear D k E;go_enter Tryz.func66, Tryz.ntmps66
 go_wp2_with fail
 rw[<-b];replace b:=qH b;go_loopw [5] (fun q wr=>∃i:Nat,q = .int .i64 i/\i<=l.length/\Hid ((l.take i).any (CJ s)=false)/\Below a.heap.size a wr) (fun q _=>l.length - (intOf q).toNat)
 case atStart=>exact⟨0,rfl,by omega,z,wB _ _⟩
 case round=>
  clear z;obtain⟨i,rfl,R,m,r⟩:=hrel;have Q:=I.out wr r;have f:=btt M r;by_cases j:i < l.length
  ·obtain rfl:=K (by omega);have S:(i:Int) < (l.length:Int):=(by omega);obtain⟨x,y,o⟩:=N.out i j;replace y:=AC f y;obtain⟨t,n⟩:=AB (l.getD i []);rw[n] at o;have H:=cI (P.out.keep f) (o.keep f);obtain⟨xa,xc,rfl⟩:=o.shape;have c:=RE (p:=CJ s) j (d:=[]);rw[m.out,n,Bool.false_or] at c;have g:CJ s t=true->l.any (CJ s)=true:=fun e=>PM j (by rw[n];exact e);obtain⟨C,A⟩:=AB (CJ s t);rw[A] at c g H;replace c:=qH c;replace g:=qH g;replace H:=qH H;clear A o m n;go_wp2_with fail
   refine H.out.mono ?_;rintro e Z ⟨rfl,B⟩;cases C
   ·go_wp2_with fail
    go_roundw
    case rel=>exact⟨i+1,by go_num,j,c,btt r B⟩
    case measure=>simp[intOf];omega
   ·go_wp2_with fail
    go_ret;exact⟨by rw[g.out (by first|rfl|trivial)];rfl,btt f B⟩
  ·obtain rfl:i=l.length:=(by omega);have J:Hid (l.any (CJ s)=false):=(by have:=m.out;rw[List.take_length] at this;exact this);clear m;go_wp2_with fail
   go_ret;exact⟨by rw[J.out];rfl,f⟩
end Go.Proofs.YtcnedkkcgdkioaaGreat
