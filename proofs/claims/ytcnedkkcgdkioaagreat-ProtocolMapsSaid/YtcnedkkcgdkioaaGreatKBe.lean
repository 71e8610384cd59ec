/- Texts of this claim, put together: A8 A9 B2. -/
import Derived.Test.YtcnedkkcgdkioaaGreatKBd

set_option maxRecDepth 100000
set_option maxHeartbeats 12800000
namespace Go.Proofs.YtcnedkkcgdkioaaGreat
open Go.RowKit
def eS (len:Nat) (m:List Int):Prop:=m.length=8/\(0<=m.getD 6 0/\m.getD 6 0<=31)/\0<=m.getD 7 0/\m.getD 7 0 < (len:Int)
def PJ (ss:Jc):Prop:=∀s∈ss,∀m∈s,eS ss.length m
def IK (f:Int) (s:Jb):Bool:=s.all fun k=>EK f (k.getD 6 0)
def KB (ss:Jc) (s:Jb):Bool:=s.all fun m=>IK (m.getD 6 0) (ss.getD (m.getD 7 0).toNat [])
def HD (ss:Jc):Bool:=ss.all (KB ss)
theorem PL {α:Type}{f:α->Bool}{l:List α}{k:Nat}(h:k < l.length) {d x:α}(a:l.getD k d=x):(l.drop k).all f=(f x && (l.drop (k+1)).all f):=by rw[OC h d,List.all_cons,a]
theorem RP {α:Type}{f:α->Bool}{l:List α}{k:Nat}(h : ¬k < l.length):(l.drop k).all f=true:=by rw[List.drop_eq_nil_of_le (by omega)];rfl
theorem AO {w:World}{b j:Nat}{cs:Array Value}{t:TypeId}{v:Value}(h:w.heap[b]? = some (.cells cs t)) (a:cs[j]? = some v):w.cell? ⟨b,j,none⟩=some v:=by rw[cell_of_row _ _ j _ _ _ h];exact a
theorem qA {w:World}{v:Value}{n:Int}{ss:Jc}(hA:DC w v n ss) (hl:ss.length<=256) (O:PJ ss):Calls Tryz.prog 211 #[v] w fun e w'=>e = .returned (.bool (HD ss))/\Below w.heap.size w w':=by
 obtain⟨T,rfl,S,u,sb,so,rfl,c4,q,_⟩:=hA;have p:=(wB w.heap.size w).alloc (wC _) (.cells #[.int .i64 n,.slice S ss.length u] 27);have r:=wE w (.cells #[.int .i64 n,.slice S ss.length u] 27);replace q:=q.keep p;obtain⟨L,A⟩:=AF (w.alloc (.cells #[.int .i64 n,.slice S ss.length u] 27));obtain⟨o,C⟩:=AF (w.heap.size);rw[<-A] at p r q;rw[<-C] at r;have a7:=(wD.1 r).1;replace A:=qH A;replace C:=qH C;obtain⟨E,hE⟩:=AB (HD ss);rw[hE];have b9:=qH (show(ss.drop 0).all (KB ss)=E by rw[List.drop_zero];exact hE);replace O:=qH O;clear hE;go_enter Tryz.func211, Tryz.ntmps211
 go_wp2;rw[<-A.out,<-C.out];clear A C;go_loopw [3] (fun T wr=>∃s:Nat,s<=ss.length/\T = .int .i64 s/\Hid ((ss.drop s).all (KB ss)=E)/\Below L.heap.size L wr) (fun T _=>ss.length - (intOf T).toNat)
 case atStart=>exact⟨0,by omega,rfl,b9,wB _ _⟩
 case round=>
  clear b9;obtain⟨s,hs,rfl,g,b⟩:=hrel;have l:=(b.block o a7).trans r;have M:wr.cell? ⟨o,1,none⟩=some (.slice S ss.length u):=AO l rfl;by_cases G:s < ss.length
  ·obtain rfl:=c4 (by omega);obtain⟨a,K⟩:=AB (ss.getD s []);have c3:a∈ss:=(by rw[<-K,AK G];exact wG G);have e7:=K;obtain⟨g8,e3,hu⟩:=q s G;rw[K] at hu;have d:=qH (PL (f:=KB ss) G K);have e1:=qH (O.out a c3);clear K c3 e7;obtain⟨ma,mc,mb,mo,rfl,c1,c2,f8⟩:=hu
   have c0:Hid (((a.drop 0).all (fun m=>IK (m.getD 6 0) (ss.getD (m.getD 7 0).toNat [])) && (ss.drop (s+1)).all (KB ss))=E):=by
    show _=E;rw[List.drop_zero,<-g.out,d.out];rfl
   clear g d;go_wp2;clear M l;go_loopw [4] (fun iv wr=>∃i:Nat,i<=a.length/\iv = .int .i64 i/\Hid (((a.drop i).all (fun m=>IK (m.getD 6 0) (ss.getD (m.getD 7 0).toNat [])) && (ss.drop (s+1)).all (KB ss))=E)/\Below L.heap.size L wr) (fun iv _=>a.length - (intOf iv).toNat)
   case atStart=>exact⟨0,by omega,rfl,c0,b⟩
   case round=>
    clear c0 b;obtain⟨i,hi,rfl,g,b⟩:=hrel;have l:=(b.block o a7).trans r;have M:wr.cell? ⟨o,1,none⟩=some (.slice (some ⟨sb,so,none⟩) ss.length u):=AO l rfl;have e4:=AC b e3;by_cases I:i < a.length
    ·obtain rfl:=c1 (by omega);obtain⟨b0,b1⟩:=c2 i I;obtain⟨d2,P⟩:=AB (a.getD i []);have c7:d2∈a:=(by rw[<-P,AK I];exact wG I);have e8:=e1.out d2 c7;rw[P] at b0 b1;have d:=qH (PL (f:=fun m=>IK (m.getD 6 0) (ss.getD (m.getD 7 0).toNat [])) I P);obtain⟨U,V,X,Y,Z,y5,y,y7,rfl⟩:=CT b0;obtain⟨_,⟨f0,b7⟩,t0,tl⟩:=e8;have f0:0<=y:=f0;have b7:y<=31:=b7;have t0:0<=y7:=t0;have tl:y7 < (ss.length:Int):=tl;obtain⟨t,rfl⟩:∃t:Nat,y7=t:=⟨y7.toNat,by omega⟩;have a':t < ss.length:=(by omega);obtain⟨d3,d4,d5,d6,d7,c5,d9,d'⟩:=(b1.keep b).all8;obtain⟨j,N⟩:=AB (ss.getD t []);obtain⟨u2,e5,c6⟩:=q t a';rw[N] at c6;have e6:=qH (O.out j (by rw[<-N,AK a'];exact wG a'))
     have b':Hid (((j.drop 0).all (fun k=>EK y (k.getD 6 0)) && ((a.drop (i+1)).all (fun m=>IK (m.getD 6 0) (ss.getD (m.getD 7 0).toNat [])) && (ss.drop (s+1)).all (KB ss)))=E):=by
      show _=E;rw[<-g.out,d.out,<-Bool.and_assoc,List.drop_zero];show _=(IK y (ss.getD ((t:Int)).toNat []) && _ && _);rw[Int.toNat_natCast,N];rfl
     clear g d N P c7 b0 b1;obtain⟨ka,kc,kb,ko,rfl,a8,a9,f6⟩:=c6;have x:=b.alloc b.size (.cells #[.int .i64 U,.int .i64 V,.int .i64 X,.int .i64 Y,.int .i64 Z,.int .i64 y5,.int .i64 y,.int .i64 t] 178);have R:=wE wr (.cells #[.int .i64 U,.int .i64 V,.int .i64 X,.int .i64 Y,.int .i64 Z,.int .i64 y5,.int .i64 y,.int .i64 t] 178);obtain⟨W2,B⟩:=AF (wr.alloc (.cells #[.int .i64 U,.int .i64 V,.int .i64 X,.int .i64 Y,.int .i64 Z,.int .i64 y5,.int .i64 y,.int .i64 t] 178));obtain⟨bx,D⟩:=AF (wr.heap.size);rw[<-B] at x R;rw[<-D] at R;have f2:=(wD.1 R).1;replace B:=qH B;replace D:=qH D;clear b;go_wp2;rw[<-B.out,<-D.out];clear B D d3 d4 d5 d6 d7 c5 d9 d' M l e4;go_loopw [6] (fun kv wr=>∃k:Nat,k<=j.length/\kv = .int .i64 k/\Hid (((j.drop k).all (fun k=>EK y (k.getD 6 0)) && ((a.drop (i+1)).all (fun m=>IK (m.getD 6 0) (ss.getD (m.getD 7 0).toNat [])) && (ss.drop (s+1)).all (KB ss)))=E)/\∃b6,wr=W2.drewN b6) (fun kv _=>j.length - (intOf kv).toNat)
     case atStart=>exact⟨0,by omega,rfl,b',0,rfl⟩
     case round=>
      clear b';obtain⟨k,hk,rfl,g,b6,rfl⟩:=hrel;have e2:=wH x b6;have l:=(x.block o a7).trans r;have M:W2.cell? ⟨o,1,none⟩=some (.slice (some ⟨sb,so,none⟩) ss.length u):=AO l rfl;have c8:W2.heap[bx]? = some (.cells #[.int .i64 U,.int .i64 V,.int .i64 X,.int .i64 Y,.int .i64 Z,.int .i64 y5,.int .i64 y,.int .i64 t] 178):=R;have x6:W2.cell? ⟨bx,6,none⟩=some (.int .i64 y):=AO c8 rfl;have x7:W2.cell? ⟨bx,7,none⟩=some (.int .i64 t):=AO c8 rfl;have f3:=AC x e5;by_cases J:k < j.length
      ·obtain rfl:=a8 (by omega);obtain⟨b2,b3⟩:=a9 k J;obtain⟨e',Q⟩:=AB (j.getD k []);have e9:=e6.out e' (by rw[<-Q,AK J];exact wG J);rw[Q] at b2 b3;have d:=qH (PL (f:=fun k=>EK y (k.getD 6 0)) J Q);obtain⟨z0,z1,z2,z3,z4,z5,z,z7,rfl⟩:=CT b2;obtain⟨_,⟨g0,b8⟩,_⟩:=e9;have g0:0<=z:=g0;have b8:z<=31:=b8;obtain⟨_,_,_,_,_,_,f1,_⟩:=(b3.keep x).all8;have H:=fun W=>qF y z W f0 (by omega) g0 (by omega);clear Q b2 b3 a8 a9;by_cases c:EK y z=true
       ·simp only[c] at H;have HQ:=qH (fun W=>(H W).mono fun _ _ (h:_/\_)=>(⟨h.1,0,h.2.symm⟩:_/\Qt _ _));clear H;replace c:=qH c;go_wp2;go_quiet ((go_at_call 243;exact LB (HQ.out _)))
        go_wp2;go_roundw
        case rel=>exact⟨k+1,by omega,by go_num,by show _=E;rw[<-g.out,d.out];show _=(EK y z && _ && _);rw[c.out,Bool.true_and],_,rfl⟩
        case measure=>simp[intOf];omega
       ·replace c:=eq_false_of_ne_true c;simp only[c] at H;have HQ:=qH (fun W=>(H W).mono fun _ _ (h:_/\_)=>(⟨h.1,0,h.2.symm⟩:_/\Qt _ _));clear H;replace c:=qH c;go_wp2;go_quiet ((go_at_call 243;exact LB (HQ.out _)))
        go_wp2;go_ret;exact⟨LC (by rw[<-g.out,d.out];show _=(EK y z && _ && _);rw[c.out,Bool.false_and,Bool.false_and]),wH (wH (bt p x p.size) _) _⟩
      ·obtain rfl:k=j.length:=(by omega);have F:=qH (RP (f:=fun k=>EK y (k.getD 6 0)) J);clear a8 a9;go_wp2;go_roundw
       case rel=>exact⟨i+1,by omega,by go_num,by show _=E;rw[<-g.out,F.out,Bool.true_and],e2⟩
       case measure=>simp[intOf];omega
    ·obtain rfl:i=a.length:=(by omega);have F:=qH (RP (f:=fun m=>IK (m.getD 6 0) (ss.getD (m.getD 7 0).toNat [])) I);clear c1 c2;go_wp2;go_roundw
     case rel=>exact⟨s+1,by omega,by go_num,by show _=E;rw[<-g.out,F.out,Bool.true_and],b⟩
     case measure=>simp[intOf];omega
  ·obtain rfl:s=ss.length:=(by omega);have F:=qH (RP (f:=KB ss) G);clear c4 q;go_wp2;go_ret;exact⟨LC (by rw[<-g.out,F.out]),bt p b p.size⟩
def EU (n:Int) (len:Nat) (m:Jb) (i:Nat):Nat->Int
 | 0=>0
 | k+1=>if EL n len m i ≠ 0 then EL n len m i else EU n len m (i+1) k
def DO (n:Int) (len:Nat) (m:Jb):Int:=if m.length=0 then 19 else EU n len m 0 m.length
def BQ (n:Int) (len:Nat):Jc->Int
 | []=>0
 | s::r=>if DO n len s ≠ 0 then DO n len s else BQ n len r
def BU (n:Int) (ss:Jc):Int:=
 if n < 1\/5 < n then 2 else if ss.length < 1\/256 < ss.length\/4096 < CA ss then 5 else if BQ n ss.length ss ≠ 0 then BQ n ss.length ss else if HD ss then 0 else 21
theorem KC {n:Int}{len:Nat}{m:Jb}{i k:Nat}{e:Int}(h:EL n len m i=e) (a:e ≠ 0):EU n len m i (k+1)=e:=by rw[EU,h,if_pos a]
theorem QM {n:Int}{len:Nat}{m:Jb}{i k:Nat}(h:EL n len m i=0):EU n len m i (k+1)=EU n len m (i+1) k:=by rw[EU,if_neg (fun q=>q h)]
theorem NH {n:Int}{len:Nat}{m:Jb}:∀ {k i:Nat},EU n len m i k=0->∀j,i<=j->j < i+k->EL n len m j=0
 | 0,i,_,j,a,b=>by omega
 | k+1,i,h,j,a,b=>by
  by_cases e:EL n len m i=0
  ·rw[QM e] at h;by_cases c:j=i
   ·subst c;exact e
   ·exact NH h j (by omega) (by omega)
  ·rw[KC rfl e] at h;exact absurd h e
theorem dR {n:Int}{len:Nat}{s:Jb}{r:Jc}{e:Int}(h:DO n len s=e) (a:e ≠ 0):BQ n len (s::r)=e:=by rw[BQ,h,if_pos a]
theorem NO {n:Int}{len:Nat}:∀ {ss:Jc},BQ n len ss=0->∀s∈ss,DO n len s=0
 | [],_,s,hs=>by simp at hs
 | x::r,h,s,hs=>by
  by_cases e:DO n len x=0
  ·rw[BQ,if_neg (fun q=>q e)] at h;rcases List.mem_cons.1 hs with rfl|hs
   ·exact e
   ·exact NO h s hs
  ·rw[BQ,if_pos e] at h;exact absurd h e
theorem SA {n x:Int}(h:GO n x=0):(1<=n/\n<=5)/\0<=x/\x < CD n:=by
 unfold GO at h;by_cases p:FA n ≠ 0
 ·rw[if_pos p] at h;cases h
 ·rw[if_neg p] at h;by_cases b:x < 0\/CD n<=x
  ·rw[if_pos b] at h;cases h
  ·refine⟨?_,by omega⟩;by_cases a:n < 1\/5 < n
   ·exact absurd (show FA n ≠ 0 by rw[FA,if_pos a];decide) p
   ·omega
theorem UY {n:Int}:CD n<=32:=by unfold CD;split;omega;split;omega;split;omega;split;omega;split;omega;omega
theorem RY {r:List Int}(h:EN r=0):GO (r.getD 0 0) (r.getD 6 0)=0:=by
 unfold EN at h;by_cases c:DG (r.getD 0 0) ((r.drop 1).take 5) ≠ 0
 ·rw[if_pos c] at h;exact absurd h c
 ·rwa [if_neg c] at h
theorem OR {n:Int}{len:Nat}{m:Jb}{i:Nat}(h:EL n len m i=0) :
  EN ((m.getD i []).take 7)=0/\(m.getD i []).getD 0 0=n/\(0 < i->AH ((m.getD (i - 1) []).take 7) ((m.getD i []).take 7) < 0)/\0<=(m.getD i []).getD 7 0/\(m.getD i []).getD 7 0 < (len:Int):=by
 unfold EL at h;by_cases a:EN ((m.getD i []).take 7) ≠ 0
 ·rw[if_pos a] at h;exact absurd h a
 rw[if_neg a] at h;by_cases b:(m.getD i []).getD 0 0 ≠ n
 ·rw[if_pos b] at h;cases h
 rw[if_neg b] at h;by_cases c:0 < i/\0<=AH ((m.getD (i - 1) []).take 7) ((m.getD i []).take 7)
 ·rw[if_pos c] at h;cases h
 rw[if_neg c] at h;by_cases d:(m.getD i []).getD 7 0 < 0\/(len:Int)<=(m.getD i []).getD 7 0
 ·rw[if_pos d] at h;cases h
 exact⟨Decidable.not_not.1 a,Decidable.not_not.1 b,fun f=>by
  by_cases e:0<=AH ((m.getD (i - 1) []).take 7) ((m.getD i []).take 7)
  ·exact absurd ⟨f,e⟩ c
  ·omega,by omega,by omega⟩
theorem lA {x:List Int}{j:Nat}(h:j < 7):(x.take 7).getD j 0=x.getD j 0:=by
 rw[List.getD_eq_getElem?_getD,List.getD_eq_getElem?_getD,List.getElem?_take_of_lt h]
theorem dT {n:Int}{ss:Jc}(l:∀s∈ss,∀m∈s,m.length=8) (h:BQ n ss.length ss=0):PJ ss:=by
 intro s i m g;have a:=NO h s i;unfold DO at a;by_cases f:s.length=0
 ·rw[if_pos f] at a;cases a
 rw[if_neg f] at a;obtain⟨j,o,rfl⟩:=List.mem_iff_getElem.1 g;obtain⟨c,_,_,b,d⟩:=OR (NH a j (by omega) (by omega));rw[AK o] at c b d;obtain⟨_,e,k⟩:=SA (RY c);rw[lA (by decide)] at e k;have:=UY (n:=(s[j].take 7).getD 0 0)
 exact⟨l s i _ g,⟨e,by omega⟩,b,d⟩
theorem DC.len8 {w:World}{v:Value}{n:Int}{ss:Jc}(h:DC w v n ss):∀s∈ss,∀m∈s,m.length=8:=by
 obtain⟨q,_,k,o,l,p,_,_,f,_⟩:=h;intro s e m d;obtain⟨j,a,rfl⟩:=List.mem_iff_getElem.1 e;obtain⟨u,_,g⟩:=f j a;obtain⟨_,_,_,_,_,_,c,_⟩:=g;obtain⟨i,b,rfl⟩:=List.mem_iff_getElem.1 d;have:=(c i (by rw[AK a];exact b)).1
 rwa [AK a,AK b] at this
theorem pK {w:World}{v:Value}{n:Int}{ss:Jc}(R:DC w v n ss):Calls Tryz.prog 168 #[v] w fun e w'=>e = .returned (.int .i64 (BU n ss))/\Below w.heap.size w w':=by
 have h8:=R.len8;have b5:=R;obtain⟨Q,rfl,I,A,sb,so,rfl,a0,j,d4⟩:=b5;have a:=(wB w.heap.size w).alloc (wC _) (.cells #[.int .i64 n,.slice I ss.length A] 27);have p:=wE w (.cells #[.int .i64 n,.slice I ss.length A] 27);have L:=R.keep a;replace j:=j.keep a;obtain⟨o,d⟩:=AF (w.alloc (.cells #[.int .i64 n,.slice I ss.length A] 27));obtain⟨l,c⟩:=AF (w.heap.size);rw[<-d] at a p j L;rw[<-c] at p;have a7:=(wD.1 p).1;have J:o.cell? ⟨l,0,none⟩=some (.int .i64 n):=AO p rfl;have K:o.cell? ⟨l,1,none⟩=some (.slice I ss.length A):=AO p rfl;have B:Below l w o:=c▸a;replace d:=qH d;replace c:=qH c;by_cases F:n < 1\/5 < n
 ·have h:=qH (show BU n ss=2 by rw[BU,if_pos F]);by_cases b0:n < 1
  ·have b1:decide (n < 1)=true:=vZ b0;clear j;go_enter Tryz.func168, Tryz.ntmps168
   go_wp2;rw[<-d.out,<-c.out];clear d c;go_wp2;go_ret;first|exact⟨AM h.out.symm,a⟩|exact⟨AM h.out.symm,B⟩
  ·have b1:decide (n < 1)=false:=vY b0;have c2:decide (5 < n)=true:=vZ (by omega);clear j;go_enter Tryz.func168, Tryz.ntmps168
   go_wp2;rw[<-d.out,<-c.out];clear d c;go_wp2;go_ret;first|exact⟨AM h.out.symm,a⟩|exact⟨AM h.out.symm,B⟩
 ·have b1:decide (n < 1)=false:=vY (by omega);have c2:decide (5 < n)=false:=vY (by omega);by_cases b7:ss.length < 1
  ·have h:=qH (show BU n ss=5 by rw[BU,if_neg F,if_pos (.inl b7)]);have b8:decide ((ss.length:Int) < 1)=true:=vZ (by omega);clear j;go_enter Tryz.func168, Tryz.ntmps168
   go_wp2;rw[<-d.out,<-c.out];clear d c;go_wp2;go_ret;first|exact⟨AM h.out.symm,a⟩|exact⟨AM h.out.symm,B⟩
  ·have b8:decide ((ss.length:Int) < 1)=false:=vY (by omega);by_cases b9:256 < ss.length
   ·have h:=qH (show BU n ss=5 by rw[BU,if_neg F,if_pos (.inr (.inl b9))]);have b':decide (256 < (ss.length:Int))=true:=vZ (by omega);clear j;go_enter Tryz.func168, Tryz.ntmps168
    go_wp2;rw[<-d.out,<-c.out];clear d c;go_wp2;go_ret;first|exact⟨AM h.out.symm,a⟩|exact⟨AM h.out.symm,B⟩
   ·have b':decide (256 < (ss.length:Int))=false:=vY (by omega);have U:ss.length<=256:=(by omega);have C:=cJ L U;obtain⟨M,hM⟩:=AB (CA ss);rw[hM] at C;replace C:=qH C;by_cases hm:4096 < M
    ·have h:=qH (show BU n ss=5 by rw[BU,if_neg F,if_pos (.inr (.inr (by omega)))]);have c1:decide (4096 < (M:Int))=true:=vZ (by omega);clear j;go_enter Tryz.func168, Tryz.ntmps168
     go_wp2_with fail
     rw[<-d.out,<-c.out];clear d c;go_wp2_with fail
     refine C.out.mono ?_;rintro e w1 ⟨rfl,D⟩;go_wp2;go_ret;first|exact⟨AM h.out.symm,bt a D a.size⟩|exact⟨AM h.out.symm,bt B D B.size⟩
    ·have c1:decide (4096 < (M:Int))=false:=vY (by omega);obtain⟨G,S⟩:=AB (BU n ss);rw[S];have f:(if BQ n ss.length ss ≠ 0 then BQ n ss.length ss else if HD ss then 0 else 21)=G:=(by rw[<-S,BU,if_neg F,if_neg (show ¬(ss.length < 1\/256 < ss.length\/4096 < CA ss) by omega)]);have P:BQ n ss.length ss=0->PJ ss:=dT h8;replace P:=qH P;replace f:=qH f;have a6:Hid (BQ n ss.length (ss.drop 0)=BQ n ss.length ss):=rfl;clear S;go_enter Tryz.func168, Tryz.ntmps168
     go_wp2_with fail
     rw[<-d.out,<-c.out];clear d c;go_wp2_with fail
     refine C.out.mono ?_;rintro e w1 ⟨rfl,D⟩;go_wp2;clear J K;go_loopw [3] (fun Q wr=>∃s:Nat,s<=ss.length/\Q = .int .i64 s/\Hid (BQ n ss.length (ss.drop s)=BQ n ss.length ss)/\Below o.heap.size o wr) (fun Q _=>ss.length - (intOf Q).toNat)
     case atStart=>exact⟨0,by omega,rfl,a6,D⟩
     case round=>
      clear a6 D;obtain⟨s,hs,rfl,g,b⟩:=hrel;have y:=(b.block l a7).trans p;have K:wr.cell? ⟨l,1,none⟩=some (.slice I ss.length A):=AO y rfl;have J:wr.cell? ⟨l,0,none⟩=some (.int .i64 n):=AO y rfl;by_cases Y:s < ss.length
      ·obtain rfl:=a0 (by omega);obtain⟨m,Z⟩:=AB (ss.getD s []);obtain⟨c9,a8,u⟩:=(j.keep b) s Y;rw[Z] at u;have r:=OC Y ([]:Jb);rw[Z] at r;have a1:=u;obtain⟨ma,mc,mb,mo,rfl,q,t,a'⟩:=a1;by_cases x:m.length=0
       ·have b2:((m.length:Int) == 0)=true:=(by simp[x]);have X:BQ n ss.length ss=19:=(by rw[<-g.out,r];exact dR (by rw[DO,if_pos x]) (by decide));have h:=qH (show G=19 by rw[<-f.out,if_pos (by rw[X];decide),X]);clear X f r g q t u j a0 x;go_wp2;go_ret;exact⟨AM h.out.symm,bt a b a.size⟩
       ·have b2:((m.length:Int) == 0)=false:=by
         have : ¬((m.length:Int)=0):=(by omega);exact beq_eq_false_iff_ne.2 this
        have a9:Hid ((if EU n ss.length m 0 (m.length - 0) ≠ 0 then EU n ss.length m 0 (m.length - 0) else BQ n ss.length (ss.drop (s+1)))=BQ n ss.length ss):=by
         show _=_;rw[<-g.out,r,BQ,DO,if_neg x];rfl
        replace r:=qH r;replace x:=qH x;clear g;go_wp2;clear J K y;go_loopw [4] (fun iv wr=>∃i:Nat,i<=m.length/\iv = .int .i64 i/\Hid ((if EU n ss.length m i (m.length - i) ≠ 0 then EU n ss.length m i (m.length - i) else BQ n ss.length (ss.drop (s+1)))=BQ n ss.length ss)/\Below o.heap.size o wr) (fun iv _=>m.length - (intOf iv).toNat)
        case atStart=>exact⟨0,by omega,rfl,a9,b⟩
        case round=>
         clear a9 a8 u q t a' b b2;obtain⟨i,hi,rfl,g,b⟩:=hrel;obtain⟨c9,a8,u⟩:=(j.keep b) s Y;rw[Z] at u;have a1:=u;obtain⟨ma,mc,mb,mo,rfl,q,t,a'⟩:=a1;have y:=(b.block l a7).trans p;have K:wr.cell? ⟨l,1,none⟩=some (.slice (some ⟨sb,so,none⟩) ss.length A):=AO y rfl;have J:wr.cell? ⟨l,0,none⟩=some (.int .i64 n):=AO y rfl;by_cases c0:i < m.length
         ·have V:=fun W (N:Below wr.heap.size wr W)=>qJ ((L.keep b).keep N) (u.keep N) c0 U;obtain⟨e,E⟩:=AB (EL n ss.length m i);rw[E] at V;replace V:=qH V;have O:m.length - i=(m.length - (i+1))+1:=(by omega);by_cases z:e=0
          ·subst z
           have T:Hid ((if EU n ss.length m (i+1) (m.length - (i+1)) ≠ 0 then EU n ss.length m (i+1) (m.length - (i+1)) else BQ n ss.length (ss.drop (s+1)))=BQ n ss.length ss):=by
            show _=_;rw[<-g.out,O,QM E]
           clear g E u q t O;go_wp2;go_still_tail 7,(by kernel_rfl)
           change wpList _ _ _ _ _ wr.drew;go_wp2_with fail
           refine(V.out _ (wB _ _).drew).mono ?_;rintro e w2 ⟨rfl,k⟩;replace k:=bt b (KK k) b.size;go_wp2;go_roundw
           case rel=>exact⟨i+1,by omega,by go_num,T,k⟩
           case measure=>simp[intOf];omega
          ·have d0:(e != 0)=true:=(by simpa using z);have X:BQ n ss.length ss=e:=(by rw[<-g.out,O,KC E z,if_pos z]);have h:=qH (show G=e by rw[<-f.out,if_pos (by rw[X];exact z),X]);clear g E u q t O X f z;go_wp2;go_still_tail 7,(by kernel_rfl)
           change wpList _ _ _ _ _ wr.drew;go_wp2_with fail
           refine(V.out _ (wB _ _).drew).mono ?_;rintro e w2 ⟨rfl,k⟩;replace k:=bt b (KK k) b.size;go_wp2;go_ret;exact⟨AM h.out.symm,bt a k a.size⟩
         ·obtain rfl:i=m.length:=by omega
          have T:Hid (BQ n ss.length (ss.drop (s+1))=BQ n ss.length ss):=by
           show _=_;rw[<-g.out,Nat.sub_self,EU,if_neg (by decide)]
          clear g u q t;go_wp2;go_roundw
          case rel=>exact⟨s+1,by omega,by go_num,T,b⟩
          case measure=>simp[intOf];omega
      ·obtain rfl:s=ss.length:=(by omega);have X:BQ n ss.length ss=0:=(by rw[<-g.out,List.drop_length,BQ]);have H:=fun W (N:Below wr.heap.size wr W)=>qA ((L.keep b).keep N) U (P.out X);rw[X,if_neg (by decide)] at f;clear g X P j a0;obtain⟨b3,hB⟩:=AB (HD ss);rw[hB] at H f;replace H:=qH H;clear hB;by_cases a5:b3=true
       ·subst a5;have h:=qH (show G=0 from f.out.symm);clear f;go_wp2_with fail
        refine(H.out _ (wB _ _)).mono ?_;rintro e w2 ⟨rfl,k⟩;go_wp2;go_ret;exact⟨AM h.out.symm,bt a (bt b k b.size) a.size⟩
       ·obtain rfl:=eq_false_of_ne_true a5;have h:=qH (show G=21 from f.out.symm);clear f;go_wp2_with fail
        refine(H.out _ (wB _ _)).mono ?_;rintro e w2 ⟨rfl,k⟩;go_wp2;go_ret;exact⟨AM h.out.symm,bt a (bt b k b.size) a.size⟩
theorem GJ {w:World}{b:Nat}{t:TypeId}{u0 u1:Value}(h:w.heap[b]? = some (.cells #[u0,u1] t)):w.cell? ⟨b,0,none⟩=some u0/\w.cell? ⟨b,1,none⟩=some u1:=⟨AO h rfl,AO h rfl⟩
theorem KL {w:World}{b:Nat}{t:TypeId}{u0 u1 u2 u3 u4 u5 u6 u7:Value}(h:w.heap[b]? = some (.cells #[u0,u1,u2,u3,u4,u5,u6,u7] t)) :
  w.cell? ⟨b,0,none⟩=some u0/\w.cell? ⟨b,1,none⟩=some u1/\w.cell? ⟨b,2,none⟩=some u2/\w.cell? ⟨b,3,none⟩=some u3/\w.cell? ⟨b,4,none⟩=some u4/\w.cell? ⟨b,5,none⟩=some u5/\w.cell? ⟨b,6,none⟩=some u6/\w.cell? ⟨b,7,none⟩=some u7:=
 ⟨AO h rfl,AO h rfl,AO h rfl,AO h rfl,AO h rfl,AO h rfl,AO h rfl,AO h rfl⟩
theorem tV {w:World}{v mv:Value}{n:Int}{ss:Jc}{m:Jb}(hA:DC w v n ss) (hM:KS 8 w mv m) (_hl:ss.length<=256) :
  Calls Tryz.prog 218 #[v,mv] w fun e w'=>e = .returned (.int .i64 (DO n ss.length m))/\Below w.heap.size w w':=by
 obtain⟨sv,rfl,sa,sc,sb,so,rfl,g0,g1,_⟩:=hA;obtain⟨ma,mc,mb,mo,rfl,f9,a5,h1⟩:=hM;have b:=(wB w.heap.size w).alloc (wC _) (.cells #[.int .i64 n,.slice sa ss.length sc] 27);have L:=wE w (.cells #[.int .i64 n,.slice sa ss.length sc] 27);obtain⟨D,W⟩:=AF (w.alloc (.cells #[.int .i64 n,.slice sa ss.length sc] 27));obtain⟨b0,B⟩:=AF (w.heap.size);rw[<-W] at b L;rw[<-B] at L;have b4:=(wD.1 L).1;replace a5:CK 8 D mb mo m:=a5.keep b;obtain⟨G,f⟩:=AB (DO n ss.length m);have f6:Below b0 w D:=B▸b;replace W:=qH W;replace B:=qH B;clear g0 g1;by_cases z:m.length=0
 ·have d4:((m.length:Int) == 0)=true:=by simp[z]
  have E:=qH (show DO n ss.length m=19 by rw[DO,if_pos z]);clear z f;go_enter Tryz.func218, Tryz.ntmps218
  go_wp2;rw[<-W.out,<-B.out];clear W B;go_wp2;go_ret;first|exact⟨AM E.out.symm,b⟩|exact⟨AM E.out.symm,f6⟩
 ·have d4:((m.length:Int) == 0)=false:=by
   have : ¬((m.length:Int)=0):=(by omega);exact beq_eq_false_iff_ne.2 this
  have d2:Hid (EU n ss.length m 0 (m.length - 0)=G):=by show _=_;rw[<-f,DO,if_neg z];rfl
  replace f:=qH f;clear z;go_enter Tryz.func218, Tryz.ntmps218
  go_wp2;rw[<-W.out,<-B.out];clear W B;go_wp2;go_loopw [13] (fun iv wr=>∃i:Nat,i<=m.length/\iv = .int .i64 i/\Hid (EU n ss.length m i (m.length - i)=G)/\Below D.heap.size D wr) (fun iv _=>m.length - (intOf iv).toNat)
  case atStart=>exact⟨0,by omega,rfl,d2,wB _ _⟩
  case round=>
   clear d2;obtain⟨i,hi,rfl,h,P⟩:=hrel;have k1:=(P.block b0 b4).trans L;by_cases f8:i < m.length
   ·obtain rfl:=f9 (by omega);obtain⟨b5,b6⟩:=a5 i f8;obtain⟨h9,x⟩:=AB (m.getD i []);rw[x] at b5 b6;obtain⟨d,g,k,l,o,p,r,y,rfl⟩:=CT b5;obtain⟨c0,c1,c2,c3,c4,c5,e5,e6⟩:=(b6.keep P).all8;have a4:m.length - i=(m.length - (i+1))+1:=(by omega);rw[a4] at h;clear b5 b6 a4;replace x:=qH x;obtain⟨a9,E⟩:=AB (EN [d,g,k,l,o,p,r]);have HC:=fun a'=>sA d g k l o p r a';rw[E] at HC;replace HC:=qH HC;replace E:=qH E;obtain⟨W2,I⟩:=AF (wr.alloc (.cells #[.int .i64 d,.int .i64 g,.int .i64 k,.int .i64 l,.int .i64 o,.int .i64 p,.int .i64 r,.int .i64 y] 178));obtain⟨b2,N⟩:=AF (wr.heap.size);have d1:Below D.heap.size D W2:=(by rw[I];exact P.alloc P.size _);have m0:W2.heap[b2]? = some (.cells #[.int .i64 d,.int .i64 g,.int .i64 k,.int .i64 l,.int .i64 o,.int .i64 p,.int .i64 r,.int .i64 y] 178):=(by rw[I,N];exact wE _ _);have c':=(wD.1 m0).1;obtain⟨p0,p1,p2,p3,p4,p5,p6,p7⟩:=KL m0;replace I:=qH I;replace N:=qH N;go_wp2_with fail
    rw[<-I.out,<-N.out];clear I N c0 c1 c2 c3 c4 c5 e5 e6;go_wp2_with fail
    clear p0 p1 p2 p3 p4 p5 p6 p7;refine(HC.out _).mono ?_;rintro e w3 ⟨rfl,d0⟩;have u:=bt d1 d0 d1.size;have M:=(u.block b0 b4).trans L;have R:=(d0.block b2 c').trans m0;have f5:=(wD.1 R).1;obtain⟨g8,e7⟩:=GJ M;obtain⟨p0,p1,p2,p3,p4,p5,p6,p7⟩:=KL R;clear k1 m0 c';by_cases z:a9=0
    ·subst z;have h2:((0:Int) != 0)=false:=rfl;by_cases s:d=n
     ·have f':(d != n)=false:=(by simp[s]);replace s:=qH s;by_cases a3:0 < i
      ·have a4:decide (0 < i)=true:=vZ a3;obtain⟨b7,a6⟩:=a5 (i - 1) (by omega);obtain⟨h',K⟩:=AB (m.getD (i - 1) []);rw[K] at b7 a6;obtain⟨S,T,U,V,X,Y,Z,z7,rfl⟩:=CT b7;obtain⟨j,rfl⟩:∃j,i=j+1:=⟨i - 1,by omega⟩;rw[Nat.add_sub_cancel] at a6 K;have HM:=fun a'=>sB S T U V X Y Z d g k l o p r a';obtain⟨C,H⟩:=AB (AH [S,T,U,V,X,Y,Z] [d,g,k,l,o,p,r]);rw[H] at HM;replace HM:=qH HM;replace H:=qH H;replace K:=qH K;obtain⟨e0,e1,e2,e3,e4,f1,f2,_⟩:=(a6.keep u).all8;have g2:IntKind.i64.wrap (j:Int)=(j:Int):=IntWalk.i64_in _ (by omega);have g':(0:Int)<=(j:Int):=Int.natCast_nonneg _;have h0:(j:Int) < (m.length:Int):=by omega
       have a:Hid (EL n ss.length m (j+1)=if 0<=C then 14 else if y < 0\/(ss.length:Int)<=y then 2 else 0):=by
        show _=_;have d3:m.getD (j+1 - 1) [] = [S,T,U,V,X,Y,Z,z7]:=(by rw[Nat.add_sub_cancel];exact K.out);by_cases c:0<=C
        ·rw[if_pos c];exact aF x.out d3 E.out s.out (by omega) (by show 0<=AH [S,T,U,V,X,Y,Z] [d,g,k,l,o,p,r];rw[H.out];exact c)
        ·have J : ¬(0 < j+1/\0<=AH ((m.getD (j+1 - 1) []).take 7) ([d,g,k,l,o,p,r,y].take 7)):=fun b9=>by
          have k2:=b9.2;rw[d3] at k2;have M:0<=AH [S,T,U,V,X,Y,Z] [d,g,k,l,o,p,r]:=k2;rw[H.out] at M;exact c M
         rw[if_neg c];by_cases A:y < 0\/(ss.length:Int)<=y
         ·rw[if_pos A];exact NG x.out E.out s.out J A
         ·rw[if_neg A];exact QL x.out E.out s.out J A
       clear b7 a6 K H;go_wp2;go_still_tail 11,(by kernel_rfl)
       change wpList _ _ _ _ _ w3.drew;clear g2;go_wp2_with fail
       clear p0 p1 p2 p3 p4 p5 p6 p7 e0 e1 e2 e3 e4 f1 f2;refine(HM.out _).mono ?_;rintro e w4 ⟨rfl,O⟩;replace O:=KK O;have Q:=bt u O u.size;have m4:=(O.block b2 f5).trans R;have k4:=(Q.block b0 b4).trans L;obtain⟨_,_,_,_,_,_,_,p7⟩:=KL m4;obtain⟨_,e7⟩:=GJ k4;clear m4 k4 R M O u;by_cases c:0<=C
       ·have f7:decide (0<=C)=true:=vZ c;have F:=qH (show DO n ss.length m=14 by rw[f.out,<-h.out,KC (a.out.trans (if_pos c)) (by decide)]);clear a h c;go_wp2;go_ret;exact⟨AM F.out.symm,bt b Q b.size⟩
       ·have f7:decide (0<=C)=false:=vY c;by_cases q:y < 0
        ·have c6:decide (y < 0)=true:=vZ q;have F:=qH (show DO n ss.length m=2 by rw[f.out,<-h.out,KC (a.out.trans ((if_neg c).trans (if_pos (.inl q)))) (by decide)]);clear a h c q;go_wp2;go_ret;exact⟨AM F.out.symm,bt b Q b.size⟩
        ·have c6:decide (y < 0)=false:=vY q;by_cases t:(ss.length:Int)<=y
         ·have c7:decide ((ss.length:Int)<=y)=true:=vZ t;have F:=qH (show DO n ss.length m=2 by rw[f.out,<-h.out,KC (a.out.trans ((if_neg c).trans (if_pos (.inr t)))) (by decide)]);clear a h c q t;go_wp2;go_ret;exact⟨AM F.out.symm,bt b Q b.size⟩
         ·have c7:decide ((ss.length:Int)<=y)=false:=vY t;have F:Hid (EU n ss.length m (j+1+1) (m.length - (j+1+1))=G):=(by show _=_;rw[<-h.out,QM (a.out.trans ((if_neg c).trans (if_neg (by omega))))]);clear a h c q t;go_wp2;go_roundw
          case rel=>exact⟨j+1+1,by omega,by go_num,F,Q⟩
          case measure=>simp[intOf];omega
      ·have a4:decide (0 < i)=false:=vY a3;have J : ¬(0 < i/\0<=AH ((m.getD (i - 1) []).take 7) ([d,g,k,l,o,p,r,y].take 7)):=fun b9=>a3 b9.1
       have a:Hid (EL n ss.length m i=if y < 0\/(ss.length:Int)<=y then 2 else 0):=by
        show _=_;by_cases A:y < 0\/(ss.length:Int)<=y
        ·rw[if_pos A];exact NG x.out E.out s.out J A
        ·rw[if_neg A];exact QL x.out E.out s.out J A
       clear J a3 R M;go_wp2;go_quiet (fail)
       by_cases q:y < 0
       ·have c6:decide (y < 0)=true:=vZ q;have F:=qH (show DO n ss.length m=2 by rw[f.out,<-h.out,KC (a.out.trans (if_pos (.inl q))) (by decide)]);clear a h q;go_wp2;go_ret;exact⟨AM F.out.symm,wH (bt b u b.size) _⟩
       ·have c6:decide (y < 0)=false:=vY q;by_cases t:(ss.length:Int)<=y
        ·have c7:decide ((ss.length:Int)<=y)=true:=vZ t;have F:=qH (show DO n ss.length m=2 by rw[f.out,<-h.out,KC (a.out.trans (if_pos (.inr t))) (by decide)]);clear a h q t;go_wp2;go_ret;exact⟨AM F.out.symm,wH (bt b u b.size) _⟩
        ·have c7:decide ((ss.length:Int)<=y)=false:=vY t;have F:Hid (EU n ss.length m (i+1) (m.length - (i+1))=G):=(by show _=_;rw[<-h.out,QM (a.out.trans (if_neg (by omega)))]);clear a h q t;go_wp2;go_roundw
         case rel=>exact⟨i+1,by omega,by go_num,F,wH u _⟩
         case measure=>simp[intOf];omega
     ·have f':(d != n)=true:=(by simpa using s);have F:=qH (show DO n ss.length m=22 by rw[f.out,<-h.out,KC (aE x.out E.out s) (by decide)]);clear h x E s;go_wp2;go_ret;exact⟨AM F.out.symm,bt b u b.size⟩
    ·have d4:(a9 != 0)=true:=by simpa using z
     have F:=qH (show DO n ss.length m=a9 by
      rw[f.out,<-h.out];have e1:=aD (n:=n) (len:=ss.length) x.out (by rw[show([d,g,k,l,o,p,r,y]:List Int).take 7 = [d,g,k,l,o,p,r] from rfl,E.out];exact z);exact KC (e1.trans E.out) z)
     clear h x E z;go_wp2;go_ret;exact⟨AM F.out.symm,bt b u b.size⟩
   ·obtain rfl:i=m.length:=(by omega);have F:=qH (show DO n ss.length m=0 by rw[f.out,<-h.out,Nat.sub_self,EU]);clear h;go_wp2;go_ret;exact⟨AM F.out.symm,bt b P b.size⟩
end Go.Proofs.YtcnedkkcgdkioaaGreat
