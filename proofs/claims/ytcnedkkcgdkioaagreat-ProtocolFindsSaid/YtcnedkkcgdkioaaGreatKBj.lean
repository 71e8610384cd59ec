/- Texts of this claim, put together: G2 G3 AP G5 V0 V1 TH. -/
import Derived.Deep.RegionHeld3
import Derived.Deep.DeepCutAuto
import Derived.Deep.AppendLies
import Derived.Test.YtcnedkkcgdkioaaGreatKBi

set_option maxRecDepth 100000
set_option maxHeartbeats 12800000
namespace Go.Proofs.YtcnedkkcgdkioaaGreat
open Go.RowKit
section
variable {κ:Type} [DecidableEq κ]
end
theorem OI.form {w:World}{B:Nat}{v:Value}{n:Nat}{xs:List Int}(h:OI w B v n xs) (e:0 < n):∃g cap,v = .slice (some ⟨g,0,none⟩) n cap/\B<=g:=by
 have l:=h.length;rcases h.2 with⟨rfl,d⟩|⟨g,cap,c,a,b,_⟩
 ·omega
 ·exact⟨g,cap,a,b⟩
end Go.Proofs.YtcnedkkcgdkioaaGreat
namespace Go.Proofs.YtcnedkkcgdkioaaGreat
open Go.RowKit
theorem ES.ofCls {ss:Jc}(h:JM ss):ES ss:=fun s b m a=>((h.2.2.2 s b).2 m a).2.2
end Go.Proofs.YtcnedkkcgdkioaaGreat
namespace Go.Proofs.YtcnedkkcgdkioaaGreat
open Go.RowKit
def IW (w:World) (v v':Value):Prop:=v'.ownBlock=v.ownBlock\/v'.ownBlock=some w.heap.size
section
variable {α:Type} {E:TypeId} {k:Nat} {El:World->List Value->α->Prop} {B n:Nat} {v:Value} {xs:List α}
theorem UO {P:Program}{T ty:TypeId}{z:Value}{bytes:Nat}(e:EA P T E z k bytes) (y:bytes<=128) (f:0 < k) (S:CP E El) {w:World}{cs:List Value}{x:α}
  (F:AA E k El w B v n xs) (d:Addr) (c:Nat) (r:cs.length=k) (D:∀j u,cs[j]? = some u->w.cell? (d.add j)=some u) (l:∀u∈cs,u.oneCell'=true) (p:El w cs x) (U:n<=1000000000000) (i:B<=w.heap.size) :
  ∃v' w',(Builtin.append_ #[T,T] ty #[v,.slice (some d) 1 c]).run P w = .ok v' w'/\AA E k El w' B v' (n+1) (xs ++ [x])/\w.grownBy w' v.ownBlock/\IW w v v'/\Below B w w'/\AE E w w':=by
 obtain⟨L,t,I,J,K⟩:=info_parts e.2.1;obtain⟨s,b,M,N,O⟩:=F;have H:s.length=n * k:=b.1
 have q:(n+1) * bytes<=140737488355328:=by
  have:(n+1) * bytes<=1000000000001 * 128:=Nat.mul_le_mul (by omega) y
  omega
 obtain⟨v',w',G,m,g,_,o⟩:=run_append_own_at (P:=P) w B T ty E L z k bytes e.1 t I J K e.2.2 f v n s b d 1 c cs (by simpa using r) D l (by unfold maxLen;omega) q i;have X:AE E w w':=AE.own b g;refine⟨v',w',G,⟨s++cs,m,by simp[M],?_,fun j Q h=>?_⟩,g,o,(wB B w).grown g i (fun k f=>(b.lt k f).1),X⟩
 ·intro u a;rcases List.mem_append.1 a with a|a
  ·exact N u a
  ·exact l u a
 ·by_cases C:j < n
  ·rw[List.getElem?_append_left (by omega)] at h;have R:j * k+k<=n * k:=(by rw[<-Nat.succ_mul];exact Nat.mul_le_mul_right _ C);rw[List.drop_append_of_le_length (by omega),List.take_append_of_le_length (by rw[List.length_drop];omega)];exact S _ _ _ _ (O j Q h) X
  ·rw[List.getElem?_append_right (by omega)] at h
   have A:j - xs.length=0:=by
    have:=(List.getElem?_eq_some_iff.1 h).1
    simpa using this
   rw[A] at h;simp only[List.getElem?_cons_zero,Option.some.injEq] at h;subst h;obtain rfl:j=n:=(by omega);rw[<-H,List.drop_left,List.take_of_length_le (by omega)];exact S _ _ _ _ p X
theorem KF {P:Program}{T:TypeId}{z:Value}{bytes:Nat}(m:EA P T E z k bytes) (q:bytes<=128) (A:0 < k) (S:CP E El) {w:World}{cs:List Value}{x:α}{o:Oper}{a:Act}{K:Act->World->Prop}{Q:Exit->Act->World->Prop}(s y:Operand)
  (F:o.op = .call { callee:=.builtin .append,args:=#[s,y],argTypes:=#[T,T] }) (hs:a.eval s=v) (G:AA E k El w B v n xs) (d:Addr) (c:Nat) (I:a.eval y = .slice (some d) 1 c) (t:cs.length=k)
  (D:∀j u,cs[j]? = some u->w.cell? (d.add j)=some u) (r:∀u∈cs,u.oneCell'=true) (p:El w cs x) (C:n<=1000000000000) (l:B<=w.heap.size)
  (h:∀v' w',AA E k El w' B v' (n+1) (xs ++ [x])->w.grownBy w' v.ownBlock->IW w v v'->Below B w w'->AE E w w'->K (a.put o.dst v') w'):o.wp P a w K Q:=by
 obtain⟨v',w',H,b,e,f,g,i⟩:=UO (P:=P) (ty:=o.type) m q A S G d c t D r p C l;unfold Oper.wp execOp;simp only[F,resolve,invoke,builtin,Sem.run_bind,Sem.run_pure,Result.andThen_ok,List.map_toArray,List.map_cons,List.map_nil,hs,I,H];exact h v' w' b e f g i
theorem tX {P:Program}{T:TypeId}{z:Value}{bytes:Nat}(e:EA P T E z k bytes) (f:bytes<=128) (p:0 < k) (S:CP E El) {w:World}{cs:List Value}{x:α}{D:Array Oper}{o:Oper}{a:Act}{K:Act->World->Prop}{Q:Exit->Act->World->Prop}{R:Prop}(m:o.guard=none) (s y:Operand)
  (t:o.op = .call { callee:=.builtin .append,args:=#[s,y],argTypes:=#[T,T] }) (hs:a.eval s=v) (A:AA E k El w B v n xs) (d:Addr) (c:Nat) (C:a.eval y = .slice (some d) 1 c) (i:cs.length=k)
  (r:∀j u,cs[j]? = some u->w.cell? (d.add j)=some u) (g:∀u∈cs,u.oneCell'=true) (l:El w cs x) (q:n<=1000000000000) (b:B<=w.heap.size)
  (h:∀v' w',AA E k El w' B v' (n+1) (xs ++ [x])->w.grownBy w' v.ownBlock->IW w v v'->Below B w w'->AE E w w'->K (a.put o.dst v') w') :
  if Region.wanted o (yielded D a.tmps)=true then Oper.wp P o a w K Q else R:=by
 rw[if_pos (by simp[Region.wanted,m])];exact KF e f p S s y t hs A d c C i r g l q b h
end
def LJ (_:World) (cs:List Value) (x:Int):Prop:=cs = [.int .i64 x]
theorem LJ.stab (E:TypeId):CP E LJ:=fun _ _ _ _ h _=>h
theorem XU:EA Tryz.prog 48 3 (.int .i64 0) 1 8:=⟨by kernel_rfl,by kernel_rfl,rfl⟩
theorem OI.owx {w:World}{B:Nat}{v:Value}{n:Nat}{xs:List Int}(h:OI w B v n xs):AA 3 1 LJ w B v n xs:=by
 refine⟨xs.map (Value.int .i64),h,h.length,fun u b=>?_,fun j x a=>?_⟩
 ·obtain⟨x,_,rfl⟩:=List.mem_map.1 b;rfl
 ·show _=_;rw[Nat.mul_one,<-List.map_drop,<-List.map_take];have l:=(List.getElem?_eq_some_iff.1 a).1;have c:xs[j]=x:=(List.getElem?_eq_some_iff.1 a).2;rw[List.drop_eq_getElem_cons l,c];rfl
theorem AA.oi {w:World}{B:Nat}{v:Value}{n:Nat}{xs:List Int}(h:AA 3 1 LJ w B v n xs):OI w B v n xs:=by
 obtain⟨s,a,f,_,b⟩:=h
 have:s=xs.map (Value.int .i64):=by
  have l:s.length=n:=by have:=a.1;simpa using this
  refine List.ext_getElem (by simp;omega) fun j c d=>?_;have x:j < xs.length:=by simpa using d
  have:=b j xs[j] (List.getElem?_eq_getElem x)
  have e:((s.drop (j * 1)).take 1) = [Value.int .i64 xs[j]]:=this;rw[Nat.mul_one,List.drop_eq_getElem_cons c,List.take_succ_cons,List.take_zero] at e;rw[List.getElem_map];exact(List.cons.inj e).1
 subst this;exact a
theorem OI.other {w w':World}{E:TypeId}{B:Nat}{v:Value}{n:Nat}{xs:List Int}(h:OI w B v n xs) (e:3 ≠ E) (x:AE E w w'):OI w' B v n xs:=bJ h e x
def JK (u v:Value):Prop:=∀a b,u.ownBlock=some a->v.ownBlock=some b->a ≠ b
theorem JK.symm {u v:Value}(h:JK u v):JK v u:=fun a b c d e=>h b a d c e.symm
def vQ (B:Nat) (wr:World) (m:Nat) (xs ys:List Int) (u v:Value) (w:World):Prop:=OI w B u m xs/\OI w B v m ys/\JK u v/\AE 3 wr w/\Below B wr w
end Go.Proofs.YtcnedkkcgdkioaaGreat
namespace Go.Proofs.YtcnedkkcgdkioaaGreat
open Go.RowKit Go.ChangeMaps Go.MapKept
theorem fJ {w:World}{m n:Int}{a b:Option Addr}{l c g f:Nat}{d:World}(i:d=(w.alloc (.cells #[.int .i64 m,.slice a l c] 27)).alloc (.cells #[.int .i64 n,.slice b g f] 27)) :
  Below w.heap.size w d/\(d.cell? ⟨w.heap.size,0,none⟩=some (.int .i64 m)/\d.cell? ⟨w.heap.size,1,none⟩=some (.slice a l c))/\(d.cell? ⟨w.heap.size+1,0,none⟩=some (.int .i64 n)/\d.cell? ⟨w.heap.size+1,1,none⟩=some (.slice b g f))/\
  d.heap[w.heap.size+1]? = some (.cells #[.int .i64 n,.slice b g f] 27)/\d.heap.size=w.heap.size+2:=by
 obtain⟨h,p,r,_⟩:=MP (w:=w) (n:=m) (a:=a) (l:=l) (c:=c) rfl;obtain⟨e,q,j,o⟩:=MP i;rw[World.size_alloc] at q j o;exact⟨bt h e h.size,⟨AC e p,AC e r⟩,⟨q,j⟩,o,by rw[i];simp⟩
end Go.Proofs.YtcnedkkcgdkioaaGreat
namespace Go.Proofs.YtcnedkkcgdkioaaGreat
open Go.RowKit
def DM (L:Nat) (p:List Nat) (s:Jb):Nat:=s.foldl (fun a m=>min (a+p.getD (CH m) 0) L) 0
def DD (ss:Jc) (L:Nat):Nat->List Nat
 | 0=>List.replicate ss.length 1
 | k+1=>ss.map (DM L (DD ss L k))
theorem nQ (ss:Jc) (L:Nat):∀k,(DD ss L k).length=ss.length
 | 0=>by simp[DD]
 | k+1=>by simp[DD]
def DX (ss:Jc):Nat->Nat->Nat
 | 0,_=>1
 | k+1,s=>((ss.getD s []).map fun m=>DX ss k (CH m)).sum
theorem YR (L:Nat) (f g:List Int->Nat):∀(s:Jb) (a:Nat),(∀m∈s,g m=min (f m) L)->s.foldl (fun c m=>min (c+g m) L) (min a L)=min (a+(s.map f).sum) L
 | [],a,_=>by simp
 | m::r,a,h=>by
  rw[List.foldl_cons,h m (by simp),List.map_cons,List.sum_cons];have:=YR L f g r (a+f m) (fun x b=>h x (by simp[b]))
  rw[show min (min a L+min (f m) L) L=min (a+f m) L by omega,this,Nat.add_assoc]
theorem LZ {ss:Jc}(M:ES ss) {L:Nat}(c:1<=L):∀(k s:Nat),s < ss.length->(DD ss L k).getD s 0=min (DX ss k s) L
 | 0,s,hs=>by
  rw[DD,DX,List.getD_eq_getElem?_getD,List.getElem?_replicate,if_pos hs];simp;omega
 | k+1,s,hs=>by
  rw[DD,DX,List.getD_eq_getElem?_getD,List.getElem?_map,List.getElem?_eq_getElem hs,Option.map_some,Option.getD_some,DM];have a:ss.getD s []=ss[s]:=AK hs [];rw[a]
  have h:=YR L (fun m=>DX ss k (CH m)) (fun m=>(DD ss L k).getD (CH m) 0) ss[s] 0 (fun m d=>by
   have e:=M _ (wG hs) m d;have b:CH m < ss.length:=(by unfold CH;omega);exact LZ M c k (CH m) b)
  rw[Nat.zero_add,Nat.zero_min] at h;exact h
theorem dS (L:Nat) (p:List Nat) (s:Jb):DM L p s<=L:=by
 have h:∀(s:Jb) (a:Nat),a<=L->s.foldl (fun c m=>min (c+p.getD (CH m) 0) L) a<=L:=by
  intro s;induction s with
  | nil=>intro a h;exact h
  | cons m r i=>intro a _;exact i _ (Nat.min_le_right _ _)
 exact h s 0 (Nat.zero_le _)
theorem aL (ss:Jc) {L:Nat}(h:1<=L):∀(k j:Nat),(DD ss L k).getD j 0<=L
 | 0,j=>by rw[DD,List.getD_eq_getElem?_getD,List.getElem?_replicate];split<;>simp<;>omega
 | k+1,j=>by
  rw[DD,List.getD_eq_getElem?_getD,List.getElem?_map];cases ss[j]? with
  | none=>simp
  | some m=>exact dS _ _ _
theorem qK {w:World}{v:Value}{n:Int}{ss:Jc}(hA:DC w v n ss) (hM:ES ss) (O:0 < ss.length) (hl:ss.length<=90) {k L:Nat}{lim:Int}(hk:k<=100) (Y:lim+1=(L:Int)) (c5:1<=L) (g2:L<=1000000) :
  Calls Tryz.prog 169 #[v,.int .i64 (k:Int),.int .i64 lim] w fun e w'=>e = .returned (.int .i64 ((DD ss L k).getD 0 0:Nat))/\Below w.heap.size w w':=by
 obtain⟨sv,rfl,sa,sc,sb,so,rfl,e2,G,_⟩:=hA;obtain rfl:=e2 O;obtain⟨f,I⟩:=AF (w.alloc (.cells #[.int .i64 n,.slice (some ⟨sb,so,none⟩) ss.length sc] 27));obtain⟨g,p0,p1,_⟩:=MP I;obtain⟨N,l⟩:=AB (ss.length);have h4:IntKind.i64.wrap (lim+1)=(L:Int):=by rw[Y];exact IntWalk.i64_in _ (by omega)
 have h5:IntKind.i64.wrap (L:Int)=(L:Int):=IntWalk.i64_in _ (by omega);replace G:∀j,j < ss.length->∃u,w.cell? ⟨sb,so+j,none⟩=some u/\KS 8 w u (ss.getD j []):=G;rw[l] at O hl p1 I G|-;have c0:OI f f.heap.size (.slice none 0 0) 0 (BF (List.replicate 0 1)):=OI.nil _ _;replace G:=qH G;replace l:=qH l;replace Y:=qH Y
 have c6:Hid (∀j,j < N->∀m∈ss.getD j [],0<=m.getD 7 0/\m.getD 7 0 < (N:Int)):=fun j R m t=>by
  have C:j < ss.length:=by rw[l.out];exact R
  have:=hM _ (by rw[AK C];exact wG C) m t
  rw[l.out] at this;exact this
 clear hM;obtain⟨f8,Z⟩:=AB ((DD ss L k).getD 0 0);rw[Z];replace Z:=qH Z;go_enter Tryz.func169, Tryz.ntmps169
 go_wp2_with fail
 rw[<-I];replace I:=qH I;go_loopw [7,8] (fun M y wr=>∃i:Nat,y = .int .i64 i/\i<=N/\OI wr f.heap.size M i (BF (List.replicate i 1))/\Below f.heap.size f wr) (fun _ y _=>N - (intOf y).toNat)
 case atStart=>exact⟨0,rfl,by omega,c0,wB _ _⟩
 case round=>
  clear c0;obtain⟨i,rfl,hi,h,c⟩:=hrel;have H:=AC c p1;obtain⟨la,lc,a1⟩:=h.shape;subst a1;by_cases d8:i < N
  ·have d6:(i:Int) < (N:Int):=by omega
   have a6:BF (List.replicate i 1) ++ [(1:Int)]=BF (List.replicate (i+1) 1):=by
    rw[BF,BF,List.replicate_succ',List.map_append];rfl
   replace a6:=qH a6;go_wp2_with (at_builtin;refine RJ rfl _ _ rfl rfl h rfl (by omega) c.size ?_)
   intro v2 w2 K d4 a0;rw[a6.out] at K;have J:=c.trans a0;go_wp2;go_roundw
   case rel=>exact⟨i+1,by go_num,d8,K,J⟩
   case measure=>simp[intOf];omega
  ·obtain rfl:i=N:=(by omega);have d6 : ¬((i:Int) < (i:Int)):=(by omega);have b6:OI wr f.heap.size (.slice la i lc) i (BF (DD ss L 0)):=(by rw[DD,l.out];exact h);clear h;go_wp2_with fail
   obtain⟨wa,e5⟩:=AF (wr);subst e5;obtain⟨N,c7⟩:=AB (i);subst c7;go_loopw [7,9] (fun M y wr=>∃j:Nat,y = .int .i64 j/\j<=k/\OI wr f.heap.size M i (BF (DD ss L j))/\Below f.heap.size f wr) (fun _ y _=>k - (intOf y).toNat)
   case atStart=>exact⟨0,rfl,by omega,b6,c⟩
   case round=>
    clear b6 c H;obtain⟨r,rfl,hr,h,c⟩:=hrel;have H:=AC c p1;obtain⟨f',gc,d5,g6⟩:=h.form O;subst d5;by_cases d9:r < k
    ·have h2:(r:Int) < (k:Int):=(by omega);obtain⟨P,z⟩:=AB (DD ss L r);have g3:P.length=i:=(by rw[<-z,nQ];exact l.out);have c9:Hid (∀j,P.getD j 0<=L):=fun j=>by rw[<-z];exact aL ss c5 r j
     have hQ:Hid (DD ss L (r+1)=ss.map (DM L P)):=(by show _=_;rw[DD,z]);rw[z] at h;obtain⟨o,e7⟩:=AF (wr);subst e7;have d1:=qH (fun W (d:Below o.heap.size o W)=>AC d H);have d2:=qH (fun W (d:Below o.heap.size o W) q (hq:q < i)=>by have:=AC d (h.cell hq);rwa [OT] at this);have e4:=qH (fun W (d:Below o.heap.size o W) j (R:j < i)=>let ⟨u,p,X⟩:=G.out j R;(⟨u,AC (bt (bt g c g.size) d (bt g c g.size).size) p,X.keep (bt (bt g c g.size) d (bt g c g.size).size)⟩:∃u,W.cell? ⟨sb,so+j,none⟩=some u/\KS 8 W u (ss.getD j [])));have F:OI o o.heap.size (.slice none 0 0) 0 (BF ((ss.map (DM L P)).take 0)):=OI.nil _ _;replace z:=qH z;go_wp2_with fail
     go_loopw [10,11] (fun M jv wr=>∃j:Nat,jv = .int .i64 j/\j<=i/\OI wr o.heap.size M j (BF ((ss.map (DM L P)).take j))/\Below o.heap.size o wr) (fun _ jv _=>i - (intOf jv).toNat)
     case atStart=>exact⟨0,rfl,by omega,F,wB _ _⟩
     case round=>
      clear F h H;obtain⟨j,rfl,R,h,A⟩:=hrel;have H:=d1.out wr A;obtain⟨la,lc,a1⟩:=h.shape;subst a1;by_cases S:j < i
      ·have g8:(j:Int) < (i:Int):=(by omega);obtain⟨u,hu,b'⟩:=e4.out wr A j S;obtain⟨s,T⟩:=AB (ss.getD j []);have U:=c6.out j S;rw[T] at b' U
       have e3:Hid ((ss.map (DM L P)).take (j+1)=(ss.map (DM L P)).take j ++ [DM L P s]):=by
        have C:j < ss.length:=(by rw[l.out];exact S);show _=_;rw[BY (by rw[List.length_map];exact C) 0];congr 1
        rw[List.getD_eq_getElem?_getD,List.getElem?_map,List.getElem?_eq_getElem C,Option.map_some,Option.getD_some,<-AK C [],T]
       obtain⟨ma,mc,mb,mo,rfl,d',a3,g'⟩:=b';obtain⟨wj,e6⟩:=AF (wr);subst e6;have hz:Hid (DM L P (s.take 0)=0):=rfl;replace U:=qH U;replace T:=qH T;replace a3:=qH a3;go_wp2_with fail
       go_loopw [12,13] (fun av xv wr=>∃x a:Nat,av = .int .i64 a/\xv = .int .i64 x/\x<=s.length/\a<=L/\Hid (DM L P (s.take x)=a)/\wr=wj) (fun _ xv _=>s.length - (intOf xv).toNat)
       case atStart=>exact⟨0,0,rfl,rfl,by omega,by omega,hz,by first|rfl|trivial⟩
       case round=>
        clear hz;obtain⟨x,a,rfl,rfl,hx,g4,Q,rfl⟩:=hrel;by_cases D:x < s.length
        ·have h8:(x:Int) < (s.length:Int):=(by omega);obtain rfl:=d' (by omega);obtain⟨a2,a4⟩:=a3.out x D;obtain⟨m,t⟩:=AB (s.getD x []);have a5:=U.out m (by rw[<-t,AK D];exact wG D);rw[t] at a2 a4;obtain⟨y0,y1,y2,y3,y4,y5,y6,y7,rfl⟩:=CT a2;obtain⟨_,_,_,_,_,_,_,f9⟩:=a4.all8;obtain⟨q,rfl⟩:∃q:Nat,y7=(q:Int):=⟨y7.toNat,by have:0<=y7:=a5.1;omega⟩;have e1:q < i:=(by have:(q:Int) < (i:Int):=a5.2;omega);have h0:(q:Int) < (i:Int):=(by omega);have d3:=d2.out wr A q e1;obtain⟨b,d⟩:=AB (P.getD q 0);have d0:=c9.out q;rw[d] at d3 d0
         have V:Hid (DM L P (s.take (x+1))=min (a+b) L):=by
          show _=_;rw[BY D [],t,DM,List.foldl_append,List.foldl_cons,List.foldl_nil];have p:(s.take x).foldl (fun c2 m=>min (c2+P.getD (CH m) 0) L) 0=a:=Q.out;rw[p];have X:CH [y0,y1,y2,y3,y4,y5,y6,(q:Int)]=q:=rfl;rw[X,d]
         have h6:IntKind.i64.wrap ((a:Int)+(b:Int))=(a:Int)+(b:Int):=IntWalk.i64_in _ (by omega);replace d:=qH d;replace t:=qH t;clear Q a4 a2 a5;by_cases hc:L < a+b
         ·have p:(L:Int) < (a:Int)+(b:Int):=(by omega);have F:Hid (DM L P (s.take (x+1))=L):=(by show _=_;rw[V.out];omega);clear V;go_wp2;go_roundw
          case rel=>exact⟨x+1,L,by go_num,by go_num,D,by omega,F,by first|rfl|trivial⟩
          case measure=>simp[intOf];omega
         ·have p : ¬((L:Int) < (a:Int)+(b:Int)):=(by omega);have F:Hid (DM L P (s.take (x+1))=a+b):=(by show _=_;rw[V.out];omega);clear V;go_wp2;go_roundw
          case rel=>exact⟨x+1,a+b,by go_num,by go_num,D,by omega,F,by first|rfl|trivial⟩
          case measure=>simp[intOf];omega
        ·obtain rfl:x=s.length:=(by omega);have b9 : ¬((s.length:Int) < (s.length:Int)):=(by omega);have b8:DM L P s=a:=by have:=Q.out;rwa [List.take_length] at this
         have a7:BF ((ss.map (DM L P)).take j) ++ [(a:Int)]=BF ((ss.map (DM L P)).take (j+1)):=by
          rw[e3.out,b8,BF,BF,List.map_append];rfl
         replace a7:=qH a7;clear Q b8;go_wp2_with (at_builtin;refine RJ rfl _ _ rfl rfl h rfl (by omega) A.size ?_)
         intro v2 w2 K d4 a0;rw[a7.out] at K;have J:=A.trans a0;go_wp2;go_roundw
         case rel=>exact⟨j+1,by go_num,S,K,J⟩
         case measure=>simp[intOf];omega
      ·obtain rfl:j=i:=by omega
       have c8:OI wr f.heap.size (.slice la j lc) j (BF (DD ss L (r+1))):=by
        have p:=h;rw[List.take_of_length_le (by rw[List.length_map,l.out];exact wC _),<-hQ.out] at p;exact p.base c.size
       have J:=btt c A;have b9 : ¬((j:Int) < (j:Int)):=(by omega);clear h;go_wp2;go_roundw
       case rel=>exact⟨r+1,by go_num,d9,c8,J⟩
       case measure=>simp[intOf];omega
    ·obtain rfl:r=k:=(by omega);have b9 : ¬((r:Int) < (r:Int)):=(by omega);have b7:=h.cell O;rw[OT] at b7;have g1:(0:Int) < (i:Int):=(by omega);rw[Z.out] at b7;go_wp2;go_ret;exact⟨rfl,bt g c g.size⟩
def num (ss:Jc) (L k:Nat):Nat:=(DD ss L k).getD 0 0
theorem YN {ss:Jc}(h:FV ss=true):ss.length<=8/\CA ss<=40:=by simp[FV] at h;omega
theorem JU {w:World}{v:Value}{n:Int}{ss:Jc}(A:DC w v n ss) (f:FV ss=true) (h:BU n ss=0):JM ss:=by
 obtain⟨a,b⟩:=YN f;exact gP A.len8 h (by omega) (by omega)
theorem qL {w:World}{v:Value}{n:Int}{ss:Jc}(A:DC w v n ss) (h:JM ss) {k L:Nat}{lim:Int}(d:k<=100) (a:lim+1=(L:Int)) (b:1<=L) (c:L<=1000000) :
  Calls Tryz.prog 169 #[v,.int .i64 (k:Int),.int .i64 lim] w fun e w'=>e = .returned (.int .i64 (num ss L k:Nat))/\Below w.heap.size w w':=
 qK A (ES.ofCls h) h.2.2.1 h.1 d a b c
def ED (w:World) (v:Value) (n i o:Int) (cs:List Cs) (an:Int) (ss:Jc) (r:Int):Prop:=
 ∃a c b d,v = .agg #[.int .i64 n,.int .i64 i,.int .i64 o,.slice a cs.length c,.int .i64 an,.slice b ss.length d,.int .i64 r]/\IZ w (.agg #[.int .i64 n,.int .i64 i,.int .i64 o,.slice a cs.length c]) n i o cs/\DC w (.agg #[.int .i64 an,.slice b ss.length d]) an ss
theorem ED.keep {w w':World}{v:Value}{n i o an r:Int}{cs:List Cs}{ss:Jc}(h:ED w v n i o cs an ss r) (b:Below w.heap.size w w'):ED w' v n i o cs an ss r:=by
 obtain⟨a,c,d,e,f,g,j⟩:=h;exact⟨a,c,d,e,f,g.keep b,j.keep b⟩
def DJ (n i o:Int) (cs:List Cs) (an:Int) (ss:Jc) (r:Int):Int:=
 if FK n i o cs ≠ 0 then FK n i o cs else if BU an ss ≠ 0 then BU an ss else if n ≠ an then 22 else if r < 0\/6 < r then 2 else 0
theorem LQ {n i o an r:Int}{cs:List Cs}{ss:Jc}(h:DJ n i o cs an ss r=0):FK n i o cs=0/\BU an ss=0/\n=an/\0<=r/\r<=6:=by
 unfold DJ at h;by_cases a:FK n i o cs=0
 ·rw[if_neg (fun g=>g a)] at h;by_cases b:BU an ss=0
  ·rw[if_neg (fun g=>g b)] at h;by_cases c:n=an
   ·rw[if_neg (fun g=>g c)] at h;by_cases d:r < 0\/6 < r
    ·rw[if_pos d] at h;cases h
    ·exact⟨a,b,c,by omega,by omega⟩
   ·rw[if_pos c] at h;cases h
  ·rw[if_pos b] at h;exact absurd h b
 ·rw[if_pos a] at h;exact absurd h a
theorem box7' {W:World}{b:Nat}{a c d e f g i:Value}{T:TypeId}(h:W.heap[b]? = some (.cells #[a,c,d,e,f,g,i] T)):W.cell? ⟨b,0,none⟩=some a/\W.cell? ⟨b,1,none⟩=some c/\W.cell? ⟨b,2,none⟩=some d/\W.cell? ⟨b,3,none⟩=some e/\W.cell? ⟨b,4,none⟩=some f/\W.cell? ⟨b,5,none⟩=some g/\W.cell? ⟨b,6,none⟩=some i:=
 ⟨by rw[cell_of_row _ _ 0 _ _ _ h];rfl,by rw[cell_of_row _ _ 1 _ _ _ h];rfl,by rw[cell_of_row _ _ 2 _ _ _ h];rfl,by rw[cell_of_row _ _ 3 _ _ _ h];rfl,by rw[cell_of_row _ _ 4 _ _ _ h];rfl,by rw[cell_of_row _ _ 5 _ _ _ h];rfl,by rw[cell_of_row _ _ 6 _ _ _ h];rfl⟩
theorem keep7 {W a:World}{b:Nat}{d e f g i j l:Value}(c:Below W.heap.size W a) (h:W.cell? ⟨b,0,none⟩=some d/\W.cell? ⟨b,1,none⟩=some e/\W.cell? ⟨b,2,none⟩=some f/\W.cell? ⟨b,3,none⟩=some g/\W.cell? ⟨b,4,none⟩=some i/\W.cell? ⟨b,5,none⟩=some j/\W.cell? ⟨b,6,none⟩=some l) :
  a.cell? ⟨b,0,none⟩=some d/\a.cell? ⟨b,1,none⟩=some e/\a.cell? ⟨b,2,none⟩=some f/\a.cell? ⟨b,3,none⟩=some g/\a.cell? ⟨b,4,none⟩=some i/\a.cell? ⟨b,5,none⟩=some j/\a.cell? ⟨b,6,none⟩=some l:=
 ⟨AC c h.1,AC c h.2.1,AC c h.2.2.1,AC c h.2.2.2.1,AC c h.2.2.2.2.1,AC c h.2.2.2.2.2.1,AC c h.2.2.2.2.2.2⟩
theorem jP {w:World}{v:Value}{n i o an r:Int}{cs:List Cs}{ss:Jc}(h:ED w v n i o cs an ss r) (Y:FV ss=true) :
  Calls Tryz.prog 125 #[v] w fun e w'=>e = .returned (.int .i64 (DJ n i o cs an ss r))/\Below w.heap.size w w':=by
 obtain⟨a,c,O,P,rfl,R,Q⟩:=h;obtain⟨b,l⟩:=AF (w.alloc (.cells #[.int .i64 n,.int .i64 i,.int .i64 o,.slice a cs.length c,.int .i64 an,.slice O ss.length P,.int .i64 r] 29));have I:Below w.heap.size w b:=by rw[l];exact(wB _ w).alloc (wC _) _
 have U:b.heap[w.heap.size]? = some (.cells #[.int .i64 n,.int .i64 i,.int .i64 o,.slice a cs.length c,.int .i64 an,.slice O ss.length P,.int .i64 r] 29):=by rw[l];exact wE _ _
 have K:=qH (fun W (J:Below b.heap.size b W)=>keep7 J (box7' U));have T:=qH (fT (R.keep I));have N:=qH (fun W (J:Below b.heap.size b W)=>RX ((Q.keep I).keep J) (by have:=(YN Y).2;omega));obtain⟨z,M⟩:=AB (FK n i o cs);obtain⟨y,L⟩:=AB (BU an ss);rw[M] at T;simp only[L] at N;unfold DJ;rw[M,L];obtain⟨q,s,t,u,x,A,C⟩:=K.out b (wB _ _);rw[l] at q s t u x A C;clear R Q U M L;obtain⟨E,d⟩:=AB ((if z ≠ 0 then z else if y ≠ 0 then y else if n ≠ an then 22 else if r < 0\/6 < r then 2 else 0));rw[d];replace d:=qH d;go_enter Tryz.func125, Tryz.ntmps125
 go_wp2_with fail
 rw[<-l];replace l:=qH l;refine T.out.mono ?_;rintro e V ⟨rfl,G⟩;have f:=btt I G;by_cases g:z ≠ 0
 ·obtain rfl:z=E:=by rw[<-d.out,if_pos g]
  have H:(z != 0)=true:=by simpa using g
  go_wp2_with fail
  go_ret;exact⟨rfl,f⟩
 obtain rfl:z=0:=Decidable.not_not.1 g;clear q s t u x A C;obtain⟨q,s,t,u,x,A,C⟩:=K.out V G;go_wp2_with fail
 refine(N.out V G).mono ?_;rintro e Z ⟨rfl,S⟩;replace f:=btt I (btt G S);clear q s t u x A C;obtain⟨q,s,t,u,x,A,C⟩:=K.out Z (btt G S);by_cases p:y ≠ 0
 ·obtain rfl:y=E:=by rw[<-d.out,if_neg g,if_pos p]
  have H:(y != 0)=true:=by simpa using p
  go_wp2_with fail
  go_ret;exact⟨rfl,f⟩
 obtain rfl:y=0:=Decidable.not_not.1 p;by_cases m:n ≠ an
 ·obtain rfl:22=E:=by rw[<-d.out,if_neg g,if_neg p,if_pos m]
  have H:(n != an)=true:=by simpa using m
  clear m;go_wp2_with fail
  go_ret;exact⟨rfl,f⟩
 obtain rfl:n=an:=Decidable.not_not.1 m;have F:(if r < 0\/6 < r then (2:Int) else 0)=E:=by rw[<-d.out,if_neg g,if_neg p,if_neg m]
 clear g p m;by_cases j:r < 0
 ·obtain rfl:2=E:=by rw[<-F,if_pos (.inl j)]
  have H:decide (r < 0)=true:=vZ j;clear j F;go_wp2_with fail
  go_ret;exact⟨rfl,f⟩
 have H:decide (r < 0)=false:=vY j;by_cases D:6 < r
 ·obtain rfl:2=E:=by rw[<-F,if_pos (.inr D)]
  have X:decide (6 < r)=true:=vZ D;clear j D F;go_wp2_with fail
  go_ret;exact⟨rfl,f⟩
 obtain rfl:0=E:=by rw[<-F,if_neg (by omega)]
 have X:decide (6 < r)=false:=vY D;clear j D F;go_wp2_with fail
 go_ret;exact⟨rfl,f⟩
theorem cB {w:World}{v:Value}{n i o an r:Int}{cs:List Cs}{ss:Jc}(h:ED w v n i o cs an ss r) :
  Calls Tryz.prog 102 #[v] w fun e w'=>e = .returned (.int .i64 (DJ n i o cs an ss r))/\Below w.heap.size w w':=by
 obtain⟨a,c,O,P,rfl,R,Q⟩:=h;obtain⟨b,l⟩:=AF (w.alloc (.cells #[.int .i64 n,.int .i64 i,.int .i64 o,.slice a cs.length c,.int .i64 an,.slice O ss.length P,.int .i64 r] 29));have I:Below w.heap.size w b:=by rw[l];exact(wB _ w).alloc (wC _) _
 have U:b.heap[w.heap.size]? = some (.cells #[.int .i64 n,.int .i64 i,.int .i64 o,.slice a cs.length c,.int .i64 an,.slice O ss.length P,.int .i64 r] 29):=by rw[l];exact wE _ _
 have K:=qH (fun W (J:Below b.heap.size b W)=>keep7 J (box7' U));have T:=qH (pM (R.keep I));have N:=qH (fun W (J:Below b.heap.size b W)=>pK ((Q.keep I).keep J));obtain⟨z,M⟩:=AB (FK n i o cs);obtain⟨y,L⟩:=AB (BU an ss);rw[M] at T;simp only[L] at N;unfold DJ;rw[M,L];obtain⟨q,s,t,u,x,A,C⟩:=K.out b (wB _ _);rw[l] at q s t u x A C;clear R Q U M L;obtain⟨E,d⟩:=AB ((if z ≠ 0 then z else if y ≠ 0 then y else if n ≠ an then 22 else if r < 0\/6 < r then 2 else 0));rw[d];replace d:=qH d;go_enter Tryz.func102, Tryz.ntmps102
 go_wp2_with fail
 rw[<-l];replace l:=qH l;refine T.out.mono ?_;rintro e V ⟨rfl,G⟩;have f:=btt I G;by_cases g:z ≠ 0
 ·obtain rfl:z=E:=by rw[<-d.out,if_pos g]
  have H:(z != 0)=true:=by simpa using g
  go_wp2_with fail
  go_ret;exact⟨rfl,f⟩
 obtain rfl:z=0:=Decidable.not_not.1 g;clear q s t u x A C;obtain⟨q,s,t,u,x,A,C⟩:=K.out V G;go_wp2_with fail
 refine(N.out V G).mono ?_;rintro e Y ⟨rfl,S⟩;replace f:=btt I (btt G S);clear q s t u x A C;obtain⟨q,s,t,u,x,A,C⟩:=K.out Y (btt G S);by_cases p:y ≠ 0
 ·obtain rfl:y=E:=by rw[<-d.out,if_neg g,if_pos p]
  have H:(y != 0)=true:=by simpa using p
  go_wp2_with fail
  go_ret;exact⟨rfl,f⟩
 obtain rfl:y=0:=Decidable.not_not.1 p;by_cases m:n ≠ an
 ·obtain rfl:22=E:=by rw[<-d.out,if_neg g,if_neg p,if_pos m]
  have H:(n != an)=true:=by simpa using m
  clear m;go_wp2_with fail
  go_ret;exact⟨rfl,f⟩
 obtain rfl:n=an:=Decidable.not_not.1 m;have F:(if r < 0\/6 < r then (2:Int) else 0)=E:=by rw[<-d.out,if_neg g,if_neg p,if_neg m]
 clear g p m;by_cases j:r < 0
 ·obtain rfl:2=E:=by rw[<-F,if_pos (.inl j)]
  have H:decide (r < 0)=true:=vZ j;clear j F;go_wp2_with fail
  go_ret;exact⟨rfl,f⟩
 have H:decide (r < 0)=false:=vY j;by_cases D:6 < r
 ·obtain rfl:2=E:=by rw[<-F,if_pos (.inr D)]
  have X:decide (6 < r)=true:=vZ D;clear j D F;go_wp2_with fail
  go_ret;exact⟨rfl,f⟩
 obtain rfl:0=E:=by rw[<-F,if_neg (by omega)]
 have X:decide (6 < r)=false:=vY D;clear j D F;go_wp2_with fail
 go_ret;exact⟨rfl,f⟩
def numP (cs:List Cs) (ss:Jc) (k:Nat):Nat:=cs.length * num ss 4097 k
theorem nR {ss:Jc}(h:JM ss) {k L:Nat}(a:1<=L):num ss L k<=L:=by
 unfold num;rw[LZ (ES.ofCls h) a k 0 h.2.2.1];omega
theorem cK {w:World}{v:Value}{n i o an r:Int}{cs:List Cs}{ss:Jc}(h:ED w v n i o cs an ss r) (O:JM ss) (G:cs.length<=1024) {k:Nat}(Y:k<=6) (N:r=(k:Int)) :
  Calls Tryz.prog 103 #[v,.int .i64 4096] w fun e w'=>e = .returned (.int .i64 (numP cs ss k:Nat))/\Below w.heap.size w w':=by
 have J : Tryz.prog.follows .mixedOrders=true:=by kernel_rfl
 subst N;obtain⟨a,c,m,p,rfl,y,A⟩:=h;obtain⟨d,f⟩:=AF (w.alloc (.cells #[.int .i64 n,.int .i64 i,.int .i64 o,.slice a cs.length c,.int .i64 an,.slice m ss.length p,.int .i64 (k:Int)] 29));have t:Below w.heap.size w d:=by rw[f];exact(wB _ w).alloc (wC _) _
 have T:d.heap[w.heap.size]? = some (.cells #[.int .i64 n,.int .i64 i,.int .i64 o,.slice a cs.length c,.int .i64 an,.slice m ss.length p,.int .i64 (k:Int)] 29):=by rw[f];exact wE _ _
 have x:=qH (fun W (g:Below d.heap.size d W)=>keep7 g (box7' T));have H:=qH (fun W (g:Below d.heap.size d W)=>qL (k:=k) (L:=4097) (lim:=4096) ((A.keep t).keep g) O (by omega) rfl (by omega) (by omega));have l:=nR O (k:=k) (L:=4097) (by omega);unfold numP;obtain⟨z,j⟩:=AB (num ss 4097 k);rw[j] at l|-;simp only[j] at H;have I:cs.length * z<=1024 * 4097:=Nat.mul_le_mul G l
 have u:IntKind.i64.wrap ((cs.length:Int) * (z:Int))=((cs.length * z:Nat):Int):=by
  rw[<-Int.natCast_mul];exact IntWalk.i64_in _ (by omega)
 obtain⟨M,s⟩:=AB (cs.length * z);rw[s] at u|-;clear y A T j O l I s;go_enter Tryz.func103, Tryz.ntmps103
 go_wp2_with fail
 rw[<-f];replace f:=qH f;refine CW J (by kernel_rfl) ?_
 repeat (refine WQ.step fun K b=>?_;go_simp;first|(refine b _ ?_;clear b K)|(apply Exists.intro;refine⟨fun q C=>?_,b _ ?_⟩;(·(first|with_reducible rfl|(obtain⟨P,Q,R,S,U,V,X⟩:=x.out q C;go_simp;first|done|with_reducible rfl|with_reducible exact⟨rfl,rfl⟩)));clear b K))
 (refine WQ.step fun K b=>?_;go_simp;first|(refine b _ ?_;clear b K)|(apply Exists.intro;refine⟨fun q C=>?_,b _ ?_⟩;(·(refine(H.out q C).mono ?_;rintro e w' ⟨rfl,g⟩;exact⟨rfl,btt C g⟩));clear b K))
 repeat (refine WQ.step fun K b=>?_;go_simp;first|(refine b _ ?_;clear b K)|(apply Exists.intro;refine⟨fun q C=>?_,b _ ?_⟩;(·(first|with_reducible rfl|(go_simp;first|done|with_reducible rfl|with_reducible exact⟨rfl,rfl⟩)));clear b K))
 refine WQ.nil ?_;intro Z D;have F:=btt t D;go_wp2;go_ret;exact⟨by first|rfl|(rw[u];rfl),F⟩
def DH (n i o:Int) (cs:List Cs) (an:Int) (ss:Jc) (r:Int):Bool:=
 GS cs && (FV ss && (!(decide (3 < n) && decide (n<=5)) && (decide (DJ n i o cs an ss r ≠ 0) || (decide (numP cs ss r.toNat<=60) || decide (4096 < numP cs ss r.toNat)))))
theorem pT {w:World}{v:Value}{n i o an r:Int}{cs:List Cs}{ss:Jc}(h:ED w v n i o cs an ss r) :
  Calls Tryz.prog 51 #[v] w fun e w'=>e = .returned (.bool (DH n i o cs an ss r))/\Below w.heap.size w w':=by
 have K:=qH (fun W (c:Below w.heap.size w W)=>cB (h.keep c));have HP:=qH (fun W (c:Below w.heap.size w W)=>h.keep c);obtain⟨a1,a3,a',c',rfl,hT,N⟩:=h;obtain⟨f,t⟩:=AF (w.alloc (.cells #[.int .i64 n,.int .i64 i,.int .i64 o,.slice a1 cs.length a3,.int .i64 an,.slice a' ss.length c',.int .i64 r] 29));have I:Below w.heap.size w f:=by rw[t];exact(wB _ w).alloc (wC _) _
 have kT:f.heap[w.heap.size]? = some (.cells #[.int .i64 n,.int .i64 i,.int .i64 o,.slice a1 cs.length a3,.int .i64 an,.slice a' ss.length c',.int .i64 r] 29):=by rw[t];exact wE _ _
 have H:=qH (fun W (c:Below f.heap.size f W)=>keep7 c (box7' kT));have Y:=qH (pU (hT.keep I));have V:=qH (fun W (c:Below f.heap.size f W)=>pR ((N.keep I).keep c));have a8:FV ss=true->BU an ss=0->JM ss:=fun y h2=>JU N y h2;have a9:=qH a8;have b0:=qH (fun(y:GS cs=true)=>(show cs.length<=30 from by unfold GS at y;rw[Bool.and_eq_true] at y;exact of_decide_eq_true y.1));obtain⟨Z,P⟩:=AB (GS cs);obtain⟨P2,Q⟩:=AB (FV ss);rw[P] at Y b0;simp only[Q] at V a9;unfold DH;rw[P,Q];obtain⟨g,j,l,m,p,q,s⟩:=H.out f (wB _ _);rw[t] at g j l m p q s;clear hT N kT P Q a8;obtain⟨z,x⟩:=AB (DJ n i o cs an ss r);rw[x];simp only[x] at K;replace x:=qH x;obtain⟨E,a⟩:=AB ((Z && (P2 && (!(decide (3 < n) && decide (n<=5)) && (decide (z ≠ 0) || (decide (numP cs ss r.toNat<=60) || decide (4096 < numP cs ss r.toNat)))))));rw[a];replace a:=qH a;go_enter Tryz.func51, Tryz.ntmps51
 go_wp2_with fail
 rw[<-t];replace t:=qH t;refine Y.out.mono ?_;rintro e w2 ⟨rfl,u⟩;have b:=btt I u;cases Z
 ·obtain rfl:false=E:=a.out;go_wp2_with fail
  go_ret;exact⟨rfl,b⟩
 have c3:=b0.out rfl;clear g j l m p q s;obtain⟨g,j,l,m,p,q,s⟩:=H.out w2 u;go_wp2_with fail
 refine(V.out w2 u).mono ?_;rintro e T ⟨rfl,R⟩;replace b:=btt I (btt u R);cases P2
 ·obtain rfl:false=E:=a.out;go_wp2_with fail
  go_ret;exact⟨rfl,b⟩
 clear g j l m p q s;obtain⟨g,j,l,m,p,q,s⟩:=H.out T (btt u R);replace a:Hid ((!(decide (3 < n) && decide (n<=5)) && (decide (z ≠ 0) || (decide (numP cs ss r.toNat<=60) || decide (4096 < numP cs ss r.toNat))))=E):=a.out;by_cases d:3 < n/\n<=5
 ·obtain rfl:false=E:=by rw[<-a.out,vZ d.1,vZ d.2];rfl
  have L:decide (3 < n)=true:=vZ d.1;have d2:decide (n<=5)=true:=vZ d.2;clear d;go_wp2_with fail
  go_ret;exact⟨rfl,b⟩
 have S:(decide (3 < n) && decide (n<=5))=false:=by rw[<-Bool.decide_and];exact vY d
 replace a:Hid ((decide (z ≠ 0) || (decide (numP cs ss r.toNat<=60) || decide (4096 < numP cs ss r.toNat)))=E):=by have C:=a.out;rw[S] at C;exact C
 by_cases D:z ≠ 0
 ·obtain rfl:true=E:=by rw[<-a.out,vZ D,Bool.true_or]
  have c6:(z != 0)=true:=by simpa using D
  rcases(show(3 < n/\5 < n)\/n<=3 by omega) with⟨q1,q2⟩|q1
  case' inl=>
   have L:decide (3 < n)=true:=vZ q1;have d2:decide (n<=5)=false:=vY (by omega);clear q2
  case' inr=>have L:decide (3 < n)=false:=vY (by omega)
  all_goals
   clear q1 d S D;go_wp2_with fail
   refine(K.out T b).mono ?_;rintro e U ⟨rfl,J⟩;replace b:=btt b J;go_wp2_with fail
   go_ret;exact⟨rfl,b⟩
 obtain rfl:z=0:=Decidable.not_not.1 D;obtain⟨F,c2,-,c4,c5⟩:=LQ x.out
 have q5:n<=5:=by
  unfold FK at F;by_cases h:5 < n
  ·rw[if_pos (.inl (.inr h))] at F;cases F
  ·omega
 have L:decide (3 < n)=false:=vY (by omega);have hO:=a9.out rfl c2;obtain⟨k,rfl⟩:∃k:Nat,r=(k:Int):=⟨r.toNat,by omega⟩;have X:=qH (fun W (c:Below w.heap.size w W)=>cK (k:=k) (HP.out W c) hO (by omega) (by omega) rfl);replace a:Hid ((decide (numP cs ss k<=60) || decide (4096 < numP cs ss k))=E):=by have C:=a.out;rw[Int.toNat_natCast] at C;exact C
 obtain⟨M,O⟩:=AB (numP cs ss k);rw[O] at a;simp only[O] at X;clear d S x D F c2 c4 c5 q5 hO O;go_wp2_with fail
 refine(K.out T b).mono ?_;rintro e U ⟨rfl,J⟩;replace b:=btt b J;clear g j l m p q s;obtain⟨g,j,l,m,p,q,s⟩:=H.out U (btt (btt u R) J);go_wp2_with fail
 refine(X.out U b).mono ?_;rintro e w5 ⟨rfl,b'⟩;replace b:=btt b b';by_cases A:M<=60
 ·obtain rfl:true=E:=by rw[<-a.out,vZ A,Bool.true_or]
  have e1:decide ((M:Int)<=60)=true:=vZ (by omega);clear A;go_wp2_with fail
  go_ret;exact⟨rfl,b⟩
 have e1:decide ((M:Int)<=60)=false:=vY (by omega);by_cases G:4096 < M
 ·obtain rfl:true=E:=by rw[<-a.out,vZ G,Bool.or_true]
  have e2:decide ((4096:Int) < (M:Int))=true:=vZ (by omega);clear A G;go_wp2_with fail
  go_ret;exact⟨rfl,b⟩
 obtain rfl:false=E:=by rw[<-a.out,vY A,vY G];rfl
 have e2:decide ((4096:Int) < (M:Int))=false:=vY (by omega);clear A G;go_wp2_with fail
 go_ret;exact⟨rfl,b⟩
end Go.Proofs.YtcnedkkcgdkioaaGreat
