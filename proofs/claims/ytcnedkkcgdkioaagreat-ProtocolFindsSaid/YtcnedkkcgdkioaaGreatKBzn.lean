/- Texts of this claim, put together: PW QN1 MJ Y0 QR. -/
import Derived.Test.YtcnedkkcgdkioaaGreatKBzm
import Derived.Test.YtcnedkkcgdkioaaGreatKBzi
import Derived.Lib.SmallJoins

set_option maxRecDepth 100000
set_option maxHeartbeats 12800000
namespace Go.Proofs.YtcnedkkcgdkioaaGreat
open Go.RowKit
theorem jL {w:World}{v:Value}(h:CC w v 2 2 1 DR 2 EH 1 2 FP DY):Calls Tryz.prog 19 #[v] w fun e w'=>∃a c,e = .returned (.tuple #[.agg #[.slice a 4 c],.int .i64 0])/\BT 2 w' (.slice a 4 c) JE/\Below w.heap.size w w':=by
 refine(UA h OK).mono ?_;rintro e w' ⟨g,rfl,b,d⟩
 have f:(if AZ 2 2 1 DR 2 EH 1 2 FP DY=0 then BC (AX (2:Int).toNat (1:Int).toNat DY (-1)) else [])=JE:=by
  rw[if_pos LS];exact SR
 rw[f] at b;obtain⟨a,c,rfl,O⟩:=b;exact⟨a,c,by rw[LS];rfl,(O.kssc (by decide) (by decide)).kss,d⟩
theorem jM {w:World}{v:Value}(h:CC w v 2 2 1 DR 2 EH 1 2 FP DY):Calls Tryz.prog 21 #[v,.int .i64 0] w fun e w'=>∃a c,e = .returned (.tuple #[.agg #[.slice a 2 c],.int .i64 0])/\BT 2 w' (.slice a 2 c) JY/\Below w.heap.size w w':=by
 refine(bO h OK).mono ?_;rintro e w' ⟨g,rfl,b,d⟩;have E:GD (AZ 2 2 1 DR 2 EH 1 2 FP DY) 0 DR.length=0:=by rw[LS];rfl
 have f:(if GD (AZ 2 2 1 DR 2 EH 1 2 FP DY) 0 DR.length=0 then BC (AX (2:Int).toNat (1:Int).toNat DY 0) else [])=JY:=by
  rw[if_pos E];exact jH
 rw[f] at b;obtain⟨a,c,rfl,O⟩:=b;exact⟨a,c,by rw[E];rfl,(O.kssc (by decide) (by decide)).kss,d⟩
theorem jN {w:World}{v:Value}(h:CC w v 2 2 1 DR 2 EH 1 2 FP DY):Calls Tryz.prog 12 #[v] w fun e w'=>∃v',e = .returned (.tuple #[v',.int .i64 0])/\GC w' v' JZ KO/\Below w.heap.size w w':=by
 refine(bQ h OK).mono ?_;rintro e w' ⟨v',rfl,c,d⟩
 have a:(if AZ 2 2 1 DR 2 EH 1 2 FP DY=0 then DB (BC (AX (2:Int).toNat (1:Int).toNat DY (-1))) else [])=JZ:=by
  rw[if_pos LS];exact(congrArg DB SR).trans YD
 have b:(if AZ 2 2 1 DR 2 EH 1 2 FP DY=0 then EQ FP (DB (BC (AX (2:Int).toNat (1:Int).toNat DY (-1)))) else [])=KO:=by
  rw[if_pos LS];exact(congrArg (EQ FP) ((congrArg DB SR).trans YD)).trans jI
 rw[a,b] at c;exact⟨v',by rw[LS],c,d⟩
theorem YG {w:World}{v u:Value}{l:Jb}{L:List Int}(h:CC w v 2 2 1 DR 2 EH 1 2 FP DY) (i:KS 2 w u l) (b:CX l=0) (d:CS 2 1 DY l 2=L):Calls Tryz.prog 16 #[v,u] w fun e w'=>∃a,e = .returned (.tuple #[a,.int .i64 0])/\AR w' a L/\Below w.heap.size w w':=by
 refine(bP h i OK (by decide)).mono ?_;rintro e w' ⟨j,rfl,c,f⟩;have E:GQ (AZ 2 2 1 DR 2 EH 1 2 FP DY) l=0:=by rw[LS];unfold GQ;rw[if_neg (fun h=>h rfl)];exact b
 have g:(if GQ (AZ 2 2 1 DR 2 EH 1 2 FP DY) l=0 then CS (2:Int).toNat (1:Int).toNat DY l DR.length else [])=L:=by
  rw[if_pos E];exact d
 rw[g] at c;exact⟨j,by rw[E],c,f⟩
theorem jC {w:World}{v:Value}(h:ED w v 2 2 1 DR 2 EH 1):Calls Tryz.prog 28 #[v] w fun e w'=>∃v',e = .returned (.tuple #[v',.int .i64 0])/\CC w' v' 2 2 1 DR 2 EH 1 2 FP DY/\Below w.heap.size w w':=by
 refine(WA h OK).mono ?_;rintro e w' ⟨B,d⟩;rcases B with⟨a,_⟩|⟨_,v',b,c⟩
 ·exact absurd YB a
 ·exact⟨v',b,c,d⟩
theorem ZT {w:World}{b:Nat}{d f g k l e b1 b2 m n:Int}(h:w.heap[b]? = some (.cells #[.int .i64 d,.int .i64 e,.int .i64 f,.int .i64 b1,.int .i64 g,.int .i64 b2,.int .i64 k,.int .i64 m,.int .i64 l,.int .i64 n] 83)) :
  KS 2 w (.slice (some ⟨b,0,none⟩) 5 5) [[d,e],[f,b1],[g,b2],[k,m],[l,n]]/\KS 2 w (.slice (some ⟨b,0,none⟩) 1 5) [[d,e]]:=by
 have o:∀j,j < 5->(([[d,e],[f,b1],[g,b2],[k,m],[l,n]]:Jb).getD j []).length=2/\CI w b (j * 2) (([[d,e],[f,b1],[g,b2],[k,m],[l,n]]:Jb).getD j []):=fun j c=>by
  match j,c with
  | 0,_=>exact⟨rfl,fun i a=>by
    match i,a with
    | 0,_=>exact AO h rfl
    | 1,_=>exact AO h rfl⟩
  | 1,_=>exact⟨rfl,fun i a=>by
    match i,a with
    | 0,_=>exact AO h rfl
    | 1,_=>exact AO h rfl⟩
  | 2,_=>exact⟨rfl,fun i a=>by
    match i,a with
    | 0,_=>exact AO h rfl
    | 1,_=>exact AO h rfl⟩
  | 3,_=>exact⟨rfl,fun i a=>by
    match i,a with
    | 0,_=>exact AO h rfl
    | 1,_=>exact AO h rfl⟩
  | 4,_=>exact⟨rfl,fun i a=>by
    match i,a with
    | 0,_=>exact AO h rfl
    | 1,_=>exact AO h rfl⟩
 refine⟨⟨_,_,b,0,rfl,fun _=>rfl,fun j c=>?_,by simp⟩,⟨_,_,b,0,rfl,fun _=>rfl,fun j c=>?_,by simp⟩⟩
 ·rw[Nat.zero_add];exact o j c
 ·have c:j < 1:=c;obtain rfl:j=0:=by omega
  rw[Nat.zero_add];exact o 0 (by decide)
theorem LP (w:World):Calls Tryz.prog 11 #[] w fun e w'=>e = .returned (.bool true)/\Below w.heap.size w w':=by
 have HE:=qH (jO w);go_enter Tryz.func11, Tryz.ntmps11
 go_wp2_with fail
 refine HE.out.mono ?_;rintro e w1 ⟨v1,rfl,d5,d8⟩;have HB:=qH (jC d5);obtain⟨pa,pc,j8,j',rfl,-⟩:=d5;clear HE;go_wp2_with fail
 refine HB.out.mono ?_;rintro e G ⟨v2,rfl,a6,d9⟩;have g5:=a6;obtain⟨a,c,g0,g1,va,vc,xa,xc,h',-⟩:=g5;subst h';clear HB;obtain⟨V,g7⟩:∃V:Array Value,V = #[.int .i64 2,.int .i64 2,.int .i64 1,.slice a DR.length c,.int .i64 2,.slice g0 EH.length g1,.int .i64 1,.int .i64 2,.slice va FP.length vc,.slice xa DY.length xc]:=⟨_,rfl⟩;obtain⟨f,n⟩:=AF (G.alloc (.cells V 35));have a':Below G.heap.size G f:=by rw[n];exact(wB _ G).alloc (wC _) _
 have k3:f.heap[G.heap.size]? = some (.cells V 35):=by rw[n];exact wE _ _
 subst g7;have N:=qH (fun W (h:Below f.heap.size f W)=>And.intro (keep7 h (AW k3).1) (keep3' h (AW k3).2));have S:=qH (fun W (h:Below f.heap.size f W)=>(a6.keep a').keep h);have i2:=qH k3;obtain⟨⟨t,u,v,x,y,z,A⟩,B,C,D⟩:=N.out f (wB _ _);have g8:=qH (btt (btt d8 d9) a');clear k3 a6 d8 d9 a';go_upto_region 2 with fail
 rw[<-n];replace n:=qH n;have d:=qH (jL (S.out f (wB _ _)));go_wp2_with fail
 refine d.out.mono ?_;rintro e I ⟨ca,cc,rfl,c6,e1⟩;clear t u v x y z A B C D d;obtain⟨O,o⟩:=AF (I.alloc (.cells #[.slice ca 4 cc] 57));have b1:Below I.heap.size I O:=by rw[o];exact(wB _ I).alloc (wC _) _
 have k5:O.heap[I.heap.size]? = some (.cells #[.slice ca 4 cc] 57):=by rw[o];exact wE _ _
 have X:=btt e1 b1;have c8:=qH (c6.keep b1);have f0:=qH k5;obtain⟨⟨t,u,v,x,y,z,A⟩,B,C,D⟩:=N.out O X;clear k5 c6 e1 b1;go_upto_region 3 with fail
 rw[<-o];replace o:=qH o;have d:=qH (jM (S.out O X));go_wp2_with fail
 refine d.out.mono ?_;rintro e J ⟨da,dc,rfl,c7,e2⟩;clear t u v x y z A B C D d;obtain⟨P,p⟩:=AF (J.alloc (.cells #[.slice da 2 dc] 57));have b4:Below J.heap.size J P:=by rw[p];exact(wB _ J).alloc (wC _) _
 have k7:P.heap[J.heap.size]? = some (.cells #[.slice da 2 dc] 57):=by rw[p];exact wE _ _
 have b2:=btt e2 b4;have Y:=btt X b2;have c9:=qH (c7.keep b4);have f2:=qH k7;obtain⟨⟨t,u,v,x,y,z,A⟩,B,C,D⟩:=N.out P Y;clear k7 c7 e2 b4;go_upto_region 4 with fail
 rw[<-p];replace p:=qH p;have d:=qH (jN (S.out P Y));go_wp2_with fail
 refine d.out.mono ?_;rintro e K ⟨mv,rfl,a5,e3⟩;clear t u v x y z A B C D d;have g4:=a5;obtain⟨fa,fc,ta,tc,h8,-⟩:=g4;subst h8;obtain⟨W9,q⟩:=AF (K.alloc (.cells #[.slice fa JZ.length fc,.slice ta KO.length tc] 40));have b5:Below K.heap.size K W9:=by rw[q];exact(wB _ K).alloc (wC _) _
 have k9:W9.heap[K.heap.size]? = some (.cells #[.slice fa JZ.length fc,.slice ta KO.length tc] 40):=by rw[q];exact wE _ _
 have r:=btt e3 b5;have b3:=btt b2 r;have e0:=btt Y r;have d4:=qH (a5.keep b5);have f4:=qH k9;clear k9 a5 e3 b5;go_upto_region 5 with fail
 rw[<-q];replace q:=qH q;refine rG (AN b3 f0.out) (c8.out.keep b3) (AN r f2.out) (c9.out.keep r) ?_;rintro k8 k' l0 l1 l2 l4 l5 l6 b Q - - - - - - - -;have d':=btt e0 Q;have d1:=qH (d4.out.keep Q);have e5:=qH (AN Q f4.out);clear N c8 c9 f0 f2 d4 f4 Q e0 b3 r b2 Y X;obtain⟨a1,k⟩:=AF ((b.alloc (.cells #[.int .i64 0,.int .i64 2,.int .i64 0,.int .i64 4,.int .i64 0,.int .i64 7,.int .i64 1,.int .i64 3,.int .i64 1,.int .i64 6] 83)).alloc (.cells #[.int .i64 0,.int .i64 0,.int .i64 0,.int .i64 0,.int .i64 0,.int .i64 0,.int .i64 1,.int .i64 0,.int .i64 1,.int .i64 1] 83));have a7:Below b.heap.size b a1:=by rw[k];exact((wB _ b).alloc (wC _) _).alloc (by simp) _
 have kf:a1.heap[b.heap.size]? = some (.cells #[.int .i64 0,.int .i64 2,.int .i64 0,.int .i64 4,.int .i64 0,.int .i64 7,.int .i64 1,.int .i64 3,.int .i64 1,.int .i64 6] 83):=by
  rw[k];exact(Below.heap_alloc _ _ _ (by simp)).trans (wE b _)
 have kt:a1.heap[b.heap.size+1]? = some (.cells #[.int .i64 0,.int .i64 0,.int .i64 0,.int .i64 0,.int .i64 0,.int .i64 0,.int .i64 1,.int .i64 0,.int .i64 1,.int .i64 1] 83):=by
  rw[k];have:=wE (b.alloc (.cells #[.int .i64 0,.int .i64 2,.int .i64 0,.int .i64 4,.int .i64 0,.int .i64 7,.int .i64 1,.int .i64 3,.int .i64 1,.int .i64 6] 83)) (.cells #[.int .i64 0,.int .i64 0,.int .i64 0,.int .i64 0,.int .i64 0,.int .i64 0,.int .i64 1,.int .i64 0,.int .i64 1,.int .i64 1] 83)
  rwa [World.size_alloc] at this
 have hF:=qH (ZT kf);have hT:=qH (ZT kt).1;have U:=btt d' a7;have d2:=qH (d1.out.keep a7);have e6:=qH (AN a7 e5.out);have b6:=qH (AN U i2.out);clear kf kt d1 e5 d';go_upto_region 9 with fail
 rw[<-k];replace k:=qH k;refine rH b6.out (fun W h=>YG (S.out W (btt U h)) (hF.out.2.keep h) jD jF) ?_;rintro y3 y4 y5 y7 j0 g - - - s;obtain⟨ia,ic,h4⟩:∃a c,y7 = .slice a 2 c:=by obtain⟨a,c,_,_,a3,_⟩:=s;exact⟨a,c,a3⟩
 subst h4;have b0:=btt U g;have f5:=qH (AN g b6.out);have d3:=qH (d2.out.keep g);have e7:=qH (AN g e6.out);have c':=qH (hF.out.1.keep g);have d7:=qH (hT.out.keep g);have s:=qH s;clear d2 e6 hF hT b6 g;go_upto_region 10 with fail
 refine rF f5.out (fun W h j1 hk=>YG (S.out W (btt b0 h)) hk jE jG) ?_;rintro y1 y2 l8 l' y6 f' i - - - - Z;obtain⟨ja,jc,h6⟩:∃a c,y6 = .slice a 1 c:=by obtain⟨a,c,_,_,a3,_⟩:=Z;exact⟨a,c,a3⟩
 subst h6;have g9:=btt b0 i;have g3:=qH (d3.out.keep i);have i1:=BA (AN i e7.out);have g2:=qH (c'.out.keep i);have g6:=qH (d7.out.keep i);have h3:=qH (s.out.keep i);have Z:=qH Z;obtain⟨m0,m1⟩:=i1;have M:=(cL g3.out (show GC f' (.agg #[.slice (some ⟨b.heap.size,0,none⟩) 5 5,.slice (some ⟨b.heap.size+1,0,none⟩) 5 5]) JZ KO from ⟨_,_,_,_,rfl,g2.out,g6.out⟩));rw[show(decide (JZ=JZ) && decide (KO=KO))=true by simp] at M;replace M:=qH M;clear d3 e7 c' d7 s i b0 U f5;go_wp2_with fail
 refine M.out.mono ?_;rintro e F ⟨rfl,R⟩;have g':=btt g9 R;obtain⟨b9,l⟩:=AF (F.alloc (.cells #[.int .i64 0,.int .i64 1] 3));have T:Below F.heap.size F b9:=by rw[l];exact(wB _ F).alloc (wC _) _
 have e8:b9.heap[F.heap.size]? = some (.cells #[.int .i64 0,.int .i64 1] 3):=by rw[l];exact wE _ _
 have E:=OJ (h3.out.keep (btt R T)) (ON e8);rw[vZ (rfl:([0,1]:List Int) = [0,1])] at E;have E:=qH E;clear e8 m0 m1 M;go_wp2_with fail
 rw[<-l];replace l:=qH l;refine E.out.mono ?_;rintro e j ⟨rfl,e4⟩;have a8:=e4.below;have h0:=btt g' (btt T a8);obtain⟨a2,m⟩:=AF (j.alloc (.cells #[.int .i64 0] 3));have a9:Below j.heap.size j a2:=by rw[m];exact(wB _ j).alloc (wC _) _
 have e9:a2.heap[j.heap.size]? = some (.cells #[.int .i64 0] 3):=by rw[m];exact wE _ _
 have d0:AR a2 (.slice (some ⟨j.heap.size,0,none⟩) 1 1) [0]:=⟨_,_,j.heap.size,0,rfl,fun _=>rfl,fun i0 hj=>by
  match i0,hj with
  | 0,_=>exact wJ e9,by simp⟩
 have L:=OJ (Z.out.keep (btt (btt R T) (btt a8 a9))) d0;rw[vZ (rfl:([0]:List Int) = [0])] at L;have L:=qH L;have h1:=btt h0 a9;clear e9 d0 E R T a8 a9 e4;go_wp2_with fail
 rw[<-m];replace m:=qH m;refine L.out.mono ?_;rintro e k4 ⟨rfl,h9⟩;have h2:=btt g8.out (btt h1 h9.below);go_wp2;go_ret;exact⟨rfl,h2⟩
def RO (w:World) (e:Ending) (w':World):Prop:=e = .returned (.bool true)/\Below w.heap.size w w'
def PA (fs:Jc):Prop:=fs.length<=1000/\∀s∈fs,VS s/\s.length<=8
theorem fD:PA []:=⟨by decide,fun s h=>by cases h⟩
theorem IA.kssG {w:World}{v:Value}{fs:Jc}(h:IA w v fs) (g:PA fs):∃a c,v = .agg #[.slice a fs.length c]/\BT 2 w (.slice a fs.length c) fs:=by
 obtain⟨a,c,rfl,O⟩:=h;exact⟨a,c,rfl,(O.kssc (by have:=g.1;omega) (fun x b=>by have:=(g.2 x b).2;omega)).kss⟩
theorem cY {w:World}{u v:Value}{fs:Jc}(x:BT 2 w u fs) (y:BT 2 w v fs) (g:PA fs) :
  Calls Tryz.prog 25 #[.agg #[u],.agg #[v]] w fun e w'=>e = .returned (.bool true)/\Below w.heap.size w w':=by
 have h:=qW x y (fun s a=>(g.2 s a).1) (fun s a=>(g.2 s a).1);rwa [vZ (rfl:fs=fs)] at h
theorem PN {w V:World}{u:Value}{fs:Jc}(a:V=w.alloc (.cells #[u] 57)) (K:BT 2 w u fs) :
  Below w.heap.size w V/\Hid (∀W,Below V.heap.size V W->W.cell? ⟨w.heap.size,0,none⟩=some u/\BT 2 W u fs):=by
 have b:Below w.heap.size w V:=by rw[a];exact(wB _ w).alloc (wC _) _
 have k:V.heap[w.heap.size]? = some (.cells #[u] 57):=by rw[a];exact wE _ _
 exact⟨b,fun W h=>⟨AC h (wJ k),K.keep (btt b h)⟩⟩
theorem XQ {w:World}{v:Value}{n i o an r tn E:Int}{cs:List Cs}{ss:Jc}{vs:Jb}{xs:List Ex}(h:CC w v n i o cs an ss r tn vs xs) (f:DH n i o cs an ss r=true) (b:E=0->AZ n i o cs an ss r tn vs xs=0) (idx:Int) :
  PA (if E=0 then BC (AX n.toNat r.toNat xs idx) else []):=by
 split
 ·next a=>
  obtain⟨-,-,-,-,G⟩:=IR h f (b a);have j:=G.xl;have g:=G.n5;refine⟨?_,fun s c=>?_⟩
  ·have d:=OP (l:=AX n.toNat r.toNat xs idx);have e:=MD (n:=n.toNat) (r:=r.toNat) (xs:=xs) (idx:=idx);omega
  ·obtain⟨x,_,rfl⟩:=List.mem_map.1 (GF.1 c).1;refine⟨UT,?_⟩;have:=IQ (ok:=fun p=>!AY (DT x) (p:Int)) (l:=x.2.2.getD r.toNat []) n.toNat
   unfold BP;omega
 ·exact fD
theorem fL {E idx:Int}{m:Nat}(h:GD E idx m=0):E=0:=by
 unfold GD at h;split at h
 ·exact absurd h (by assumption)
 ·next a=>exact Decidable.not_not.1 a
theorem PZ {n i o an r:Int}{cs:List Cs}{ss:Jc}{vs:Jb}{xs:List Ex}(h:JF n i o cs an ss r vs xs=true):DH n i o cs an ss r=true:=by
 unfold JF at h;exact(Bool.and_eq_true _ _▸h).1
theorem sR {w:World}{u v:Value}{s:Jb}(h:KS 2 w u s) (k:KS 2 w v s) (hs:VS s) :
  Calls Tryz.prog 26 #[u,v] w fun e w'=>e = .returned (.bool true)/\Below w.heap.size w w':=by
 have:=cO h k hs hs
 rwa [vZ (rfl:s=s)] at this
theorem mQ {w:World}{v:Value}{n i o an r tn:Int}{cs:List Cs}{ss:Jc}{vs:Jb}{xs:List Ex}{x e0:Int}(h:IY w v n i o cs an ss r tn vs xs) :
  Calls Tryz.prog 5 #[v,.int .i64 x,.int .i64 e0] w (RO w):=by
 have T:=qH (fun W (b:Below w.heap.size w W)=>h.keep b);obtain⟨b8,b',b9,c',va,vc,xa,xc,rfl,-,-,-⟩:=h;obtain⟨M,D⟩:=AF (w.alloc (.cells #[.int .i64 n,.int .i64 i,.int .i64 o,.slice b8 cs.length b',.int .i64 an,.slice b9 ss.length c',.int .i64 r,.int .i64 tn,.slice va vs.length vc,.slice xa xs.length xc] 35));have G:Below w.heap.size w M:=by rw[D];exact(wB _ w).alloc (wC _) _
 have kS:M.heap[w.heap.size]? = some (.cells #[.int .i64 n,.int .i64 i,.int .i64 o,.slice b8 cs.length b',.int .i64 an,.slice b9 ss.length c',.int .i64 r,.int .i64 tn,.slice va vs.length vc,.slice xa xs.length xc] 35):=by rw[D];exact wE _ _
 have Y:=qH (UK (T.out M G));have J:=qH (fun W (b:Below M.heap.size M W)=>And.intro (keep7 b (AW kS).1) (keep3' b (AW kS).2));obtain⟨⟨g,d,f,j,k,l,m⟩,p,q,s⟩:=J.out M (wB _ _);rw[D] at g d f j k l m p q s;clear kS;cases N:JF n i o cs an ss r vs xs
 ·rw[N] at Y;clear N;go_enter Tryz.func5, Tryz.ntmps5
  go_wp2_with fail
  rw[<-D];replace D:=qH D;refine Y.out.mono ?_;rintro e w2 ⟨rfl,e2⟩;clear g d f j k l m p q s;go_wp2_with fail
  refine(LP w2).mono ?_;rintro e w3 ⟨rfl,a7⟩;have a8:=btt (btt G e2) a7;go_wp2;go_ret;exact⟨rfl,a8⟩
 ·rw[N] at Y;have I:=PZ N;have T:=qH (fun W (b:Below w.heap.size w W)=>(T.out W b).sys N);have a6:=T.out w (wB _ _);have a9:=qH (XQ a6 I (E:=AZ n i o cs an ss r tn vs xs) id (-1));have a':=qH (XQ a6 I (E:=GD (AZ n i o cs an ss r tn vs xs) x cs.length) fL x)
  have c4:Hid (VS (if IP (AZ n i o cs an ss r tn vs xs) e0 xs.length (BP n.toNat r.toNat (xs.getD e0.toNat BJ))=0 then BP n.toNat r.toNat (xs.getD e0.toNat BJ) else [])):=by
   show VS _;split
   ·exact RB
   ·intro f8 hz;cases hz
  have P:=fun W (b:Below w.heap.size w W)=>UA (T.out W b) I;have Q:=fun W (b:Below w.heap.size w W)=>pN (T.out W b) I;have R:=fun W (b:Below w.heap.size w W)=>bO (idx:=x) (T.out W b) I;have S:=fun W (b:Below w.heap.size w W)=>pI (idx:=x) (T.out W b) I;have U:=fun W (b:Below w.heap.size w W)=>oN (idx:=e0) (T.out W b) I;have V:=fun W (b:Below w.heap.size w W)=>rD (idx:=e0) (T.out W b) I;obtain⟨FI,c1⟩:∃F,(if AZ n i o cs an ss r tn vs xs=0 then BC (AX n.toNat r.toNat xs (-1)) else [])=F:=⟨_,rfl⟩;obtain⟨FO,c3⟩:∃F,(if GD (AZ n i o cs an ss r tn vs xs) x cs.length=0 then BC (AX n.toNat r.toNat xs x) else [])=F:=⟨_,rfl⟩;obtain⟨FM,c2⟩:∃F,(if IP (AZ n i o cs an ss r tn vs xs) e0 xs.length (BP n.toNat r.toNat (xs.getD e0.toNat BJ))=0 then BP n.toNat r.toNat (xs.getD e0.toNat BJ) else [])=F:=⟨_,rfl⟩;simp only[c1] at P Q a9;simp only[c3] at R S a';simp only[c2] at U V c4;obtain⟨zO,c7⟩:=AB (GD (AZ n i o cs an ss r tn vs xs) x cs.length);obtain⟨zM,c6⟩:=AB (IP (AZ n i o cs an ss r tn vs xs) e0 xs.length (BP n.toNat r.toNat (xs.getD e0.toNat BJ)));simp only[c7] at R S;simp only[c6] at U V;obtain⟨zI,c5⟩:=AB (AZ n i o cs an ss r tn vs xs);simp only[c5] at P Q;replace P:=qH P;replace Q:=qH Q;replace R:=qH R;replace S:=qH S;replace U:=qH U;replace V:=qH V;clear c5 c1 c7 c3 c6 c2 N I a6;go_enter Tryz.func5, Tryz.ntmps5
  go_wp2_with fail
  rw[<-D];replace D:=qH D;refine Y.out.mono ?_;rintro e w2 ⟨rfl,c⟩;clear g d f j k l m p q s Y;obtain⟨⟨g,d,f,j,k,l,m⟩,p,q,s⟩:=J.out w2 c;replace c:=qH c;have C:=P.out w2 (btt G c.out);replace C:=qH C;go_wp2_with fail
  refine C.out.mono ?_;rintro e u1 ⟨v1,rfl,O,b⟩;obtain⟨d4,d8,rfl,K⟩:=O.kssG a9.out;obtain⟨V1,a1⟩:=AF (u1.alloc (.cells #[.slice d4 FI.length d8] 57));obtain⟨z,u⟩:=PN a1 K;have t:=btt b z;replace c:=qH (btt c.out t);clear g d f j k l m p q s C O K b z t;obtain⟨⟨g,d,f,j,k,l,m⟩,p,q,s⟩:=J.out V1 c.out;have C:=qH (Q.out V1 (btt G c.out));go_upto_region 4 with fail
  rw[<-a1];replace a1:=qH a1;go_wp2_with fail
  refine C.out.mono ?_;rintro e u2 ⟨v2,rfl,O,b⟩;obtain⟨d5,d9,rfl⟩:=O.shape;have K:=O.kss;obtain⟨V2,a2⟩:=AF (u2.alloc (.cells #[.slice d5 FI.length d9] 57));obtain⟨z,A⟩:=PN a2 K;have t:=btt b z;replace u:=qH (fun W a=>u.out W (btt t a));replace c:=qH (btt c.out t);clear g d f j k l m p q s C O K b z t;obtain⟨⟨g,d,f,j,k,l,m⟩,p,q,s⟩:=J.out V2 c.out;have C:=qH (R.out V2 (btt G c.out));go_upto_region 5 with fail
  rw[<-a2];replace a2:=qH a2;go_wp2_with fail
  refine C.out.mono ?_;rintro e u3 ⟨v3,rfl,O,b⟩;obtain⟨d6,d',rfl,K⟩:=O.kssG a'.out;obtain⟨V3,a3⟩:=AF (u3.alloc (.cells #[.slice d6 FO.length d'] 57));obtain⟨z,y⟩:=PN a3 K;have t:=btt b z;replace u:=qH (fun W a=>u.out W (btt t a));replace A:=qH (fun W a=>A.out W (btt t a));replace c:=qH (btt c.out t);clear g d f j k l m p q s C O K b z t;obtain⟨⟨g,d,f,j,k,l,m⟩,p,q,s⟩:=J.out V3 c.out;have C:=qH (S.out V3 (btt G c.out));go_upto_region 6 with fail
  rw[<-a3];replace a3:=qH a3;go_wp2_with fail
  refine C.out.mono ?_;rintro e u4 ⟨v4,rfl,O,b⟩;obtain⟨d7,e1,rfl⟩:=O.shape;have K:=O.kss;obtain⟨V4,a4⟩:=AF (u4.alloc (.cells #[.slice d7 FO.length e1] 57));obtain⟨z,B⟩:=PN a4 K;have t:=btt b z;replace u:=qH (fun W a=>u.out W (btt t a));replace A:=qH (fun W a=>A.out W (btt t a));replace y:=qH (fun W a=>y.out W (btt t a));replace c:=qH (btt c.out t);clear g d f j k l m p q s C O K b z t;obtain⟨⟨g,d,f,j,k,l,m⟩,p,q,s⟩:=J.out V4 c.out;have C:=qH (U.out V4 (btt G c.out));go_upto_region 7 with fail
  rw[<-a4];replace a4:=qH a4;go_wp2_with fail
  refine C.out.mono ?_;rintro e u5 ⟨v5,rfl,O,b⟩;obtain⟨a5,f0,e3⟩:=O.shape;subst e3;have L:=qH (fun W (a:Below u5.heap.size u5 W)=>O.keep a);replace u:=qH (fun W a=>u.out W (btt b a));replace A:=qH (fun W a=>A.out W (btt b a));replace y:=qH (fun W a=>y.out W (btt b a));replace B:=qH (fun W a=>B.out W (btt b a));replace c:=qH (btt c.out b);clear g d f j k l m p q s C O b;obtain⟨⟨g,d,f,j,k,l,m⟩,p,q,s⟩:=J.out u5 c.out;have C:=qH (V.out u5 (btt G c.out));go_wp2_with fail
  refine C.out.mono ?_;rintro e u6 ⟨v6,rfl,O,b⟩;obtain⟨e',f1,e4⟩:=O.shape;subst e4;have X:=qH (fun W (a:Below u6.heap.size u6 W)=>O.keep a);replace u:=qH (fun W a=>u.out W (btt b a));replace A:=qH (fun W a=>A.out W (btt b a));replace y:=qH (fun W a=>y.out W (btt b a));replace B:=qH (fun W a=>B.out W (btt b a));replace L:=qH (fun W a=>L.out W (btt b a));replace c:=qH (btt c.out b);clear g d f j k l m p q s C O b;obtain⟨⟨g,d,f,j,k,l,m⟩,p,q,s⟩:=J.out u6 c.out;obtain⟨m1,Z⟩:=u.out u6 (wB _ _);obtain⟨m2,k2⟩:=A.out u6 (wB _ _);have C:=qH (cY Z k2 a9.out);clear Z k2 g d f j k l m p q s;go_wp2_with fail
  refine C.out.mono ?_;rintro e x1 ⟨rfl,b⟩;replace c:=qH (btt c.out b);clear C m1 m2;replace y:=qH (fun W a=>y.out W (btt b a));replace B:=qH (fun W a=>B.out W (btt b a));replace L:=qH (fun W a=>L.out W (btt b a));replace X:=qH (fun W a=>X.out W (btt b a));obtain⟨m1,Z⟩:=y.out x1 (wB _ _);obtain⟨m2,k2⟩:=B.out x1 (wB _ _);have C:=qH (cY Z k2 a'.out);clear Z k2 b;go_wp2_with fail
  refine C.out.mono ?_;rintro e x3 ⟨rfl,b⟩;replace c:=qH (btt c.out b);clear C m1 m2;replace y:=qH (fun W a=>y.out W (btt b a));replace B:=qH (fun W a=>B.out W (btt b a));replace L:=qH (fun W a=>L.out W (btt b a));replace X:=qH (fun W a=>X.out W (btt b a));have C:=qH (sR (L.out x3 (wB _ _)) (X.out x3 (wB _ _)) c4.out);clear b;go_wp2_with fail
  refine C.out.mono ?_;rintro e x5 ⟨rfl,b⟩;replace c:=qH (btt c.out b);clear C;clear b;go_wp2_with fail
  refine(LP x5).mono ?_;rintro e w3 ⟨rfl,a7⟩;have a8:=btt (btt G c.out) a7;go_wp2;go_ret;exact⟨rfl,a8⟩
end Go.Proofs.YtcnedkkcgdkioaaGreat
namespace Go.Proofs.YtcnedkkcgdkioaaGreat
open Go.RowKit Go.ChangeShapes Go.WideShapes Go.ChangeAt Go.Deep Go.WideElems
section
variable {H:Type} {enc:TypeId × Value->H} {w:World} {base:Nat} {spare:Nat->Bool} {held:Bool}
theorem iV {cs:List Value}(h:cs.length=8):∃a b c d e f g i,cs = [a,b,c,d,e,f,g,i]:=by
 match cs,h with
 | [a,b,c,d,e,f,g,i],_=>exact⟨a,b,c,d,e,f,g,i,rfl⟩
theorem nD {G:Nat}{cs:List Value}{x:DataW H × List MemPlace}(h:DataW.trod enc Tryz.prog w base spare held G 178 cs=some x):∃xs:List Int,xs.length=8/\cs=xs.map (Value.int .i64):=by
 have T : Tryz.prog.cellsOf 178=8:=by kernel_rfl
 have S : Tryz.prog.cellsOf 148=7:=by kernel_rfl
 have R : Tryz.prog.cellsOf 146=6:=by kernel_rfl
 have Q : Tryz.prog.cellsOf 112=5:=by kernel_rfl
 have a : Tryz.prog.cellsOf 3=1:=by kernel_rfl
 obtain⟨Z,y1,n,_,u,s,t⟩:=trod_struct2 Tryz.underlying178 h;rw[T] at u;obtain⟨A,b,d,f,g,l,B,C,rfl⟩:=iV u;simp only[S,a,List.drop_zero,List.take_succ_cons,List.take_zero,List.drop_succ_cons] at s t;obtain⟨z,F,_⟩:=DataW.trod_int Tryz.underlying3 t;obtain⟨z0,z1,V,_,_,q,r⟩:=trod_struct2 Tryz.underlying148 s;simp only[R,a,List.drop_zero,List.take_succ_cons,List.take_zero,List.drop_succ_cons] at q r;obtain⟨y,E,_⟩:=DataW.trod_int Tryz.underlying3 r;obtain⟨X,Y,W,_,_,o,p⟩:=trod_struct2 Tryz.underlying146 q;simp only[Q,a,List.drop_zero,List.take_succ_cons,List.take_zero,List.drop_succ_cons] at o p;obtain⟨v,D,_⟩:=DataW.trod_int Tryz.underlying3 o;obtain⟨xs,m,_,_,_,U,K⟩:=DataW.trod_array Tryz.underlying112 p
 have j:∀(i:Nat) (c:Value),i < 5->(([b,d,f,g,l]:List Value).drop i).take 1 = [c]->∃k,c = .int .i64 k:=fun i c J I=>by
  have:=K i J
  rw[a,Nat.mul_one,I,List.getElem?_eq_getElem (by omega)] at this;obtain⟨k,e,_⟩:=DataW.trod_int Tryz.underlying3 this;exact⟨k,by simpa using e⟩
 obtain⟨L,rfl⟩:=j 0 b (by omega) rfl;obtain⟨M,rfl⟩:=j 1 d (by omega) rfl;obtain⟨N,rfl⟩:=j 2 f (by omega) rfl;obtain⟨O,rfl⟩:=j 3 g (by omega) rfl;obtain⟨P,rfl⟩:=j 4 l (by omega) rfl;obtain rfl:A = .int .i64 v:=by simpa using D
 obtain rfl:B = .int .i64 y:=by simpa using E
 obtain rfl:C = .int .i64 z:=by simpa using F
 exact⟨[v,L,M,N,O,P,y,z],rfl,rfl⟩
theorem mM {v:Value}{d:DataW H}{N:List MemPlace}{u:Nat}(h:DataW.trod enc Tryz.prog w 0 (fun _=>true) true u 180 [v]=some (d,N)) (K:∀n∈d.weights Tryz.prog 180,n<=reachBytes):∃xs,CO 8 w v xs:=by
 have M : Tryz.prog.cellsOf 178=8:=by kernel_rfl
 have r : Tryz.prog.bytesOf 178=64:=by kernel_rfl
 rcases open_slice Tryz.underlying180 h with⟨g,_⟩|⟨a,l,s,m,n,D,P,g,_,G,Q,q,A,x⟩
 ·obtain rfl:v = .slice none 0 0:=by simpa using g
  exact⟨[],none,0,0,0,rfl,by simp,by intro j b;simp at b,by simp,by simp⟩
 ·obtain rfl:v = .slice (some a) l s:=by simpa using g
  simp only[if_true] at q;subst q;obtain⟨rfl,_⟩:=Prod.mk.injEq ..▸A;have J:=K ((l+(m - l)) * 64) (by simp[DataW.weights,Tryz.underlying180,r]);unfold reachBytes at J;rw[M] at x
  obtain⟨X,c⟩:=choose_lt (α:=List Int) (n:=l) (p:=fun i xs=>xs.length=8/\∀j,j < 8->w.cell? (a.add (i * 8+j))=some (.int .i64 (xs.getD j 0))) (fun i F=>by
   obtain⟨O,t,y⟩:=x i (by omega);obtain⟨xs,L,rfl⟩:=nD y;obtain⟨_,_,E⟩:=World.cells?_some t;refine⟨xs,L,fun j b=>?_⟩;have:=E j (by omega)
   rw[add_add] at this;rw[this,List.getElem?_map,List.getElem?_eq_getElem (by omega),AK (by omega)];rfl)
  have I:l<=2199023255552:=by omega
  have C:∀j,j < l->((List.range l).map X).getD j []=X j:=fun j b=>by simp[b]
  refine⟨(List.range l).map X,some a,m,a.block,a.off,by simp,fun z=>?_,fun j b=>?_,by simpa using I,by simpa using G⟩
  ·have k:=(c 0 (by simpa using z)).2 0 (by omega);rw[show a.add (0 * 8+0)=a by simp[Addr.add]] at k;rw[<-FC k]
  ·have f:j < l:=(by simpa using b);rw[C j f];have o:=(c 0 (by omega)).2 0 (by omega);rw[show a.add (0 * 8+0)=a by simp[Addr.add]] at o;refine⟨(c j f).1,fun i F=>?_⟩;have B:=(c j f).2 i (by have:=(c j f).1;omega)
   have e:a.add (j * 8+i)=⟨a.block,a.off+j * 8+i,none⟩:=by
    have:=FC o
    rw[this,Nat.add_assoc];exact add_plain _ _ _
   rw[<-e];exact B
theorem VD {e:TypeId}:∀ {l:List (DataW H)}{x:DataW H},x∈l->∀n∈x.weights Tryz.prog e,n∈DataW.weightsAll Tryz.prog e l:=by
 intro l;induction l with
 | nil=>intro x h;cases h
 | cons y r i=>
  intro x h n a;simp only[DataW.weightsAll,List.mem_append];rcases List.mem_cons.1 h with rfl|h
  ·exact .inl a
  ·exact .inr (i h n a)
end
end Go.Proofs.YtcnedkkcgdkioaaGreat
namespace Go.Proofs.YtcnedkkcgdkioaaGreat
open Go.RowKit Go.ChangeShapes Go.WideShapes Go.ChangeAt Go.Deep Go.WideElems
section
variable {H:Type} {enc:TypeId × Value->H} {w:World}
theorem fM {cs:List Value}{x:DataW H × List MemPlace}{u:Nat}(h:DataW.trod enc Tryz.prog w 0 (fun _=>true) true u 95 cs=some x) (p:∀n∈x.1.weights Tryz.prog 95,n<=reachBytes) :
  ∃(u0 u1 u2:Value) (c:Cs),cs = [u0,u1,u2]/\AR w u0 c.1/\BM w u1 c.2.1/\BM w u2 c.2.2:=by
 have v : Tryz.prog.cellsOf 95=3:=by kernel_rfl
 have k : Tryz.prog.cellsOf 48=1:=by kernel_rfl
 have y : Tryz.prog.cellsOf 78=1:=by kernel_rfl
 have g : Tryz.prog.cellsOf 3=1:=by kernel_rfl
 have e : Tryz.prog.bytesOf 3=8:=by kernel_rfl
 have i : Tryz.prog.bytesOf 48=24:=by kernel_rfl
 obtain⟨C,D,E,n,q,o,j,l,m⟩:=trod_struct3 Tryz.underlying95 h;rw[v] at o
 obtain⟨u0,u1,u2,rfl⟩:∃a b c,cs = [a,b,c]:=by
  match cs,o with
  | [a,b,c],_=>exact⟨a,b,c,rfl⟩
 simp only[k,y,List.drop_zero,List.take_succ_cons,List.take_zero,List.drop_succ_cons] at j l m;subst q
 have f:∀n,(n∈C.1.weights Tryz.prog 48\/n∈D.1.weights Tryz.prog 78\/n∈E.1.weights Tryz.prog 78)->n<=reachBytes:=fun n d=>p n (by
  simp only[DataW.weights,Tryz.underlying95,DataW.weightsEach,List.map_cons,List.map_nil,List.mem_append];rcases d with d|d|d
  ·exact .inl d
  ·exact .inr (.inl d)
  ·exact .inr (.inr (.inl d)))
 obtain⟨z,r⟩:=ZN Tryz.underlying48 Tryz.underlying3 g e j (fun n d=>f n (.inl d));obtain⟨A,s⟩:=TD Tryz.underlying78 Tryz.underlying48 Tryz.underlying3 k i g e l (fun n d=>f n (.inr (.inl d)));obtain⟨B,t⟩:=TD Tryz.underlying78 Tryz.underlying48 Tryz.underlying3 k i g e m (fun n d=>f n (.inr (.inr d)));exact⟨u0,u1,u2,(z,A,B),rfl,r,s,t⟩
theorem NX {α:Type} [Inhabited α] {n:Nat}{p:Nat->α->Prop}(h:∀i,i < n->∃x,p i x):∃X:Nat->α,∀i,i < n->p i (X i):=
 ⟨fun i=>if b:i < n then (h i b).choose else default,fun i a=>by simp only[a,dif_pos];exact(h i a).choose_spec⟩
theorem fP {v:Value}{d:DataW H}{T:List MemPlace}{J:Nat}(h:DataW.trod enc Tryz.prog w 0 (fun _=>true) true J 22 [v]=some (d,T)) (E:∀n∈d.weights Tryz.prog 22,n<=reachBytes):∃cs a c,v = .slice a cs.length c/\HZ w v cs/\cs.length<=c/\c<=1954687338268:=by
 have S : Tryz.prog.cellsOf 95=3:=by kernel_rfl
 have G : Tryz.prog.bytesOf 95=72:=by kernel_rfl
 rcases open_slice Tryz.underlying22 h with⟨b,_⟩|⟨a,l,I,m,n,D,U,b,_,N,W,C,k,F⟩
 ·obtain rfl:v = .slice none 0 0:=by simpa using b
  exact⟨[],none,0,rfl,⟨none,0,0,0,rfl,by simp,by intro j f;simp at f,by simp⟩,wC _,by decide⟩
 ·obtain rfl:v = .slice (some a) l I:=by simpa using b
  simp only[if_true] at C;subst C;obtain⟨rfl,_⟩:=Prod.mk.injEq ..▸k;have R:=E ((l+(m - l)) * 72) (by simp[DataW.weights,Tryz.underlying22,G]);unfold reachBytes at R;rw[S] at F
  obtain⟨X,r⟩:=NX (α:=Cs) (n:=l) (p:=fun i c=>∃u0 u1 u2,w.cell? (a.add (i * 3))=some u0/\w.cell? (a.add (i * 3+1))=some u1/\w.cell? (a.add (i * 3+2))=some u2/\AR w u0 c.1/\BM w u1 c.2.1/\BM w u2 c.2.2) (fun i M=>by
   obtain⟨V,o,q⟩:=F i (by omega)
   obtain⟨u0,u1,u2,c,rfl,t,u,x⟩:=fM q (fun n P=>E n (by
    simp only[DataW.weights,Tryz.underlying22,List.mem_cons,List.mem_append];right;left
    exact VD (List.mem_map_of_mem (List.mem_range.2 M)) n P))
   obtain⟨_,_,s⟩:=World.cells?_some o;have g:=s 0 (by simp);have b:=s 1 (by simp);have k:=s 2 (by simp);rw[add_add] at g b k;exact⟨c,u0,u1,u2,g,b,k,t,u,x⟩)
  have O:l<=1954687338268:=by omega
  have L:∀j,j < l->((List.range l).map X).getD j BE=X j:=fun j f=>by simp[f]
  refine⟨(List.range l).map X,some a,m,by simp,⟨some a,m,a.block,a.off,by simp,fun g=>?_,fun j f=>?_,by simpa using O⟩,by simpa using N,by omega⟩
  ·obtain⟨u0,_,_,A,_⟩:=r 0 (by simpa using g);rw[show a.add (0 * 3)=a by simp[Addr.add]] at A;rw[<-FC A]
  ·have z:j < l:=(by simpa using f);rw[L j z];obtain⟨_,_,_,B,_⟩:=r 0 (by omega);rw[show a.add (0 * 3)=a by simp[Addr.add]] at B;have Q:=FC B;obtain⟨u0,u1,u2,K,o,q,t,u,x⟩:=r j z
   have e:∀i,a.add (j * 3+i)=⟨a.block,a.off+j * 3+i,none⟩:=fun i=>by
    rw[Q,Nat.add_assoc];exact add_plain _ _ _
   have y:=e 0;rw[Nat.add_zero,Nat.add_zero] at y;exact⟨u0,u1,u2,by rw[<-y];exact K,by rw[<-e 1];exact o,by rw[<-e 2];exact q,t,u,x⟩
end
end Go.Proofs.YtcnedkkcgdkioaaGreat
