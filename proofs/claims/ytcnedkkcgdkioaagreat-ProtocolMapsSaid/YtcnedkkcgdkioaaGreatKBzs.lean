/- Texts of this claim, put together: MK. -/
import Derived.Test.YtcnedkkcgdkioaaGreatKBzr
import Derived.Test.YtcnedkkcgdkioaaGreatKBzn

set_option maxRecDepth 100000
set_option maxHeartbeats 12800000
namespace Go.Proofs.YtcnedkkcgdkioaaGreat
open Go.RowKit
theorem VZ {w V:World}{f ta:Option Addr}{c tc:Nat}{P Q:Jb}(a:V=w.alloc (.cells #[.slice f P.length c,.slice ta Q.length tc] 40)) (K:GC w (.agg #[.slice f P.length c,.slice ta Q.length tc]) P Q) :
  Below w.heap.size w V/\Hid (∀W,Below V.heap.size V W->(W.cell? ⟨w.heap.size,0,none⟩=some (.slice f P.length c)/\W.cell? ⟨w.heap.size,1,none⟩=some (.slice ta Q.length tc))/\GC W (.agg #[.slice f P.length c,.slice ta Q.length tc]) P Q):=by
 have b:Below w.heap.size w V:=by rw[a];exact(wB _ w).alloc (wC _) _
 have k:V.heap[w.heap.size]? = some (.cells #[.slice f P.length c,.slice ta Q.length tc] 40):=by rw[a];exact wE _ _
 exact⟨b,fun W h=>⟨BA (AN h k),K.keep (btt b h)⟩⟩
theorem sN {w:World}{u v:Value}{P Q:Jb}(h:GC w u P Q) (k:GC w v P Q) :
  Calls Tryz.prog 14 #[u,v] w fun e w'=>e = .returned (.bool true)/\Below w.heap.size w w':=by
 have:=cL h k
 rwa [vZ (rfl:P=P),vZ (rfl:Q=Q)] at this
theorem mS {w:World}{v:Value}{n i o an r tn:Int}{cs:List Cs}{ss:Jc}{vs:Jb}{xs:List Ex}(h:IY w v n i o cs an ss r tn vs xs) :
  Calls Tryz.prog 3 #[v] w (RO w):=by
 have T:=qH (fun W (b:Below w.heap.size w W)=>h.keep b);obtain⟨a,c,U,X,va,vc,xa,xc,rfl,-,-,-⟩:=h;obtain⟨x,u⟩:=AF (w.alloc (.cells #[.int .i64 n,.int .i64 i,.int .i64 o,.slice a cs.length c,.int .i64 an,.slice U ss.length X,.int .i64 r,.int .i64 tn,.slice va vs.length vc,.slice xa xs.length xc] 35));have D:Below w.heap.size w x:=by rw[u];exact(wB _ w).alloc (wC _) _
 have S:x.heap[w.heap.size]? = some (.cells #[.int .i64 n,.int .i64 i,.int .i64 o,.slice a cs.length c,.int .i64 an,.slice U ss.length X,.int .i64 r,.int .i64 tn,.slice va vs.length vc,.slice xa xs.length xc] 35):=by rw[u];exact wE _ _
 have H:=qH (UK (T.out x D));have K:=qH (fun W (b:Below x.heap.size x W)=>And.intro (keep7 b (AW S).1) (keep3' b (AW S).2));obtain⟨⟨g,f,j,k,l,m,p⟩,q,s,t⟩:=K.out x (wB _ _);rw[u] at g f j k l m p q s t;clear S;cases z:JF n i o cs an ss r vs xs
 ·rw[z] at H;clear z;go_enter Tryz.func3, Tryz.ntmps3
  go_wp2_with fail
  rw[<-u];replace u:=qH u;refine H.out.mono ?_;rintro e I ⟨rfl,b1⟩;clear g f j k l m p q s t;go_wp2_with fail
  refine(LP I).mono ?_;rintro e w3 ⟨rfl,L⟩;have N:=btt (btt D b1) L;go_wp2;go_ret;exact⟨rfl,N⟩
 ·rw[z] at H;have M:=PZ z;have T:=qH (fun W (b:Below w.heap.size w W)=>(T.out W b).sys z);have A:=fun W (b:Below w.heap.size w W)=>bQ (T.out W b) M;have B:=fun W (b:Below w.heap.size w W)=>qP (T.out W b) M;obtain⟨P,Y⟩:∃F,(if AZ n i o cs an ss r tn vs xs=0 then DB (BC (AX n.toNat r.toNat xs (-1))) else [])=F:=⟨_,rfl⟩;obtain⟨Q,Z⟩:∃F,(if AZ n i o cs an ss r tn vs xs=0 then EQ vs (DB (BC (AX n.toNat r.toNat xs (-1)))) else [])=F:=⟨_,rfl⟩;simp only[Y,Z] at A B;obtain⟨zI,a0⟩:=AB (AZ n i o cs an ss r tn vs xs);simp only[a0] at A B;replace A:=qH A;replace B:=qH B;clear Y Z a0 z M;go_enter Tryz.func3, Tryz.ntmps3
  go_wp2_with fail
  rw[<-u];replace u:=qH u;refine H.out.mono ?_;rintro e I ⟨rfl,d⟩;clear g f j k l m p q s t H;obtain⟨⟨g,f,j,k,l,m,p⟩,q,s,t⟩:=K.out I d;have C:=qH (A.out I (btt D d));replace d:=qH d;go_wp2_with fail
  refine C.out.mono ?_;rintro e u1 ⟨v1,rfl,O,b⟩;obtain⟨a8,a',b7,b9,rfl,-,-⟩:=id O;obtain⟨R,V⟩:=AF (u1.alloc (.cells #[.slice a8 P.length a',.slice b7 Q.length b9] 40));obtain⟨E,J⟩:=VZ V O;have y:=btt b E;replace d:=qH (btt d.out y);clear g f j k l m p q s t C O b E y;obtain⟨⟨g,f,j,k,l,m,p⟩,q,s,t⟩:=K.out R d.out;have C:=qH (B.out R (btt D d.out));go_upto_region 4 with fail
  rw[<-V];replace V:=qH V;go_wp2_with fail
  refine C.out.mono ?_;rintro e u2 ⟨v2,rfl,O,b⟩;obtain⟨a9,b0,b8,b',rfl,-,-⟩:=id O;obtain⟨V2,G⟩:=AF (u2.alloc (.cells #[.slice a9 P.length b0,.slice b8 Q.length b'] 40));obtain⟨E,H2⟩:=VZ G O;have y:=btt b E;replace J:=qH (fun W hw=>J.out W (btt y hw));replace d:=qH (btt d.out y);clear g f j k l m p q s t C O b E y;obtain⟨⟨g,f,j,k,l,m,p⟩,q,s,t⟩:=K.out V2 d.out;obtain⟨⟨m1,m2⟩,k1⟩:=J.out V2 (wB _ _);obtain⟨⟨m3,m4⟩,k2⟩:=H2.out V2 (wB _ _);have C:=qH (sN k1 k2);clear k1 k2 g f j k l m p q s t;go_upto_region 5 with fail
  rw[<-G];replace G:=qH G;go_wp2_with fail
  refine C.out.mono ?_;rintro e x1 ⟨rfl,b⟩;replace d:=qH (btt d.out b);clear C b m1 m2 m3 m4;go_wp2_with fail
  refine(LP x1).mono ?_;rintro e w3 ⟨rfl,L⟩;have N:=btt (btt D d.out) L;go_wp2;go_ret;exact⟨rfl,N⟩
end Go.Proofs.YtcnedkkcgdkioaaGreat
