/- Texts of this claim, put together: PL PM PH QB SQ. -/
import Derived.Test.YtcnedkkcgdkioaaGreatKBze

set_option maxRecDepth 100000
set_option maxHeartbeats 12800000
namespace Go.Proofs.YtcnedkkcgdkioaaGreat
open Go.RowKit
theorem tT (p:Option Addr) (cap:Nat) (w:World):Calls Tryz.prog 153 #[.slice p 0 cap,.func (.func 154) #[] #[]] w fun e w'=>e = .returned (.tuple #[])/\w'=w:=
 AnyF.slices_SortFunc_none (P:=Tryz.prog) (ρ:=Tryz.sortVx_ren) { Tryz.sortVx with } p cap (.func (.func 154) #[] #[]) w
theorem iE (p:Option Addr) (cap:Nat) (w:World):Calls Tryz.prog 155 #[.slice p 0 cap] w fun e w'=>e = .returned (.slice p 0 cap)/\w'=w:=by
 go_enter Tryz.func155, Tryz.ntmps155
 go_wp2;go_ret;exact⟨rfl,rfl⟩
theorem uL {w:World}{v:Value}{ss:Jc}(K:BT 2 w v ss) (T:ss.length<=100) (j:∀s∈ss,0 < s.length/\s.length<=8) :
  Calls Tryz.prog 96 #[v] w fun e w'=>∃u,e = .returned u/\AA 83 2 EI w' w.heap.size u (DB ss).length (DB ss)/\Below w.heap.size w w':=by
 have H:=qH (iJ K (by omega) j)
 have F:ss.flatten.length<=800:=by
  have:∀l:Jc,(∀s∈l,s.length<=8)->l.flatten.length<=l.length * 8:=by
   intro l;induction l with
   | nil=>simp
   | cons a r J=>
    intro h;have:=J fun s c=>h s (by simp[c])
    have:=h a (by simp)
    simp only[List.flatten_cons,List.length_append,List.length_cons];omega
  have:=this ss fun s c=>(j s c).2
  omega
 obtain⟨W,X,rfl⟩:=K.shape;obtain⟨M,i⟩:=AB (ss.flatten);rw[i] at H F;have t:∀m:Jb,m.Perm M->m.Pairwise (fun a b=>¬AH b a < 0)->BV m=DB ss:=fun m p c=>oT (by rw[i];exact p) c;obtain⟨R,o⟩:=AB (DB ss);rw[o] at t|-;replace t:=qH t;clear o i K j;go_enter Tryz.func96, Tryz.ntmps96
 go_wp2_with fail
 refine H.out.mono ?_;rintro e Y ⟨u,rfl,O,q⟩;obtain⟨U,V,G⟩:=O.shape;subst G;rcases Nat.eq_zero_or_pos M.length with f|f
 ·have y:=List.length_eq_zero_iff.1 f;subst y;have A:R = []:=(t.out [] (List.Perm.refl _) List.Pairwise.nil).symm;subst A;have z:=qH O;clear O;go_wp2_with fail
  refine(tT _ _ _).mono ?_;rintro e L ⟨rfl,rfl⟩;go_wp2_with fail
  refine(iE _ _ _).mono ?_;rintro e N ⟨rfl,rfl⟩;go_wp2;go_ret;exact⟨_,rfl,z.out,q⟩
 ·obtain⟨g,Q,E,_⟩:=O.form f;injection E with e1 e2 e3;subst e1 e3;have S:=qH (tU O (by omega));clear O;go_wp2_with fail
  refine S.out.mono ?_;rintro e L ⟨rfl,P,p,x,n,B,-⟩;have I:=p.length_eq;have k:=qH (iD n (by omega));have D:=t.out P p (x.imp fun h=>by omega);rw[D] at k;clear n p x I;go_wp2_with fail
  refine k.out.mono ?_;rintro e N ⟨m,rfl,d,C,-⟩;obtain rfl:=d.length;have d:=qH d;go_wp2;go_ret;exact⟨_,rfl,d.out,(q.trans B).trans C⟩
end Go.Proofs.YtcnedkkcgdkioaaGreat
namespace Go.Proofs.YtcnedkkcgdkioaaGreat
open Go.RowKit Go.ChangeMaps Go.MapKept Go.WideMaps
theorem TS {α:Type} [DecidableEq α]:∀ {l m:List α},l.Nodup->(∀x∈l,x∈m)->l.length<=m.length
 | [],_,_,_=>Nat.zero_le _
 | x::r,m,hn,h=>by
  have a:=h x (by simp);obtain⟨c,d⟩:=List.nodup_cons.1 hn;have:=TS (l:=r) (m:=m.erase x) d fun y b=>(List.mem_erase_of_ne (fun e=>c (by subst e;exact b))).2 (h y (by simp[b]))
  rw[List.length_erase_of_mem a] at this;have:=List.length_pos_of_mem a
  simp only[List.length_cons];omega
structure PE (fs:Jc):Prop where
 vs:∀s∈fs,VS s
 sm:∀s∈fs,IX s
 asc:FJ fs
 max:∀s∈fs,(fs.any fun t=>pf s t)=false
 len:fs.length<=100
theorem nA {l:Jc}(hv:∀s∈l,VS s) (hs:∀s∈l,0 < s.length->IX s) (hl:l.length<=100):PE (BC l) where
 vs s h:=hv s (GF.1 h).1
 sm s h:=hs s (GF.1 h).1 (GF.1 h).2.1
 asc:=OO hv
 max s h:=by
  rw[<-XL];have h3:=(GF.1 h).2.2;rw[Bool.eq_false_iff] at h3|-;intro h4;obtain⟨t,h5,h6⟩:=MY.1 h4;exact h3 (MY.2 ⟨t,(GF.1 h5).1,h6⟩)
 len:=by
  refine wI ?_ hl;have hn:(BC l).Nodup:=FJ.nodup (OO hv);exact TS hn fun x hx=>(GF.1 hx).1
theorem EM.lookA {w:World}{b B:Nat}{s:List (List Int × Nat)}{x:List Int}(h:EM w b B s) (o:IF x) :
  ∃z,OI w B z (CB s x).length (BF (CB s x))/\∀W,Below w.heap.size w W->(Instr.lookup 164 (.map (some b)) (NQ x) false).run Tryz.prog W = .ok z W:=by
 obtain⟨m,M,n,T⟩:=h;have A:=fun W (f:Below w.heap.size w W)=>MX.look (vv:=(id:Value->Value)) TG UZ (VJ W) (M.keep (f.block b M.lt)).mx n o;rcases A w (wB _ w) with⟨c,l,_⟩|⟨v,c,l,_⟩
 ·refine⟨.slice none 0 0,?_,fun W f=>?_⟩
  ·rw[QQ fun y p e=>c (by rw[<-e];exact T.has y p)];exact OI.nil _ _
  ·rcases A W f with⟨_,g,_⟩|⟨q,d,_,_⟩
   ·exact g
   ·exact absurd (List.mem_map.2 ⟨_,d,rfl⟩) c
 ·obtain⟨i,k⟩:=List.mem_iff_getElem?.1 c;refine⟨v,(T.row i _ k).2,fun W f=>?_⟩;rcases A W f with⟨d,_,_⟩|⟨q,d,g,_⟩
  ·exact absurd (List.mem_map.2 ⟨_,c,rfl⟩) d
  ·obtain⟨j,a⟩:=List.mem_iff_getElem?.1 d;have e:=T.one i j _ _ k a rfl;subst e;rw[k] at a;injection a with a;injection a with _ a;subst a;exact g
theorem fS {w:World}{v:Value}{fs:Jc}(c:EB 2 w v fs) (G:PE fs) :
  Calls Tryz.prog 44 #[.agg #[v]] w fun e w'=>e = .returned (.int .i64 0)/\Below w.heap.size w w':=by
 have d7 : Tryz.prog.follows .mixedOrders=true:=by kernel_rfl
 obtain⟨f,j⟩:=AF (w.alloc (.cells #[v] 57));have X:Below w.heap.size w f:=by rw[j];exact(wB _ w).alloc (wC _) _
 have kR:f.heap[w.heap.size]? = some (.cells #[v] 57):=by rw[j];exact wE _ _
 have c7:=qH (fun W (b:Below w.heap.size w W)=>c.keep b);have f2:=G.len;have E:∀s∈fs,∀x∈s,IF x:=fun s h x A=>⟨G.vs s h x A,(G.sm s h).2.2.1 x A⟩;have y:∀s∈fs,0 < s.length/\s.length<=8:=fun s h=>⟨(G.sm s h).1,(G.sm s h).2.1⟩;have d0:=qH (fun W (b:Below w.heap.size w W)=>ZI (c.keep b).kss E (by omega) (fun s h=>by have:=(y s h).2;omega))
 have d4:Hid (∀s∈fs,((CB (DZ fs fs.length) (s.getD 0 [])).any fun i=>EP s (fs.getD i []))=false):=fun s h=>by
  rw[XM (fun a2 Q=>(G.sm a2 Q).2.2.2) (G.sm s h).2.2.2 (G.sm s h).1];exact G.max s h
 have d3:Hid (∀i,0 < i->i < fs.length->BS (fs.getD (i - 1) []) (fs.getD i []) < 0):=fun i h0 M=>by
  rw[AK M,AK (show i - 1 < fs.length by omega)];exact(List.pairwise_iff_getElem.1 G.asc) (i - 1) i (by omega) M (by omega)
 have hz:Hid (∀s∈fs,CX s=0):=fun s h=>RZ (G.sm s h);obtain⟨e8,c',c9,e4,rfl,ha,hc,-⟩:=c;have Y:=qH hc;have R:=qH (fun W (b:Below f.heap.size f W)=>wJ (AN b kR));have a:=R.out f (wB _ _);have E:=qH E;have y:=qH y;have dn:decide ((4096:Int) < (fs.length:Int))=false:=vY (by omega);rw[j] at a;clear hc kR G;go_enter Tryz.func44, Tryz.ntmps44
 go_wp2_with fail
 rw[<-j];replace j:=qH j;go_loopw [16] (fun g wr=>∃i:Nat,g = .int .i64 i/\i<=fs.length/\Below f.heap.size f wr) (fun g _=>fs.length - (intOf g).toNat)
 case atStart=>exact⟨0,rfl,by omega,wB _ _⟩
 case round=>
  clear a;obtain⟨i,rfl,M,r⟩:=hrel;have a:=R.out wr r;by_cases l:i < fs.length
  ·have d5:(i:Int) < (fs.length:Int):=(by omega);obtain rfl:=ha (by omega);obtain⟨e5,u,k⟩:=Y.out i l;have o:=btt X r;replace u:=AC o u;have S:=hz.out (fs.getD i []) (by rw[AK l];exact wG l);have I:=d3.out i;obtain⟨s,n⟩:=AB (fs.getD i []);rw[n] at k S I;have q:=NW (k.ks.keep o);rw[S] at q;have d1:=qH (fun W (b:Below wr.heap.size wr W)=>k.ks.keep (btt o b));obtain⟨ua,uc,rfl⟩:=k.shape;replace q:=qH q;replace n:=qH n;rcases Nat.eq_zero_or_pos i with h0|h0
   case' inl=>
    subst h0;rw[Nat.add_zero] at u;clear S k I;go_wp2_with fail
    refine q.out.mono ?_;rintro e B ⟨rfl,d⟩;clear a;have a:=R.out B (btt r d);go_wp2_with fail
    go_roundw
    case rel=>exact⟨1,rfl,by omega,btt r d⟩
    case measure=>simp[intOf];omega
   case' inr=>
    obtain⟨p,hp,N⟩:=Y.out (i - 1) (by omega);have O:=I h0 l;obtain⟨a2,Q⟩:=AB (fs.getD (i - 1) []);rw[Q] at N O;have D:=fun W (b:Below wr.heap.size wr W)=>SJ (N.ks.keep (btt o b)) (d1.out W b);obtain⟨c8,hZ⟩:=AB (BS a2 s);rw[hZ] at O D;obtain⟨pa,pc,rfl⟩:=N.shape;have b7:=AC o hp;have b6:=qH (fun W (b:Below wr.heap.size wr W)=>AC b b7);have f8:=qH (fun W (b:Below wr.heap.size wr W)=>AC b u);have f3:decide ((0:Int) < (i:Int))=true:=vZ (by omega);have d':IntKind.i64.wrap ((i:Int) - 1)=((i - 1:Nat):Int):=(by rw[show(i:Int) - 1=((i - 1:Nat):Int) by omega];exact IntWalk.i64_in _ (by omega));have d6:((i - 1:Nat):Int) < (fs.length:Int):=(by omega);have d8:(0:Int)<=((i - 1:Nat):Int):=Int.natCast_nonneg _;have f1:decide ((0:Int)<=c8)=false:=vY (by omega);obtain⟨e2,t⟩:=AB (i - 1);rw[t] at d' d6 d8 b6;replace t:=qH t;replace D:=qH D;have O:=qH O;clear S k I N hp Q hZ b7;go_wp2_with fail
    refine q.out.mono ?_;rintro e B ⟨rfl,d⟩;clear a;have a:=R.out B (btt r d);have q0:=b6.out B d;go_wp2_with fail
    refine(D.out B d).mono ?_;rintro e w4 ⟨rfl,H,-⟩;clear a q0;have a:=R.out w4 (btt r (btt d H));go_wp2_with fail
    go_roundw
    case rel=>exact⟨i+1,by go_num,by omega,btt r (btt d H)⟩
    case measure=>simp[intOf];omega
  ·obtain rfl:i=fs.length:=(by omega);have c6:=qH (d0.out wr (btt X r));go_wp2_with fail
   refine c6.out.mono ?_;rintro e T ⟨mb,rfl,a8,b2⟩;clear a;have F:=btt r b2;have a:=R.out T F;have HT:=qH (fun W (b:Below T.heap.size T W)=>a8.keep b);clear a8;have b0:=btt X F;go_wp2_with fail
   obtain⟨wz,b9⟩:=AF (T);rw[<-b9] at HT F b0|-;clear a b9 b2 r;go_loopw [46] (fun g wr=>∃i:Nat,g = .int .i64 i/\i<=fs.length/\Below wz.heap.size wz wr) (fun g _=>fs.length - (intOf g).toNat)
   case atStart=>exact⟨0,rfl,by omega,wB _ _⟩
   case round=>
    obtain⟨i,rfl,M,r⟩:=hrel;have b1:=btt F r;have m:=btt b0 r;by_cases l:i < fs.length
    ·have d5:(i:Int) < (fs.length:Int):=(by omega);obtain rfl:=ha (by omega);obtain⟨e5,u,k⟩:=Y.out i l;replace u:=AC m u;have z:fs.getD i []∈fs:=(by rw[AK l];exact wG l);have L:=d4.out _ z;obtain⟨s,n⟩:=AB (fs.getD i []);rw[n] at k z L;obtain⟨P,f5⟩:=y.out s z;obtain⟨sa,sc,sb,so,rfl,d9,b8,f6,f7⟩:=id k;obtain rfl:=d9 P;obtain⟨x2,xi⟩:=b8 0 P;have Z:=E.out s z (s.getD 0 []) (by rw[AK P];exact wG P)
     have a7:(CB (DZ fs fs.length) (s.getD 0 [])).length<=1000000:=by
      have h1:=TT (DZ fs fs.length) (s.getD 0 []);have h2:=QE (ss:=fs) (fun s h=>by have:=(y.out s h).2;omega) fs.length;omega
     obtain⟨x,A⟩:=AB (s.getD 0 []);rw[A] at x2 xi Z a7 L;obtain⟨p,a1,rfl⟩:=BZ x2;obtain⟨U,V⟩:=xi.all2;rw[Nat.zero_mul,Nat.add_zero] at U V;obtain⟨g7,a0,b4⟩:=(HT.out wr r).lookA Z;obtain⟨za,zc,e1⟩:=a0.shape;subst e1;have J:=fun W (b:Below wr.heap.size wr W)=>XN (c7.out W (btt m b)) (k.keep (btt m b)) (OI.intsE (a0.keep b) (by omega)) (fun e2 t=>((QP _ _ _ _).1 t).1);rw[L] at J;replace J:=qH J
     have HB:Hid (∀W,Below wr.heap.size wr W->W.cell? ⟨sb,so,none⟩=some (.int .i64 p)/\W.cell? ⟨sb,so+1,none⟩=some (.int .i64 a1)/\W.cell? ⟨w.heap.size,0,none⟩=some (.slice (some ⟨c9,e4,none⟩) fs.length c')/\(Instr.lookup 164 (.map (some mb)) (.agg #[.int .i64 p,.int .i64 a1]) false).run Tryz.prog W = .ok (.slice za (CB (DZ fs fs.length) [p,a1]).length zc) W):=
      fun W b=>⟨AC (btt m b) U,AC (btt m b) V,R.out W (btt b1 b),b4 W b⟩
     have f4:(0:Int) < (s.length:Int):=(by omega);have a:=R.out wr b1;clear L z k b8 xi x2 U V Z A n b4 a0 a7;go_upto_region 16 with fail
     clear a;refine CW d7 (by kernel_rfl) ?_
     repeat (refine WQ.step fun K c=>?_;go_simp;first|(refine c _ ?_;clear c K)|(apply Exists.intro;refine⟨fun wq C=>?_,c _ ?_⟩;(·(first|with_reducible rfl|(obtain⟨q0,q1,q2,q3⟩:=HB.out wq C;go_simp;first|done|with_reducible rfl|with_reducible exact⟨rfl,rfl⟩)));clear c K))
     (refine WQ.step fun K c=>?_;go_simp;first|(refine c _ ?_;clear c K)|(apply Exists.intro;refine⟨fun wq C=>?_,c _ ?_⟩;(·(refine(J.out wq C).mono ?_;rintro e w' ⟨rfl,d2⟩;exact⟨rfl,btt C d2⟩));clear c K))
     refine WQ.nil ?_;intro w4 H;go_wp2_with fail
     go_roundw
     case rel=>exact⟨i+1,by go_num,by omega,btt r H⟩
     case measure=>simp[intOf];omega
    ·obtain rfl:i=fs.length:=(by omega);go_wp2_with fail
     go_ret;exact⟨rfl,m⟩
theorem uM {w:World}{v:Value}{fs:Jc}(h:IA w v fs) (G:PE fs) :
  Calls Tryz.prog 48 #[v] w fun e w'=>∃u,e = .returned (.tuple #[u,.int .i64 0])/\AA 83 2 EI w' w.heap.size u (DB fs).length (DB fs)/\Below w.heap.size w w':=by
 obtain⟨f,g,rfl,i⟩:=h;have q:=G.len;have l:∀s∈fs,0 < s.length/\s.length<=8:=fun s h=>⟨(G.sm s h).1,(G.sm s h).2.1⟩;have K:=i.kssc (by omega) (fun x t=>by have:=(l x t).2;omega);obtain⟨b,a⟩:=AF (w.alloc (.cells #[.slice f fs.length g] 57));have j:Below w.heap.size w b:=by rw[a];exact(wB _ w).alloc (wC _) _
 have m:b.heap[w.heap.size]? = some (.cells #[.slice f fs.length g] 57):=by rw[a];exact wE _ _
 have H:=qH (fS (K.keep j) G);have V:=qH (fun W (c:Below w.heap.size w W)=>uL (K.keep c).kss q l);have R:=qH (fun W (c:Below b.heap.size b W)=>wJ (AN c m));have r:=R.out b (wB _ _);rw[a] at r;clear m K i G;go_enter Tryz.func48, Tryz.ntmps48
 go_wp2_with fail
 rw[<-a];replace a:=qH a;refine H.out.mono ?_;rintro e n ⟨rfl,k⟩;clear r;have r:=R.out n k;have d:=btt j k;have o:=qH (V.out n d);go_wp2_with fail
 refine o.out.mono ?_;rintro e y ⟨u,rfl,O,p⟩;have O:=qH (O.base d.size);go_wp2;go_ret2
 exact⟨_,rfl,O.out,btt d p⟩
end Go.Proofs.YtcnedkkcgdkioaaGreat
namespace Go.Proofs.YtcnedkkcgdkioaaGreat
open Go.RowKit
theorem LR {α:Type}{l:List α}{i:Nat}{d:α}(h:i < l.length):l.drop i=l.getD i d::l.drop (i+1):=by
 rw[List.drop_eq_getElem_cons h,AK h]
theorem cC {w:World}{u v:Value}{s t:Jb}(h:KS 2 w u s) (k:KS 2 w v t) :
  Calls Tryz.prog 70 #[u,v] w fun e w'=>e = .returned (.int .i64 (BS s t))/\Below w.heap.size w w':=by
 have a2 : Tryz.prog.follows .mixedOrders=true:=by kernel_rfl
 obtain⟨sa,sc,sb,so,rfl,a3,T,b0⟩:=h;obtain⟨ta,tc,tb,c2,rfl,a4,U,b1⟩:=k;have Q:=qH T;have R:=qH U;obtain⟨E,A⟩:=AB (BS s t);rw[A];have N:Hid (BS (s.drop 0) (t.drop 0)=E):=A;clear A T U;go_enter Tryz.func70, Tryz.ntmps70
 go_wp2_with fail
 go_loopw [5] (fun D wr=>∃i:Nat,D = .int .i64 i/\i<=s.length/\i<=t.length/\Hid (BS (s.drop i) (t.drop i)=E)/\Below w.heap.size w wr) (fun D _=>s.length - (intOf D).toNat)
 case atStart=>exact⟨0,rfl,by omega,by omega,N,wB _ _⟩
 case round=>
  clear N;obtain⟨i,rfl,hi,hj,j,r⟩:=hrel;by_cases p:i < s.length
  ·have a8:(i:Int) < (s.length:Int):=(by omega);by_cases n:i < t.length
   ·have a':(i:Int) < (t.length:Int):=(by omega);obtain rfl:=a3 (by omega);obtain rfl:=a4 (by omega);obtain⟨x,F⟩:=Q.out i p;obtain⟨y,G⟩:=R.out i n;have g:=j.out;rw[LR p (d:=[]),LR n (d:=[])] at g;obtain⟨c4,V⟩:=AB (s.getD i []);obtain⟨c5,X⟩:=AB (t.getD i []);rw[V] at x F g;rw[X] at y G g;rw[XE (by rw[x,y])] at g;obtain⟨a,b,rfl⟩:=BZ x;obtain⟨c,L,rfl⟩:=BZ y;obtain⟨I,J⟩:=F.all2;obtain⟨M,l⟩:=G.all2;have Y:=qH (fun W (o:Below w.heap.size w W)=>And.intro (AC o I) (And.intro (AC o J) (And.intro (AC o M) (AC o l))));have H:=fun W=>UJ a b c L W;obtain⟨Z,O⟩:=AB (AH [a,b] [c,L]);rw[O] at H g;replace H:=qH H;replace g:=qH g;clear V X F G x y j O I J M l;go_wp2_with fail
    refine CW a2 (by kernel_rfl) ?_
    repeat (refine WQ.step fun K f=>?_;go_simp;first|(refine f _ ?_;clear f K)|(apply Exists.intro;refine⟨fun q C=>?_,f _ ?_⟩;(·(first|with_reducible rfl|(obtain⟨q0,q1,q2,q3⟩:=Y.out q (btt r C);go_simp;first|done|with_reducible rfl|with_reducible exact⟨rfl,rfl⟩)));clear f K))
    (refine WQ.step fun K f=>?_;go_simp;first|(refine f _ ?_;clear f K)|(apply Exists.intro;refine⟨fun q C=>?_,f _ ?_⟩;(·(refine(H.out q).mono ?_;rintro e w' ⟨rfl,a1⟩;exact⟨rfl,btt C a1⟩));clear f K))
    repeat (refine WQ.step fun K f=>?_;go_simp;first|(refine f _ ?_;clear f K)|(apply Exists.intro;refine⟨fun q C=>?_,f _ ?_⟩;(·(first|with_reducible rfl|(go_simp;first|done|with_reducible rfl|with_reducible exact⟨rfl,rfl⟩)));clear f K))
    refine WQ.nil ?_;intro w4 P;by_cases z:Z=0
    ·have B:Hid (BS (s.drop (i+1)) (t.drop (i+1))=E):=(by show _=_;rw[<-g.out,if_pos z]);subst z;go_wp2_with fail
     go_roundw
     case rel=>exact⟨i+1,by go_num,by omega,by omega,B,btt r P⟩
     case measure=>simp[intOf];omega
    ·have B:Hid (Z=E):=(by show _=_;rw[<-g.out,if_neg z]);have dz:(Z == 0)=false:=(by simpa using z);replace z:=qH z;go_wp2_with fail
     go_ret;exact⟨by rw[B.out];rfl,btt r P⟩
   ·obtain rfl:i=t.length:=by omega
    have m:Hid (E=1):=by
     show _=_;obtain⟨x,_⟩:=Q.out t.length p;rw[<-j.out,List.drop_eq_nil_of_le (wC _),LR p (d:=[]),XG x]
    have l:decide ((s.length:Int) < (t.length:Int))=false:=vY (by omega);have d2:decide ((t.length:Int) < (s.length:Int))=true:=vZ (by omega);clear j;go_wp2_with fail
    go_ret;exact⟨by rw[m.out];rfl,r⟩
  ·obtain rfl:i=s.length:=(by omega);rcases Nat.lt_or_ge s.length t.length with n|a6
   ·have m:Hid (E = -1):=by
     show _=_;obtain⟨y,_⟩:=R.out s.length n;rw[<-j.out,List.drop_eq_nil_of_le (wC _),LR n (d:=[]),XF y]
    have l:decide ((s.length:Int) < (t.length:Int))=true:=vZ (by omega);clear j;go_wp2_with fail
    go_ret;exact⟨by rw[m.out];rfl,r⟩
   ·have S:s.length=t.length:=by omega
    have m:Hid (E=0):=by
     show _=_;rw[<-j.out,List.drop_eq_nil_of_le (wC _),List.drop_eq_nil_of_le (by omega),gU]
    have l:decide ((s.length:Int) < (t.length:Int))=false:=vY (by omega);have d2:decide ((t.length:Int) < (s.length:Int))=false:=vY (by omega);replace S:=qH S;clear j;go_wp2_with fail
    go_ret;exact⟨by rw[m.out];rfl,r⟩
theorem cO {w:World}{u v:Value}{s t:Jb}(h:KS 2 w u s) (k:KS 2 w v t) (hs:VS s) (d:VS t) :
  Calls Tryz.prog 26 #[u,v] w fun e w'=>e = .returned (.bool (decide (s=t)))/\Below w.heap.size w w':=by
 have H:=qH (cC h k);obtain⟨B,a⟩:∃B,decide (s=t)=B:=⟨_,rfl⟩;rw[a];have z:=gW hs d;obtain⟨Z,b⟩:=AB (BS s t);rw[b] at H z
 have f:(Z == 0)=B:=by
  rw[<-a,Bool.eq_iff_iff,decide_eq_true_eq,<-z];simp
 obtain⟨g,i,rfl⟩:=h.shape;obtain⟨j,l,rfl⟩:=k.shape;clear a z b h k;go_enter Tryz.func26, Tryz.ntmps26
 go_wp2_with fail
 refine H.out.mono ?_;rintro e m ⟨rfl,c⟩;go_wp2;go_ret;exact⟨rfl,c⟩
theorem UL {w:World}{u v:Value}{xs ys:Jc}(d:BT 2 w u xs) (f:BT 2 w v ys) (R:∀s∈xs,VS s) (S:∀s∈ys,VS s) :
  Calls Tryz.prog 53 #[u,v] w fun e w'=>e = .returned (.bool (decide (xs=ys)))/\Below w.heap.size w w':=by
 have Q : Tryz.prog.follows .mixedOrders=true:=by kernel_rfl
 obtain⟨xa,xc,xb,xo,rfl,T,A,Z⟩:=d;obtain⟨ya,yc,yb,yo,rfl,U,D,a0⟩:=f;obtain⟨B,c⟩:∃B,decide (xs=ys)=B:=⟨_,rfl⟩;rw[c];replace c:=qH c;replace A:=qH A;replace D:=qH D;by_cases l:xs.length=ys.length
 ·rw[<-l];replace l:=qH l;have J:Hid (xs.take 0=ys.take 0):=rfl;go_enter Tryz.func53, Tryz.ntmps53
  go_wp2_with fail
  go_loopw [5] (fun F wr=>∃i:Nat,F = .int .i64 i/\i<=xs.length/\Hid (xs.take i=ys.take i)/\Below w.heap.size w wr) (fun F _=>xs.length - (intOf F).toNat)
  case atStart=>exact⟨0,rfl,by omega,J,wB _ w⟩
  case round=>
   clear J;obtain⟨i,rfl,X,k,r⟩:=hrel;by_cases t:i < xs.length
   ·obtain rfl:=T (by omega);obtain rfl:=U (by rw[<-l.out];omega);have Y:(i:Int) < (xs.length:Int):=(by omega);have j:i < ys.length:=(by rw[<-l.out];exact t);obtain⟨a1,p,m⟩:=A.out i t;obtain⟨a4,q,n⟩:=D.out i j;replace p:=AC r p;replace q:=AC r q;have G:=R (xs.getD i []) (by rw[AK t];exact wG t);have I:=S (ys.getD i []) (by rw[AK j];exact wG j);obtain⟨x,d⟩:=AB (xs.getD i []);obtain⟨y,f⟩:=AB (ys.getD i []);rw[d] at m G;rw[f] at n I;have H:=fun W (g:Below wr.heap.size wr W)=>cO (m.keep (btt r g)) (n.keep (btt r g)) G I;obtain⟨pa,pc,rfl⟩:=m.shape;obtain⟨qa,qc,rfl⟩:=n.shape;obtain⟨C,b⟩:∃C,decide (x=y)=C:=⟨_,rfl⟩;rw[b] at H;have E:C=true->xs.take (i+1)=ys.take (i+1):=fun e=>GA k.out t j (by rw[d,f];exact of_decide_eq_true (b.trans e))
    have z:C=false->B=false:=fun e=>by
     rw[<-c.out];refine vY fun h=>of_decide_eq_false (b.trans e) ?_;rw[<-d,<-f,h]
    replace H:=qH H;replace E:=qH E;replace z:=qH z;clear d f k m n b G I;go_wp2_with fail
    have M:=qH (fun W (g:Below wr.heap.size wr W)=>And.intro (AC g p) (AC g q));clear p q;refine CW Q (by kernel_rfl) ?_
    repeat (refine WQ.step fun K a=>?_;go_simp;first|(refine a _ ?_;clear a K)|(apply Exists.intro;refine⟨fun o b=>?_,a _ ?_⟩;(·(first|with_reducible rfl|(obtain⟨q0,q1⟩:=M.out o b;go_simp;first|done|with_reducible rfl|with_reducible exact⟨rfl,rfl⟩)));clear a K))
    (refine WQ.step fun K a=>?_;go_simp;first|(refine a _ ?_;clear a K)|(apply Exists.intro;refine⟨fun o b=>?_,a _ ?_⟩;(·(refine(H.out o b).mono ?_;rintro e w' ⟨rfl,P⟩;exact⟨rfl,btt b P⟩));clear a K))
    repeat (refine WQ.step fun K a=>?_;go_simp;first|(refine a _ ?_;clear a K)|(apply Exists.intro;refine⟨fun o b=>?_,a _ ?_⟩;(·(first|with_reducible rfl|(go_simp;first|done|with_reducible rfl|with_reducible exact⟨rfl,rfl⟩)));clear a K))
    refine WQ.nil ?_;intro w3 L;cases C
    ·go_wp2_with fail
     go_ret;exact⟨by rw[z.out (by first|rfl|trivial)];rfl,btt r L⟩
    ·go_wp2_with fail
     go_roundw
     case rel=>exact⟨i+1,by go_num,t,E.out (by first|rfl|trivial),btt r L⟩
     case measure=>simp[intOf];omega
   ·have O:Hid (B=true):=by
     show _=_;rw[<-c.out];exact vZ (FZ k.out (by omega) (by rw[<-l.out];omega))
    clear k;go_wp2;go_ret;exact⟨by rw[O.out];rfl,r⟩
 ·have N:B=false:=by rw[<-c.out];exact vY fun h=>l (by rw[h])
  subst N;have V:((xs.length:Int) == (ys.length:Int))=false:=by simp;omega
  go_enter Tryz.func53, Tryz.ntmps53
  go_wp2;go_ret;exact⟨rfl,wB _ w⟩
theorem qW {w:World}{u v:Value}{xs ys:Jc}(x:BT 2 w u xs) (y:BT 2 w v ys) (i:∀s∈xs,VS s) (j:∀s∈ys,VS s) :
  Calls Tryz.prog 25 #[.agg #[u],.agg #[v]] w fun e w'=>e = .returned (.bool (decide (xs=ys)))/\Below w.heap.size w w':=by
 obtain⟨W,h⟩:=AF ((w.alloc (.cells #[u] 57)).alloc (.cells #[v] 57));have b:Below w.heap.size w W:=by rw[h];exact((wB _ w).alloc (wC _) _).alloc (by simp) _
 have H:=qH (UL (x.keep b) (y.keep b) i j);obtain⟨a,c,rfl⟩:=x.shape;obtain⟨d,f,rfl⟩:=y.shape
 have k:W.heap[w.heap.size]? = some (.cells #[.slice a xs.length c] 57):=by
  rw[h];exact(Below.heap_alloc _ _ _ (by simp)).trans (wE w _)
 have B:W.heap[w.heap.size+1]? = some (.cells #[.slice d ys.length f] 57):=by
  rw[h];have:=wE (w.alloc (.cells #[.slice a xs.length c] 57)) (.cells #[.slice d ys.length f] 57)
  rwa [World.size_alloc] at this
 have z:=wJ k;have l:=wJ B;rw[h] at z l;clear k B x y;go_enter Tryz.func25, Tryz.ntmps25
 go_wp2_with fail
 rw[<-h];replace h:=qH h;refine H.out.mono ?_;rintro e m ⟨rfl,g⟩;go_wp2;go_ret;exact⟨rfl,btt b g⟩
def IJ (s t:Jb):Bool:=decide (s.length < t.length) && CJ s t
theorem iP (l:Jc) (s:Jb):FE l s=l.any (IJ s):=rfl
theorem pO {w:World}{u v:Value}{l:Jc}{s:Jb}(h:BT 2 w u l) (k:KS 2 w v s) :
  Calls Tryz.prog 144 #[u,v] w fun e w'=>e = .returned (.bool (FE l s))/\Below w.heap.size w w':=by
 have P : Tryz.prog.follows .mixedOrders=true:=by kernel_rfl
 rw[iP];obtain⟨R,S,L⟩:=k.shape;have M:=qH k;obtain⟨T,V,U,X,rfl,F,D,Q⟩:=h;have G:=qH D;have z:Hid ((l.take 0).any (IJ s)=false):=rfl;subst L;clear D k;go_enter Tryz.func144, Tryz.ntmps144
 go_wp2_with fail
 go_loopw [5] (fun y wr=>∃i:Nat,y = .int .i64 i/\i<=l.length/\Hid ((l.take i).any (IJ s)=false)/\Below w.heap.size w wr) (fun y _=>l.length - (intOf y).toNat)
 case atStart=>exact⟨0,rfl,by omega,z,wB _ _⟩
 case round=>
  clear z;obtain⟨i,rfl,N,n,b⟩:=hrel;by_cases m:i < l.length
  ·obtain rfl:=F (by omega);have O:(i:Int) < (l.length:Int):=(by omega);obtain⟨x,g,q⟩:=G.out i m;replace g:=AC b g;obtain⟨t,o⟩:=AB (l.getD i []);rw[o] at q;have H:=qH (fun W (r:Below wr.heap.size wr W)=>cI (M.out.keep (btt b r)) (q.keep (btt b r)));obtain⟨Z,xc,rfl⟩:=q.shape;have a:=RE (p:=IJ s) m (d:=[]);rw[n.out,o,Bool.false_or] at a;have c:IJ s t=true->l.any (IJ s)=true:=fun e=>PM m (by rw[o];exact e);have K:=qH (fun W (r:Below wr.heap.size wr W)=>AC r g);by_cases f:s.length < t.length
   ·have J:decide (s.length < t.length)=true:=vZ f;have j:IJ s t=CJ s t:=(by unfold IJ;rw[vZ f];rfl);rw[j] at a c;obtain⟨C,A⟩:=AB (CJ s t);rw[A] at a c H;replace a:=qH a;replace c:=qH c;have I:=K.out wr (wB _ _);clear j A q n o f g;go_wp2_with fail
    refine(H.out wr (wB _ _)).mono ?_;rintro e Y ⟨rfl,B⟩;cases C
    ·go_wp2_with fail
     go_roundw
     case rel=>exact⟨i+1,by go_num,m,a,btt b B⟩
     case measure=>simp[intOf];omega
    ·go_wp2_with fail
     go_ret;exact⟨by rw[c.out (by first|rfl|trivial)];rfl,btt b B⟩
   ·have J:decide (s.length < t.length)=false:=vY f;have j:IJ s t=false:=(by unfold IJ;rw[vY f];rfl);rw[j] at a;replace a:=qH a;clear j q n o f g c;have I:=K.out wr (wB _ _);go_wp2_with fail
    go_roundw
    case rel=>exact⟨i+1,by go_num,m,a,b⟩
    case measure=>simp[intOf];omega
  ·obtain rfl:i=l.length:=(by omega);have E:Hid (l.any (IJ s)=false):=(by have:=n.out;rw[List.take_length] at this;exact this);clear n;go_wp2_with fail
   go_ret;exact⟨by rw[E.out];rfl,b⟩
theorem AA.oneK {α:Type}{E:TypeId}{k:Nat}{El:World->List Value->α->Prop}{w:World}{g B:Nat}{cs:List Value}{x:α}(h:w.heap[g]? = some (.cells cs.toArray E)) (d:B<=g) (b:cs.length=k) (c:∀u∈cs,u.oneCell'=true) (e:El w cs x):AA E k El w B (.slice (some ⟨g,0,none⟩) 1 1) 1 [x]:=by
 refine⟨cs,⟨by rw[b,Nat.one_mul],.inr ⟨g,1,cs.toArray,rfl,d,h,wC _,by decide,by rw[Nat.one_mul];simpa using b,by rw[Nat.one_mul,<-b];simp⟩⟩,rfl,c,fun j y a=>?_⟩;match j,a with
 | 0,a=>
  injection a with a;subst a;rw[Nat.zero_mul,List.drop_zero,<-b,List.take_length];exact e
theorem BW.stb:CP 77 BW:=BW.stab (by decide)
theorem BW.cell {w:World}{B g n cap:Nat}{s:Jc}(h:AA 77 1 BW w B (.slice (some ⟨g,0,none⟩) n cap) n s) {j:Nat}(e:j < n):∃u,w.cell? ⟨g,j,none⟩=some u/\AA 148 7 EI w 0 u (s.getD j []).length (s.getD j []):=by
 have l:=h.length;obtain⟨c,d,⟨u,rfl,a⟩,b⟩:=AA.cells h (j:=j) (x:=s.getD j []) (by rw[AK (by omega)];exact List.getElem?_eq_getElem (by omega));refine⟨u,?_,a⟩;have:=b 0 u rfl
 rwa [Nat.mul_one,Nat.add_zero] at this
theorem uV {ss:Jc}{k s i:Nat}{m:List Int}(h:i < (ss.getD s []).length) (a:(ss.getD s []).getD i []=m):((ss.getD s []).take (i+1)).flatMap (fun v=>(wL ss k (CH v)).map (rdOf v::·))=((ss.getD s []).take i).flatMap (fun v=>(wL ss k (CH v)).map (rdOf v::·))++(wL ss k (CH m)).map (rdOf m::·):=by
 rw[BY h [],a,List.flatMap_append];simp
theorem jY {α a:Type}{f:α->List a}{l:List α}{i:Nat}:((l.take i).flatMap f).length<=(l.flatMap f).length:=by
 conv=>rhs;rw[<-List.take_append_drop i l,List.flatMap_append,List.length_append]
 omega
structure JO (w:World) (rv:Value) (L:Jc) (bm:Nat) (cs:Array Value) (ov:Value):Prop where
 row:AA 77 1 BW w 0 rv L.length L
 box:w.heap[bm]? = some (.cells cs 178)
 ne:∀b,ov.ownBlock=some b->rv.ownBlock ≠ some b
theorem JO.keep {w w':World}{r:Value}{L:Jc}{b:Nat}{cs:Array Value}{o:Value}(h:JO w r L b cs o) (a:Below w.heap.size w w'):JO w' r L b cs o:=
 ⟨h.row.keep BW.stb a,AN a h.box,h.ne⟩
theorem JO.app {w w':World}{r:Value}{L O:Jc}{m B n:Nat}{cs:Array Value}{o v':Value}(h:JO w r L m cs o) (j:AA 77 1 BW w B o n O) (d:w.grownBy w' o.ownBlock) (a:IW w o v') (x:AE 77 w w'):JO w' r L m cs v':=by
 refine⟨h.row.grown BW.stb d (fun g d=>j.row g d) ?_,(x _ _ _ h.box (by decide)).trans h.box,fun b c f=>?_⟩
 ·cases e:r.ownBlock with
  | none=>exact .inl rfl
  | some b=>exact .inr fun i=>h.ne b i.symm e
 ·rcases a with a|a
  ·exact h.ne b (by rw[<-a];exact c) f
  ·rw[a] at c;injection c with c;obtain⟨_,q,_⟩:=h.row;have:=(World.ownsRow.lt q b f).2
   omega
theorem pX {n:Int}{ss:Jc}(hM:ES ss):∀(k:Nat),k<=10->∀ {w:World}{v:Value}{s:Nat},DC w v n ss->s < ss.length->(wL ss k s).length<=100000->
  Calls Tryz.prog 185 #[v,.int .i64 (s:Int),.int .i64 (k:Int)] w fun e w'=>∃u,e = .returned u/\AA 77 1 BW w' w.heap.size u (wL ss k s).length (wL ss k s)/\Below w.heap.size w w':=by
 intro k;induction k with
 | zero=>
  intro _ w v s hA hs _;obtain⟨sv,rfl,hK⟩:=hA;obtain⟨va,vc,rfl⟩:=hK.shape;clear hK;obtain⟨W,B⟩:=AF ((w.alloc (.cells #[.int .i64 n,.slice va ss.length vc] 27)).alloc (.cells #[.slice none 0 0] 77));have O:Below w.heap.size w W:=by rw[B];exact((wB _ w).alloc (wC _) _).alloc (by simp) _
  have k1:W.heap[w.heap.size+1]? = some (.cells #[.slice none 0 0] 77):=by
   rw[B];have:=wE (w.alloc (.cells #[.int .i64 n,.slice va ss.length vc] 27)) (.cells #[.slice none 0 0] 77)
   rwa [World.size_alloc] at this
  have hO:Hid (AA 77 1 BW W w.heap.size (.slice (some ⟨w.heap.size+1,0,none⟩) 1 1) 1 [[]]):=AA.oneK (cs:=[.slice none 0 0]) k1 (by omega) rfl (fun u J=>by rw[List.mem_singleton.1 J];rfl) ⟨_,rfl,AA.nil _ _⟩;clear k1;go_enter Tryz.func185, Tryz.ntmps185
  go_wp2;rw[<-B];go_ret;exact⟨_,rfl,hO.out,O⟩
 | succ k ih=>
  intro o6 w v s hA hs hN;have n8:=qH (fun(w:World) (v:Value) (s:Nat)=>ih (by omega) (w:=w) (v:=v) (s:=s));clear ih;have l5:=qH hA;obtain⟨sv,rfl,hK⟩:=hA;obtain⟨W,B⟩:=AF (w.alloc (.cells #[.int .i64 n,sv] 27));have O:Below w.heap.size w W:=by rw[B];exact(wB _ w).alloc (wC _) _
  have kA:W.heap[w.heap.size]? = some (.cells #[.int .i64 n,sv] 27):=by rw[B];exact wE _ _
  have HK:=qH (fun k' (hb:Below W.heap.size W k')=>And.intro (AC hb (BA kA).1) (AC hb (BA kA).2));obtain⟨va,vc,vb,vo,rfl,i6,i7,-⟩:=hK;obtain rfl:=i6 (by omega);obtain⟨mu,N,j3⟩:=i7 s hs;have a3:∀Y∈ss.getD s [],0<=Y.getD 7 0/\Y.getD 7 0 < (ss.length:Int):=hM (ss.getD s []) (by rw[AK hs];exact wG hs);have g6:Hid ((wL ss (k+1) s)=(ss.getD s []).flatMap fun a=>(wL ss k (CH a)).map (rdOf a::·)):=rfl;have b3:=fun(q:Nat) (Y:List Int)=>uV (ss:=ss) (k:=k) (s:=s) (i:=q) (m:=Y);obtain⟨r,h6⟩:=AB (ss.getD s []);simp only[h6] at j3 a3 g6 b3;obtain⟨ma,mc,mb,mo,rfl,m',h5,o8⟩:=j3;have m5:=qH h5;have l0:=qH N;replace b3:=qH b3;replace a3:=qH a3;have a4:=hN;rw[g6.out] at a4|-;replace a4:=qH a4;obtain⟨f7,Z⟩:∃f7,(r.flatMap fun a=>(wL ss k (CH a)).map (rdOf a::·))=f7:=⟨_,rfl⟩;rw[Z];replace Z:=qH Z;have o7:IntKind.i64.wrap ((k:Int)+1 - 1)=(k:Int):=by rw[show(k:Int)+1 - 1=(k:Int) by omega];exact IntWalk.i64_in _ (by omega)
  have o5:((k:Int)+1 == 0)=false:=by simp;omega
  have o9:(0:Int)<=(s:Int):=by omega
  have o':(s:Int) < (ss.length:Int):=by omega
  have h0:Hid (AA 77 1 BW W W.heap.size (.slice none 0 0) ((r.take 0).flatMap fun a=>(wL ss k (CH a)).map (rdOf a::·)).length ((r.take 0).flatMap fun a=>(wL ss k (CH a)).map (rdOf a::·))):=AA.nil _ _;clear kA i6 i7 h5 N h6 hN;rw[show(((k+1:Nat)):Int)=(k:Int)+1 by omega];go_enter Tryz.func185, Tryz.ntmps185
  go_wp2_with fail
  rw[<-B];replace B:=qH B;go_loopw [7,8] (fun ov iv wr=>∃q:Nat,iv = .int .i64 q/\q<=r.length/\Hid (AA 77 1 BW wr W.heap.size ov ((r.take q).flatMap fun a=>(wL ss k (CH a)).map (rdOf a::·)).length ((r.take q).flatMap fun a=>(wL ss k (CH a)).map (rdOf a::·)))/\Below W.heap.size W wr) (fun _ iv _=>r.length - (intOf iv).toNat)
  case atStart=>exact⟨0,rfl,by omega,h0,wB _ _⟩
  case round=>
   clear h0;obtain⟨q,rfl,hi,y,a'⟩:=hrel;obtain⟨oa,oc,d5⟩:=y.out.shape;subst d5;have A:=btt O a';obtain⟨l3,g1⟩:=HK.out wr a';have N:=AC A l0.out;by_cases S:q < r.length
   ·obtain rfl:=m' (by omega);have o3:(q:Int) < (r.length:Int):=(by omega);obtain⟨m8,cm⟩:=m5.out q S;have D:=b3.out q _ S rfl;have V:=jY (f:=fun a=>(wL ss k (CH a)).map (rdOf a::·)) (l:=r) (i:=q+1);have d9:=a3.out (r.getD q []) (by rw[AK S];exact wG S);have o0:=a4.out;obtain⟨Y,hm⟩:=AB (r.getD q []);rw[hm] at m8 cm D d9;rw[D] at V;obtain⟨P,hP⟩:∃P,((r.take q).flatMap fun a=>(wL ss k (CH a)).map (rdOf a::·))=P:=⟨_,rfl⟩;rw[hP] at y D V|-;obtain⟨b,c,d,g,h,o,p,x7,rfl⟩:=CT m8;obtain⟨c0,c1,c2,c3,c4,c5,c6,c7⟩:=cm.all8;have h7 : [b,c,d,g,h,o,p,x7].getD 7 0=x7:=rfl;rw[h7] at d9;obtain⟨t,rfl⟩:∃t:Nat,x7=t:=⟨x7.toNat,by omega⟩;have h8:CH [b,c,d,g,h,o,p,(t:Int)]=t:=(by unfold CH;exact Int.toNat_natCast t);have i2:rdOf [b,c,d,g,h,o,p,(t:Int)] = [b,c,d,g,h,o,p]:=rfl;rw[h8,i2] at D V;have n5:t < ss.length:=(by omega);rw[List.length_append,List.length_map] at V;have i4:(wL ss k t).length<=100000:=(by omega);have l':P.length+(wL ss k t).length<=100000:=(by omega);replace c0:=AC A c0;replace c1:=AC A c1;replace c2:=AC A c2;replace c3:=AC A c3;replace c4:=AC A c4;replace c5:=AC A c5;replace c6:=AC A c6;replace c7:=AC A c7;obtain⟨W2,G⟩:=AF (wr.alloc (.cells #[.int .i64 b,.int .i64 c,.int .i64 d,.int .i64 g,.int .i64 h,.int .i64 o,.int .i64 p,.int .i64 (t:Int)] 178));have Q:Below wr.heap.size wr W2:=(by rw[G];exact(wB _ _).alloc (wC _) _);have kM:W2.heap[wr.heap.size]? = some (.cells #[.int .i64 b,.int .i64 c,.int .i64 d,.int .i64 g,.int .i64 h,.int .i64 o,.int .i64 p,.int .i64 (t:Int)] 178):=(by rw[G];exact wE _ _);have a8:=btt a' Q;have HI:=qH (n8.out W2 _ t (l5.out.keep (btt O a8)) n5 i4);have j1:=qH kM;obtain⟨r0,r1,r2,r3,r4,r5,r6,r7⟩:=box8' kM;obtain⟨q0,q1⟩:=HK.out W2 a8;have l1:=AC Q N;rw[G] at q0 q1 r7;have g4:=qH (LF ss k t);obtain⟨L,hL⟩:=AB (wL ss k t);rw[hL] at HI D i4 l' g4;replace D:=qH D;clear hP hL cm m8 d9 h8 i2 V kM r0 r1 r2 r3 r4 r5 r6 h7 l1 hm;go_upto_region 8 with fail
    go_wp2_with fail
    rw[<-G];replace G:=qH G;refine HI.out.mono ?_;rintro e w3 ⟨u3,rfl,R,c'⟩;clear l3 g1 q0 q1 r7 N c0 c1 c2 c3 c4 c5 c6 c7;obtain⟨ra,rc,n4⟩:=R.shape;subst n4;have m2:=btt a8 c'
    have h9:Hid (AA 77 1 BW w3 W.heap.size (.slice oa P.length oc) (P++(L.take 0).map ([b,c,d,g,h,o,p]::·)).length (P++(L.take 0).map ([b,c,d,g,h,o,p]::·))):=by
     show AA _ _ _ _ _ _ _ _;rw[List.take_zero,List.map_nil,List.append_nil];exact y.out.keep BW.stb (btt Q c')
    have m0:=fun hn=>R.form hn
    have d6:Hid (JO w3 (.slice ra L.length rc) L wr.heap.size #[.int .i64 b,.int .i64 c,.int .i64 d,.int .i64 g,.int .i64 h,.int .i64 o,.int .i64 p,.int .i64 (t:Int)] (.slice oa P.length oc)):=by
     refine⟨R.base (Nat.zero_le _),AN c' j1.out,fun f8 hb m1=>?_⟩;obtain⟨_,q1,_⟩:=R;obtain⟨_,q2,_⟩:=y.out;have p0:=(World.ownsRow.lt q1 f8 m1).1;have p1:=(World.ownsRow.lt q2 f8 hb).2;have p2:=Q.size;omega
    clear y R;go_wp2_with fail
    obtain⟨bm,h2⟩:=AB (wr.heap.size);rw[h2] at d6|-;clear h2;clear a' a8 Q A j1;go_loopw [7,11] (fun ov jv wr=>∃j:Nat,jv = .int .i64 j/\j<=L.length/\Hid (AA 77 1 BW wr W.heap.size ov (P++(L.take j).map ([b,c,d,g,h,o,p]::·)).length (P++(L.take j).map ([b,c,d,g,h,o,p]::·)))/\Below W.heap.size W wr/\Hid (JO wr (.slice ra L.length rc) L bm #[.int .i64 b,.int .i64 c,.int .i64 d,.int .i64 g,.int .i64 h,.int .i64 o,.int .i64 p,.int .i64 (t:Int)] ov)) (fun _ jv _=>L.length - (intOf jv).toNat)
    case atStart=>exact⟨0,rfl,by omega,h9,m2,d6⟩
    case round=>
     clear h9 d6;obtain⟨j,rfl,E,y,d0,b1⟩:=hrel;obtain⟨p8,p9,d5⟩:=y.out.shape;subst d5;by_cases T:j < L.length
     ·have o4:(j:Int) < (L.length:Int):=(by omega);obtain⟨l2,n',he,_⟩:=m0 (by omega);injection he with e1 e2 e3;subst e1 e3;clear e2;obtain⟨u,cu,b4⟩:=BW.cell b1.out.row T;have e4:=g4.out (L.getD j []) (by rw[AK T];exact wG T)
      have X:P++(L.take (j+1)).map ([b,c,d,g,h,o,p]::·)=(P++(L.take j).map ([b,c,d,g,h,o,p]::·)) ++ [[b,c,d,g,h,o,p]::L.getD j []]:=by
       rw[BY T [],List.map_append,List.append_assoc];rfl
      have l9:(P++(L.take j).map ([b,c,d,g,h,o,p]::·)).length<=1000000:=by
       rw[List.length_append,List.length_map,List.length_take];omega
      obtain⟨z,hx⟩:=AB (L.getD j []);rw[hx] at b4 e4 X;obtain⟨k9,hO⟩:=AB (P++(L.take j).map ([b,c,d,g,h,o,p]::·));rw[hO] at y X l9 b1|-;obtain⟨xa,xc,n6⟩:=b4.shape;subst n6;obtain⟨r0,r1,r2,r3,r4,r5,r6,r7⟩:=box8' b1.out.box;obtain⟨W5,H⟩:=AF (wr.alloc (.cells #[.int .i64 b,.int .i64 c,.int .i64 d,.int .i64 g,.int .i64 h,.int .i64 o,.int .i64 p] 148));have a9:Below wr.heap.size wr W5:=(by rw[H];exact(wB _ _).alloc (wC _) _);have k5:W5.heap[wr.heap.size]? = some (.cells #[.int .i64 b,.int .i64 c,.int .i64 d,.int .i64 g,.int .i64 h,.int .i64 o,.int .i64 p] 148):=by rw[H];exact wE _ _
      have d':AA 148 7 EI W5 wr.heap.size (.slice (some ⟨wr.heap.size,0,none⟩) 1 1) 1 [[b,c,d,g,h,o,p]]:=AA.oneK (cs:=[.int .i64 b,.int .i64 c,.int .i64 d,.int .i64 g,.int .i64 h,.int .i64 o,.int .i64 p]) k5 (wC _) rfl (fun u J=>by
       simp only[List.mem_cons,List.not_mem_nil,or_false] at J;rcases J with rfl|rfl|rfl|rfl|rfl|rfl|rfl<;>rfl) rfl
      have d8:=(b4.keep (EI.stab _) a9).src;have n1:1+z.length<=1000000:=(by omega);replace e4:=qH e4;have d7:=a9.size;have g0:=AC a9 cu;rw[H] at d' d8 d7 g0;replace X:=qH X;clear hO hx b4 k5 cu;go_wp2_with (at_builtin;refine eQ (ys:=z) JX (by decide) (by decide) (EI.stab _) rfl _ _ rfl rfl d' rfl d8 n1 d7 ?_)
      intro v6 F U m7 g8 n7;rw[<-H] at g8;have h3:Below wr.heap.size wr F:=a9.trans g8;obtain⟨K,M,n2⟩:=U.shape;subst n2;have l6:Hid (BW F [.slice K (1+z.length) M] ([b,c,d,g,h,o,p]::z)):=⟨_,rfl,by rw[List.length_cons,Nat.add_comm z.length 1];exact U.base (Nat.zero_le _)⟩;have m4:Hid (∀u∈(#[.slice K (1+z.length) M]:Array Value).toList,u.oneCell'=true):=fun u J=>by rw[List.mem_singleton.1 J];rfl
      have m9:k9.length<=1000000000000:=(by omega);have o1:=btt d0 h3;obtain⟨W7,I⟩:=AF (F.alloc (.cells #[.slice K (1+z.length) M] 77));have g9:Below F.heap.size F W7:=(by rw[I];exact(wB _ _).alloc (wC _) _);have kN:W7.heap[F.heap.size]? = some (.cells #[.slice K (1+z.length) M] 77):=(by rw[I];exact wE _ _);have d1:=btt h3 g9;have b0:=y.out.keep BW.stb d1;have i3:=qH (b1.out.keep d1);have h1:=btt d0 d1;have i5:=h1.size;have c9:BW W7 [.slice K (1+z.length) M] ([b,c,d,g,h,o,p]::z):=BW.stb _ _ _ _ l6.out (AE.below g9)
      have d4:∀j u,([.slice K (1+z.length) M]:List Value)[j]? = some u->W7.cell? ((⟨F.heap.size,0,none⟩:Addr).add j)=some u:=fun j u E=>by
       match j,E with
       | 0,E=>
        simp only[List.getElem?_cons_zero,Option.some.injEq] at E;subst E;exact wJ kN
       | j+1,E=>simp at E
      have h':=qH b0;rw[I] at b0 i5 c9 d4;replace H:=qH H;clear kN;clear U n7 m7 d' d8 g0 d7;go_wp2_with (at_builtin;refine VE (x:=[b,c,d,g,h,o,p]::z) SO (by decide) (by decide) BW.stb rfl _ _ rfl rfl b0 _ _ rfl rfl d4 m4.out c9 m9 i5 ?_)
      intro v7 w7 i0 d2 d3 g' e0;rw[<-I] at d2 d3 g' e0;have n3:Hid (JO w7 (.slice (some ⟨l2,0,none⟩) L.length rc) L bm #[.int .i64 b,.int .i64 c,.int .i64 d,.int .i64 g,.int .i64 h,.int .i64 o,.int .i64 p,.int .i64 (t:Int)] v7):=i3.out.app h'.out d2 d3 e0;replace I:=qH I
      have l8:Hid (AA 77 1 BW w7 W.heap.size v7 (P++(L.take (j+1)).map ([b,c,d,g,h,o,p]::·)).length (P++(L.take (j+1)).map ([b,c,d,g,h,o,p]::·))):=by
       show AA _ _ _ _ _ _ _ _;rw[X.out,List.length_append];exact i0
      have m3:=h1.trans g';clear i0 b0 e0 d2 d3 d4 c9 h' i3;go_wp2_with fail
      go_roundw
      case rel=>exact⟨j+1,by go_num,T,l8,m3,n3⟩
      case measure=>simp[intOf];omega
     ·obtain rfl:j=L.length:=(by omega);have C:=y.out;rw[List.take_length,<-D.out] at C;have i1:(P++L.map ([b,c,d,g,h,o,p]::·)).length=((r.take (q+1)).flatMap fun a=>(wL ss k (CH a)).map (rdOf a::·)).length:=(by rw[D.out]);rw[List.take_length,i1];replace C:=qH C;clear y i1;obtain⟨f6,hY⟩:∃f6,((r.take (q+1)).flatMap fun a=>(wL ss k (CH a)).map (rdOf a::·))=f6:=⟨_,rfl⟩;rw[hY] at C|-;replace hY:=qH hY;go_wp2_with fail
      go_roundw
      case rel=>exact⟨q+1,by go_num,S,by rw[hY.out];exact C,d0⟩
      case measure=>simp[intOf];omega
   ·obtain rfl:q=r.length:=(by omega);have C:=y.out;rw[List.take_length,Z.out] at C;rw[List.take_length,Z.out];have U:=qH (C.base O.size);clear y C;go_wp2_with fail
    go_ret;exact⟨_,rfl,U.out,A⟩
end Go.Proofs.YtcnedkkcgdkioaaGreat
