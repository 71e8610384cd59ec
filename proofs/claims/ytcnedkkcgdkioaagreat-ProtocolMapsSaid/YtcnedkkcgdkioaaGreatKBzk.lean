/- Texts of this claim, put together: PQ PR PS. -/
import Derived.Test.YtcnedkkcgdkioaaGreatKBzj

set_option maxRecDepth 100000
set_option maxHeartbeats 12800000
namespace Go.Proofs.YtcnedkkcgdkioaaGreat
open Go.RowKit
theorem lU {w:World}{u:Value}{s:Jb}{a b:Int}(h:KS 2 w u s) :
  Calls Tryz.prog 80 #[u,.agg #[.int .i64 a,.int .i64 b]] w fun e w'=>∃z:Int,e = .returned (.int .i64 z)/\decide (0<=z)=decide ([a,b]∈s)/\Below w.heap.size w w':=by
 have E:decide ([a,b]∈s)=s.any (HL [a,b]):=by
  rw[Bool.eq_iff_iff,List.any_eq_true,decide_eq_true_eq];exact⟨fun h=>⟨_,h,vZ rfl⟩,fun⟨x,y,B⟩=>by rw[<-of_decide_eq_true B];exact y⟩
 rw[E];obtain⟨O,Q,P,R,rfl,F,r,N⟩:=h;obtain⟨k,W⟩:=AF (w.alloc (.cells #[.int .i64 a,.int .i64 b] 83));have m:Below w.heap.size w k:=by rw[W];exact(wB _ w).alloc (wC _) _
 have A:k.heap[w.heap.size]? = some (.cells #[.int .i64 a,.int .i64 b] 83):=by rw[W];exact wE _ _
 have H:=qH (BA A);have G:=qH (r.keep m);have o:Hid ((s.take 0).any (HL [a,b])=false):=rfl;clear r A E;go_enter Tryz.func80, Tryz.ntmps80
 go_wp2_with fail
 rw[<-W];replace W:=qH W;go_loopw [8] (fun v wr=>∃i:Nat,v = .int .i64 i/\i<=s.length/\Hid ((s.take i).any (HL [a,b])=false)/\Qt k wr) (fun v _=>s.length - (intOf v).toNat)
 case atStart=>exact⟨0,rfl,by omega,o,Qt.refl _⟩
 case round=>
  clear o;obtain⟨i,rfl,L,t,n,rfl⟩:=hrel;by_cases l:i < s.length
  ·obtain rfl:=F (by omega);have M:(i:Int) < (s.length:Int):=(by omega);obtain⟨g,j⟩:=G.out i l;obtain⟨x,f⟩:=AB (s.getD i []);rw[f] at g j;obtain⟨p,q,rfl⟩:=BZ g;obtain⟨J,K⟩:=j.all2;obtain⟨S,T⟩:=H.out;by_cases c : [a,b] = [p,q]
   ·have E:BI [a,b] [p,q]=true:=FN.2 c;have D:Hid (s.any (HL [a,b])=true):=PM l (by rw[f];exact vZ c.symm);clear f t c j g;go_wp2;go_quiet (fail)
    go_wp2;go_ret;exact⟨_,rfl,by rw[D.out];exact vZ (by omega),btt m (wH (wH (wB _ _) _) _)⟩
   ·have E:BI [a,b] [p,q]=false:=FL.2 c
    have I:Hid ((s.take (i+1)).any (HL [a,b])=false):=by
     show _=_;rw[RE l (d:=[]),t.out,f];exact vY fun h=>c h.symm
    clear f t c j g;go_wp2;go_quiet (fail)
    go_wp2;go_roundw
    case rel=>exact⟨i+1,by go_num,l,I,by first|exact(Qt.mk' _ n).step nq|exact Qt.mk' _ _⟩
    case measure=>simp[intOf];omega
  ·obtain rfl:i=s.length:=(by omega);have C:Hid (s.any (HL [a,b])=false):=(by have:=t.out;rw[List.take_length] at this;exact this);clear t;go_wp2;go_ret;exact⟨_,rfl,by rw[C.out];rfl,btt m (wH (wB _ _) _)⟩
theorem iL {w:World}{u:Value}{s:Jb}{a b:Int}(h:KS 2 w u s) :
  Calls Tryz.prog 32 #[u,.agg #[.int .i64 a,.int .i64 b]] w fun e w'=>e = .returned (.bool (decide ([a,b]∈s)))/\Below w.heap.size w w':=by
 obtain⟨c,W⟩:=AF (w.alloc (.cells #[.int .i64 a,.int .i64 b] 83));have f:Below w.heap.size w c:=by rw[W];exact(wB _ w).alloc (wC _) _
 have k:c.heap[w.heap.size]? = some (.cells #[.int .i64 a,.int .i64 b] 83):=by rw[W];exact wE _ _
 have H:=qH (lU (a:=a) (b:=b) (h.keep f));obtain⟨i,j⟩:=BA k;rw[W] at i j;obtain⟨m,n,rfl⟩:=h.shape;obtain⟨B,d⟩:=AB (decide ([a,b]∈s));rw[d] at H|-;clear h k d;go_enter Tryz.func32, Tryz.ntmps32
 go_wp2_with fail
 rw[<-W];replace W:=qH W;refine H.out.mono ?_;rintro e o ⟨z,rfl,l,g⟩;go_wp2;go_ret;exact⟨rfl,btt f g⟩
theorem lO {w:World}{b1:Nat}{u:Value}{s:Jb}{a b:Int}(g:w.cell? ⟨b1,0,none⟩=some u) (h:KS 2 w u s) :
  Calls Tryz.prog 179 #[.agg #[.int .i64 a,.int .i64 b],.pointer (some ⟨b1,0,none⟩)] w fun e w'=>e = .returned (.bool (decide ([a,b]∈s)))/\Below w.heap.size w w':=by
 obtain⟨d,W⟩:=AF (w.alloc (.cells #[.int .i64 a,.int .i64 b] 83));have c:Below w.heap.size w d:=by rw[W];exact(wB _ w).alloc (wC _) _
 have k:d.heap[w.heap.size]? = some (.cells #[.int .i64 a,.int .i64 b] 83):=by rw[W];exact wE _ _
 have H:=qH (iL (a:=a) (b:=b) (h.keep c));obtain⟨z,l⟩:=BA k;have i:=AC c g;rw[W] at z l i;obtain⟨m,n,rfl⟩:=h.shape;obtain⟨B,f⟩:=AB (decide ([a,b]∈s));rw[f] at H|-;clear h k f;go_enter Tryz.func179, Tryz.ntmps179
 go_wp2_with fail
 rw[<-W];replace W:=qH W;refine H.out.mono ?_;rintro e o ⟨rfl,j⟩;go_wp2;go_ret;exact⟨rfl,btt c j⟩
theorem mI {w:World}{b1:Nat}{u v:Value}{s t:Jb}(R:w.cell? ⟨b1,0,none⟩=some v) (hs:KS 2 w u s) (hl:s.length<=1000) (ht:KS 2 w v t) :
  Calls Tryz.prog 113 #[u,.func (.func 179) #[] #[.pointer (some ⟨b1,0,none⟩)]] w fun e w'=>∃a c,e = .returned (.slice a (s.filter (CN t)).length c)/\Below w.heap.size w w':=by
 have HI:=qH (fun W (m:Below w.heap.size w W) p q=>lO (a:=p) (b:=q) (AC m R) (ht.keep m));obtain⟨va,vc,vb,vo,rfl,ha,Z,-⟩:=hs;have a':=qH Z;have Q:Hid (AA 83 2 EI w w.heap.size (.slice none 0 0) ((s.take 0).filter (CN t)).length ((s.take 0).filter (CN t))):=AA.nil _ _;clear Z ht R;go_enter Tryz.func113, Tryz.ntmps113
 go_wp2_with fail
 go_loopw [5,10] (fun ov K wr=>∃(i:Nat) (o:Option Addr) (d:Nat),ov = .slice o ((s.take i).filter (CN t)).length d/\K = .int .i64 i/\i<=s.length/\Hid (AA 83 2 EI wr w.heap.size (.slice o ((s.take i).filter (CN t)).length d) ((s.take i).filter (CN t)).length ((s.take i).filter (CN t)))/\Below w.heap.size w wr) (fun _ K _=>s.length - (intOf K).toNat)
 case atStart=>exact⟨0,none,0,rfl,rfl,by omega,Q,wB _ _⟩
 case round=>
  clear Q;obtain⟨i,o,d,rfl,rfl,hi,O,r⟩:=hrel;by_cases a0:i < s.length
  ·have b':(i:Int) < (s.length:Int):=(by omega);obtain rfl:=ha (by omega);obtain⟨M,N⟩:=a'.out i a0;have I:=BY a0 ([]:List Int);obtain⟨c6,hx⟩:=AB (s.getD i []);rw[hx] at M N I;obtain⟨p,q,rfl⟩:=BZ M;obtain⟨y,A⟩:=N.all2;replace y:=AC r y;replace A:=AC r A;obtain⟨W2,h⟩:=AF (wr.alloc (.cells #[.int .i64 p,.int .i64 q] 83));have X:Below wr.heap.size wr W2:=(by rw[h];exact(wB _ wr).alloc (wC _) _);have V:W2.heap[wr.heap.size]? = some (.cells #[.int .i64 p,.int .i64 q] 83):=(by rw[h];exact wE _ _);have P:=qH (fun W (m:Below W2.heap.size W2 W)=>BA (AN m V));obtain⟨z,j⟩:=BA V;rw[h] at z j;obtain⟨C,B⟩:=AB (decide ([p,q]∈t));have Y:=btt r X;have H:=HI.out W2 Y p q;rw[B] at H;replace H:=qH H;have b3:((s.take i).filter (CN t)).length<=1000:=by have:=List.length_filter_le (CN t) (s.take i);rw[List.length_take] at this;omega
   have g:(s.take (i+1)).filter (CN t)=(s.take i).filter (CN t)++(if C=true then [[p,q]] else []):=by
    rw[I,List.filter_append];congr 1
    rw[List.filter_cons,show CN t [p,q]=C from B];cases C<;>rfl
   obtain⟨S,U⟩:=AB ((s.take i).filter (CN t));rw[U] at O b3 g|-;have T:=qH (O.out.keep (EI.stab _) X);replace g:=qH g;clear V N M B I hx O U;go_upto_region 5 with fail
   rw[<-h];replace h:=qH h;clear z j y A;obtain⟨z,j⟩:=P.out W2 (wB _ _);go_wp2_with fail
   refine H.out.mono ?_;rintro e L ⟨rfl,n⟩;clear z j;obtain⟨z,j⟩:=P.out L n;have E:=btt Y n;cases C
   ·have f:Hid ((s.take (i+1)).filter (CN t)=S):=(by show _=_;rw[g.out];simp);have D:Hid (AA 83 2 EI L w.heap.size (.slice o ((s.take (i+1)).filter (CN t)).length d) ((s.take (i+1)).filter (CN t)).length ((s.take (i+1)).filter (CN t))):=(by show AA _ _ _ _ _ _ _ _;rw[f.out];exact T.out.keep (EI.stab _) n);have G:Hid (Value.slice o S.length d = .slice o ((s.take (i+1)).filter (CN t)).length d):=(by show _=_;rw[f.out]);go_wp2_with fail
    go_roundw
    case rel=>exact⟨i+1,o,d,G.out,by go_num,by omega,D,E⟩
    case measure=>simp[intOf];omega
   ·have f:Hid ((s.take (i+1)).filter (CN t)=S ++ [[p,q]]):=g.out;have a1:=T.out.keep (EI.stab _) n;have b2:S.length<=1000000000000:=by omega
    have a9:Hid (∀u∈(#[.int .i64 p,.int .i64 q]:Array Value).toList,u.oneCell'=true):=fun u J=>by
     rcases List.mem_cons.1 J with rfl|J
     ·rfl
     ·rw[List.mem_singleton.1 J];rfl
    have a5:Hid (EI L [.int .i64 p,.int .i64 q] [p,q]):=rfl;have b4:=E.size;go_wp2_with (at_builtin;refine FH (x:=[p,q]) EE (by decide) (by decide) (EI.stab _) rfl _ _ rfl rfl a1 rfl rfl rfl a9.out a5.out b2 b4 ?_)
    intro v4 w4 F b0 a7 b6;obtain⟨k,l,b5⟩:=F.shape;subst b5;have D:Hid (AA 83 2 EI w4 w.heap.size (.slice k ((s.take (i+1)).filter (CN t)).length l) ((s.take (i+1)).filter (CN t)).length ((s.take (i+1)).filter (CN t))):=(by show AA _ _ _ _ _ _ _ _;rw[f.out,List.length_append];exact F);have G:Hid (Value.slice k (S.length+1) l = .slice k ((s.take (i+1)).filter (CN t)).length l):=(by show _=_;rw[f.out,List.length_append];rfl);have a8:=E.trans a7;clear F b0 b6 a1;go_wp2_with fail
    go_roundw
    case rel=>exact⟨i+1,k,l,G.out,by go_num,by omega,D,a8⟩
    case measure=>simp[intOf];omega
  ·obtain rfl:i=s.length:=(by omega);rw[List.take_length] at O|-;clear O;go_wp2;go_ret;exact⟨o,d,rfl,r⟩
theorem nW {w:World}{b:Nat}(c:w.cell? ⟨b,0,none⟩=some (.int .i64 0)) (a:w.cell? ⟨b,1,none⟩=some (.int .i64 0)) :
  Calls Tryz.prog 178 #[.slice (some ⟨b,0,none⟩) 2 2] w fun e w'=>e = .returned (.int .i64 0)/\w'=w:=by
 have l:Hid (∀i,i < 2->w.cell? ⟨b,i,none⟩=some (.int .i64 0)):=fun i f=>by
  have:i=0\/i=1:=by omega
  rcases this with rfl|rfl
  ·exact c
  ·exact a
 clear c a;go_enter Tryz.func178, Tryz.ntmps178
 go_wp2_with fail
 obtain⟨g,h⟩:=AF (w);have q:=qH h;rw[<-h];clear h;go_loopw [8] (fun v wr=>∃i:Nat,v = .int .i64 i/\i<=2/\wr=g) (fun v _=>2 - (intOf v).toNat)
 case atStart=>exact⟨0,rfl,by omega,rfl⟩
 case round=>
  obtain⟨i,rfl,f,rfl⟩:=hrel;by_cases t:i < 2
  ·have j:(i:Int) < 2:=(by omega);have d:=l.out i t;rw[<-q.out] at d;go_wp2;go_roundw
   case rel=>exact⟨i+1,by go_num,by omega,by first|rfl|trivial⟩
   case measure=>simp[intOf];omega
  ·obtain rfl:i=2:=(by omega);go_wp2;go_ret;exact⟨rfl,q.out⟩
theorem fI {w:World}{u v:Value}{s t:Jb}(hs:KS 2 w u s) (c:KS 2 w v t) (f:CX s=0) (g:CX t=0) :
  Calls Tryz.prog 112 #[u,v] w fun e w'=>e = .returned (.int .i64 0)/\Below w.heap.size w w':=by
 have H:=qH (fun W (b:Below w.heap.size w W)=>NW (hs.keep b));have B:=qH (fun W (b:Below w.heap.size w W)=>NW (c.keep b));rw[f] at H;rw[g] at B;obtain⟨o,p,rfl⟩:=hs.shape;obtain⟨q,r,rfl⟩:=c.shape;clear hs c f g;go_enter Tryz.func112, Tryz.ntmps112
 go_wp2_with fail
 refine(H.out w (wB _ w)).mono ?_;rintro e n ⟨rfl,i⟩;go_wp2_with fail
 refine(B.out n i).mono ?_;rintro e a ⟨rfl,l⟩;have j:=btt i l;obtain⟨d,h⟩:=AF (a.alloc (.cells #[.int .i64 0,.int .i64 0] 41));have m:Below a.heap.size a d:=by rw[h];exact(wB _ a).alloc (wC _) _
 have k:d.heap[a.heap.size]? = some (.cells #[.int .i64 0,.int .i64 0] 41):=by rw[h];exact wE _ _
 have O:=qH (nW (BA k).1 (BA k).2);clear k;go_wp2_with fail
 rw[<-h];replace h:=qH h;refine O.out.mono ?_;rintro e x ⟨rfl,rfl⟩;go_wp2;go_ret;exact⟨rfl,btt j m⟩
theorem lP {w:World}{a:Option Addr}{n c:Nat}:Calls Tryz.prog 114 #[.slice a n c] w fun e w'=>e = .returned (.func (.func 179) #[] #[.pointer (some ⟨w.heap.size,0,none⟩)])/\w'=w.alloc (.cells #[.slice a n c] 38):=by
 go_enter Tryz.func114, Tryz.ntmps114
 go_wp2;go_ret;exact⟨rfl,rfl⟩
theorem jW {a b:Jb}:(((a.filter (CN b)).length:Int) == (a.length:Int))=CJ a b:=by
 rw[dX,Bool.eq_iff_iff,beq_iff_eq,List.all_eq_true,<-List.filter_eq_self];constructor
 ·intro h;have c:(a.filter (CN b)).length=a.length:=by omega
  exact(List.filter_sublist (p:=CN b) (l:=a)).eq_of_length c
 ·intro h;rw[h]
theorem jT {w:World}{u v:Value}{s t:Jb}(hs:KS 2 w u s) (h:KS 2 w v t) (g:CX s=0) (i:CX t=0) (D:s.length<=8) :
  Calls Tryz.prog 63 #[u,v] w fun e w'=>e = .returned (.tuple #[.bool (CJ s t),.int .i64 0])/\Below w.heap.size w w':=by
 have H:=qH (fI hs h g i);have S:=qH (fun W (m:Below w.heap.size w W)=>And.intro (hs.keep m) (h.keep m));obtain⟨E,F,rfl⟩:=hs.shape;obtain⟨y,z,rfl⟩:=h.shape;have x:=jW (a:=s) (b:=t);obtain⟨B,l⟩:=AB (CJ s t);rw[l] at x|-;clear hs h g i l;go_enter Tryz.func63, Tryz.ntmps63
 go_wp2_with fail
 refine H.out.mono ?_;rintro e d ⟨rfl,p⟩;go_wp2_with fail
 refine lP.mono ?_;rintro e f ⟨rfl,c⟩;have q:Below d.heap.size d f:=by rw[c];exact(wB _ d).alloc (wC _) _
 have o:=wJ (show f.heap[d.heap.size]? = some (.cells #[.slice y t.length z] 38) by rw[c];exact wE _ _);have n:=btt p q;obtain⟨j,k⟩:=S.out f n;have K:=qH (mI o j (by omega) k);replace c:=qH c;clear o j k;go_wp2_with fail
 refine K.out.mono ?_;rintro e G ⟨A,C,rfl,r⟩;go_wp2;go_ret2
 exact⟨rfl,btt n r⟩
theorem fO {w:World}{b1:Nat}{u v:Value}{s t:Jb}(f:w.cell? ⟨b1,0,none⟩=some u) (hs:KS 2 w u s) (h:KS 2 w v t) (a:CX s=0) (b:CX t=0) (l:s.length<=8) :
  Calls Tryz.prog 62 #[v,.pointer (some ⟨b1,0,none⟩)] w fun e w'=>e = .returned (.bool (CJ s t))/\Below w.heap.size w w':=by
 have H:=qH (jT hs h a b l);obtain⟨g,i,rfl⟩:=hs.shape;obtain⟨j,k,rfl⟩:=h.shape;obtain⟨B,c⟩:=AB (CJ s t);rw[c] at H|-;clear hs h a b c;go_enter Tryz.func62, Tryz.ntmps62
 go_wp2_with fail
 refine H.out.mono ?_;rintro e m ⟨rfl,d⟩;go_wp2;go_ret;exact⟨rfl,d⟩
attribute [local go_sem] Oper.semAt_some
theorem QI {fn:Func}{tmps:Array Value}{R:Ending->World->Prop}{p q:Tmp}{B:Nat}(s:fn.results = #[.tmp p,.tmp q]):∀(rs:List Nat) (w:World),(∀r∈rs,w.heap[r]? = some (.deferred (some []))/\B<=r)->rs.Nodup->
  (∀w',Below B w w'->AE 57 w w'->R (.returned (.tuple #[tmps.getD p undef,tmps.getD q undef])) w')->LeavesInM Fence.wide 0 Tryz.prog fn tmps R (rs.map PV) .returning w
 | [],w,_,_,h=>⟨_,results_tmp2 s _ _ _,h w (wB _ _) (AE.refl _ _)⟩
 | r::rs,w,hr,hn,h=>by
  rw[List.nodup_cons] at hn;obtain⟨a,c⟩:=hr r (by simp);refine⟨by simp,.inl ⟨r,_,rfl,run_takeDeferred a,?_⟩⟩;have g:Below B w (w.putObj r (.deferred none)):=IG (wB _ _) c _;have X:AE 57 w (w.putObj r (.deferred none)):=AE.putObjLo a trivial;refine QI s rs _ (fun j b=>?_) hn.2 (fun w' i x=>h w' (g.trans i) (X.trans x));obtain⟨d,f⟩:=hr j (by simp[b]);exact⟨(World.putObj_heap_other (fun e=>hn.1 (by rw[<-e];exact b))).trans d,f⟩
def MZ (N k:Nat) (xs:List Ex) (l:Jb) (c:Nat):Bool:=(DL N k xs (c:Int)).any (CJ l)
def CS (N k:Nat) (xs:List Ex) (l:Jb) (m:Nat):List Int:=BF ((List.range m).filter (MZ N k xs l))
theorem XP (N k:Nat) (xs:List Ex) (l:Jb) (m:Nat):CS N k xs l (m+1)=CS N k xs l m++(if MZ N k xs l m=true then [(m:Int)] else []):=by
 unfold CS BF;rw[List.range_succ,List.filter_append,List.map_append];congr 1
 rw[List.filter_cons];cases MZ N k xs l m<;>rfl
theorem SL (N k:Nat) (xs:List Ex) (l:Jb) (m:Nat):(CS N k xs l m).length<=m:=by
 unfold CS BF;rw[List.length_map];exact wI (List.length_filter_le _ _) (by simp)
def GQ (E:Int) (l:Jb):Int:=if E ≠ 0 then E else CX l
theorem bP {w:World}{v u:Value}{n i o an r tn:Int}{cs:List Cs}{ss:Jc}{vs:Jb}{xs:List Ex}{l:Jb}(h:CC w v n i o cs an ss r tn vs xs) (hl:KS 2 w u l) (j9:DH n i o cs an ss r=true) (o4:cs.length<=1000000) :
  Calls Tryz.prog 16 #[v,u] w fun e w'=>∃v',e = .returned (.tuple #[v',.int .i64 (GQ (AZ n i o cs an ss r tn vs xs) l)])/\AR w' v' (if GQ (AZ n i o cs an ss r tn vs xs) l=0 then CS n.toNat r.toNat xs l cs.length else [])/\Below w.heap.size w w':=by
 have HV:=qH (fun W (f:Below w.heap.size w W)=>RG (h.keep f) j9);have HG:=IR h j9;obtain⟨f7,hE⟩:=AB (AZ n i o cs an ss r tn vs xs);rw[hE] at HV HG|-;replace hE:=qH hE;have m9:=qH (fun W (f:Below w.heap.size w W)=>NW (hl.keep f));obtain⟨d3,d6,d4,c',va,vc,b5,b6,rfl,-,-,hX⟩:=h;obtain⟨la,lc,rfl⟩:=hl.shape;obtain⟨VA,n9⟩:∃VA:Array Value,VA = #[.int .i64 n,.int .i64 i,.int .i64 o,.slice d3 cs.length d6,.int .i64 an,.slice d4 ss.length c',.int .i64 r,.int .i64 tn,.slice va vs.length vc,.slice b5 xs.length b6]:=⟨_,rfl⟩;obtain⟨S,O⟩:=AF ((w.alloc (.cells VA 35)).alloc (.cells #[.slice la l.length lc] 38));have j5:Below w.heap.size w S:=by rw[O];exact((wB _ w).alloc (wC _) _).alloc (by simp) _
 have k4:S.heap.size=w.heap.size+2:=by rw[O];simp
 have kL:S.heap[w.heap.size+1]? = some (.cells #[.slice la l.length lc] 38):=by
  rw[O];have:=wE (w.alloc (.cells VA 35)) (.cells #[.slice la l.length lc] 38)
  rwa [World.size_alloc] at this
 have kS:S.heap[w.heap.size]? = some (.cells VA 35):=by
  rw[O];exact(Below.heap_alloc _ _ _ (by simp)).trans (wE w _)
 subst n9;have HK:=qH (fun W (f:Below S.heap.size S W)=>And.intro (wJ (AN f kL)) (And.intro (keep7 f (AW kS).1) (keep3' f (AW kS).2)));obtain⟨pl,⟨z,A,D,y,G,H,I⟩,J,K,L⟩:=HK.out S (wB _ _);rw[O] at pl z A D y G H I J K L;replace k4:=qH k4;have n':=qH (fun W (f:Below w.heap.size w W)=>hX.keep f);have o7:=qH (fun W (f:Below w.heap.size w W)=>hl.keep f);obtain⟨M,hM⟩:=AB (cs.length);rw[hM] at HV HK O y o4|-;obtain⟨f8,F⟩:=AB (GQ f7 l);rw[F];obtain⟨i8,U⟩:∃i8,(if f8=0 then CS n.toNat r.toNat xs l M else [])=i8:=⟨_,rfl⟩;rw[U];unfold GQ at F;clear kS kL hX hl hM;refine callsIn_wide.1 (callsIn_of_wp_marks (n:=0) Tryz.func16 rfl trivial ?_);simp only[Tryz.ntmps16,List.size_toArray,List.length_cons,List.length_nil,Nat.reduceAdd,Nat.reduceSub,Array.replicate_succ,Array.replicate_zero,List.push_toArray,List.append_toArray,List.nil_append,List.cons_append];refine wpIn_wide.2 ?_;go_wp2_with fail
 rw[<-O];replace O:=qH O;refine(HV.out S j5).mono ?_;rintro e w2 ⟨rfl,c1⟩;clear pl z A D y G H I J K L;obtain⟨pl,⟨z,A,D,y,G,H,I⟩,J,K,L⟩:=HK.out w2 c1;have e2:=btt j5 c1;by_cases hz:f7=0
 ·subst hz;rw[if_neg (fun h=>h rfl)] at F;obtain⟨-,-,-,r9,T⟩:=HG rfl;clear HG;go_wp2_with fail
  refine(m9.out w2 e2).mono ?_;rintro e a ⟨rfl,e3⟩;clear pl z A D y G H I J K L;obtain⟨pl,⟨z,A,D,y,G,H,I⟩,J,K,L⟩:=HK.out a (btt c1 e3);have c0:=btt e2 e3;by_cases hf:f8=0
  ·have e7:=F;rw[hf] at e7;subst hf;rw[if_pos rfl] at U;rw[F];have o8:=(fU e7).2.1;obtain⟨W7,a8⟩:=AF (a.alloc (.cells #[.slice none 0 0] 48));have g6:Below a.heap.size a W7:=(by rw[a8];exact(wB _ a).alloc (wC _) _);have k':W7.heap[a.heap.size]? = some (.cells #[.slice none 0 0] 48):=(by rw[a8];exact wE _ _);have d0:=qH (fun W (f:Below a.heap.size a W)=>HK.out W (btt (btt c1 e3) f));have j7:Hid (Below w.heap.size w a):=c0;have o9:=qH (fun W (f:Below a.heap.size a W)=>o7.out W (btt c0 f));have o0:=qH (fun W (f:Below a.heap.size a W)=>n'.out W (btt c0 f));have d':Hid (OI W7 a.heap.size (.slice none 0 0) (CS n.toNat r.toNat xs l 0).length (CS n.toNat r.toNat xs l 0)):=OI.nil _ _;have o3:=qH e7;obtain⟨l8,⟨q0,q1,q2,q3,q4,q5,q6⟩,q7,q8,q9⟩:=d0.out W7 g6;clear pl z A D y G H I J K L;rw[a8] at l8 q0 q1 q2 q3 q4 q5 q6 q7 q8 q9;clear c0 e2 c1 e3 e7;go_wp2_with fail
   rw[<-a8];replace a8:=qH a8;clear l8 q0 q1 q2 q3 q4 q5 q6 q7 q8 q9
   refine wp_loop (fun d5 W=>∃(u9 u10 u11 u12 u13 u14 u15 u16 u17 u18 u19 u20 u21 u22 u23 u24 u25 u28 u29 u30 u31 u32 u33 u34 u35 u36 u37 u38 u39 u40 u41 u42 u43:Value) (q:Nat) (s:List Nat) (oa:Option Addr) (oc:Nat),q<=M/\W.heap[a.heap.size]? = some (.cells #[.slice oa (CS n.toNat r.toNat xs l q).length oc] 48)/\OI W a.heap.size (.slice oa (CS n.toNat r.toNat xs l q).length oc) (CS n.toNat r.toNat xs l q).length (CS n.toNat r.toNat xs l q)/\(∀r∈s,W.heap[r]? = some (.deferred (some []))/\a.heap.size<=r)/\s.Nodup/\Below a.heap.size a W/\
    d5 = { tmps:=#[.agg #[.int .i64 n,.int .i64 i,.int .i64 o,.slice d3 M d6,.int .i64 an,.slice d4 ss.length c',.int .i64 r,.int .i64 tn,.slice va vs.length vc,.slice b5 xs.length b6],.slice la l.length lc,.pointer (some ⟨w.heap.size,0,none⟩),.pointer (some ⟨w.heap.size+1,0,none⟩),.slice none 0 0,.int .i64 0,.int .i64 0,.int .i64 0,.pointer (some ⟨a.heap.size,0,none⟩),u9,u10,u11,u12,u13,u14,u15,u16,u17,u18,u19,u20,u21,u22,u23,u24,u25,.int .i64 (M:Int),.int .i64 (q:Int),u28,u29,u30,u31,u32,u33,u34,u35,u36,u37,u38,u39,u40,u41,u42,u43],defers:=s.map PV }) (fun d5 _=>M - (intOf (d5.tmps.getD 27 undef)).toNat) ?_ ?_
   ·exact⟨_,_,_,_,_,_,_,_,_,_,_,_,_,_,_,_,_,_,_,_,_,_,_,_,_,_,_,_,_,_,_,_,_,0,[],none,0,Nat.zero_le _,k',d'.out,by simp,List.nodup_nil,g6,rfl⟩
   clear d' k' g6;rintro d5 wr ⟨u9,u10,u11,u12,u13,u14,u15,u16,u17,u18,u19,u20,u21,u22,u23,u24,u25,u28,u29,u30,u31,u32,u33,u34,u35,u36,u37,u38,u39,u40,u41,u42,u43,q,s,oa,oc,hq,a9,hO,a5,c5,e4,rfl⟩;obtain⟨C,hC⟩:=AB (CS n.toNat r.toNat xs l q);have r5:C.length<=q:=(by rw[<-hC];exact SL _ _ _ _ _);rw[hC] at a9 hO;by_cases k0:q < M
   ·have r8:(q:Int) < (M:Int):=(by omega);obtain⟨pl,⟨z,A,D,y,G,H,I⟩,J,K,L⟩:=d0.out wr e4;obtain⟨k,a1⟩:=AF ((wr.alloc (.cells #[.int .i64 (q:Int)] 3)).alloc (.cells #[.func (.func 62) #[] #[.pointer (some ⟨w.heap.size+1,0,none⟩)]] 47));have g7:Below wr.heap.size wr k:=(by rw[a1];exact((wB _ wr).alloc (wC _) _).alloc (by simp) _);have e':k.heap.size=wr.heap.size+2:=by rw[a1];simp
    have kI:k.heap[wr.heap.size]? = some (.cells #[.int .i64 (q:Int)] 3):=by
     rw[a1];exact(Below.heap_alloc _ _ _ (by simp)).trans (wE wr _)
    have l0:k.heap[wr.heap.size+1]? = some (.cells #[.func (.func 62) #[] #[.pointer (some ⟨w.heap.size+1,0,none⟩)]] 47):=by
     rw[a1];have:=wE (wr.alloc (.cells #[.int .i64 (q:Int)] 3)) (.cells #[.func (.func 62) #[] #[.pointer (some ⟨w.heap.size+1,0,none⟩)]] 47)
     rwa [World.size_alloc] at this
    go_upto_region 12 with fail
    rw[<-a1];replace a1:=qH a1;clear pl z A D y G H I J K L;have g9:Below a.heap.size a k:=btt e4 g7;obtain⟨pl,⟨z,A,D,y,G,H,I⟩,J,K,L⟩:=d0.out k g9;have zi:=wJ kI;go_wp2_with fail
    refine(dL rfl).mono ?_;rintro e c ⟨rfl,a7⟩;rw[e'];have c2:Below k.heap.size k c:=(by rw[a7];exact((wB _ k).alloc (wC _) _).alloc (by simp) _);have p1:c.heap.size=k.heap.size+2:=(by rw[a7];simp);have c8:=wE k (.cells #[.int .i64 n,.int .i64 i,.int .i64 o,.slice d3 M d6,.int .i64 an,.slice d4 ss.length c',.int .i64 r,.int .i64 tn,.slice va vs.length vc,.slice b5 xs.length b6] 35);replace c8:=(Below.heap_alloc _ (.cells #[.int .i64 (q:Int)] 3) _ (by simp)).trans c8;rw[<-a7] at c8
    have l1:c.heap[k.heap.size+1]? = some (.cells #[.int .i64 (q:Int)] 3):=by
     rw[a7];have:=wE (k.alloc (.cells #[.int .i64 n,.int .i64 i,.int .i64 o,.slice d3 M d6,.int .i64 an,.slice d4 ss.length c',.int .i64 r,.int .i64 tn,.slice va vs.length vc,.slice b5 xs.length b6] 35)) (.cells #[.int .i64 (q:Int)] 3)
     rwa [World.size_alloc] at this
    have Q:Below a.heap.size a c:=btt g9 c2;have e5:Below wr.heap.size wr c:=btt g7 c2;have k2:KE k.heap.size (k.heap.size+1) b5 b6 xs (q:Int) c:=⟨(AW c8).2.2.2,wJ l1,o0.out c Q⟩;have i1:=dI (b1:=k.heap.size) (b2:=k.heap.size+1) (xc:=b6) (xa:=b5) (idx:=(q:Int)) T.n1 T.n5 T.r9 T.ex (by have:=T.xl;omega);have k5:=dO (idx:=(q:Int)) T.ok T.n5 T.vl;have X:=XP n.toNat r.toNat xs l q;unfold MZ at X;rw[hC] at X;obtain⟨d1,hL⟩:=AB (DL n.toNat r.toNat xs (q:Int));rw[hL] at i1 k5 X;have e6:=AN e5 a9;have e0:=hO.keep e5;have s0:a.heap.size < wr.heap.size:=(wD.1 a9).1
    have V:∀r∈s,c.heap[r]? = some (.deferred (some []))/\a.heap.size<=r/\r < c.heap.size:=fun r b=>by
     have t:=(wD.1 (a5 r b).1).1;exact⟨(e5.block r t).trans (a5 r b).1,(a5 r b).2,Nat.lt_of_lt_of_le t e5.size⟩
    have d':Below c.heap.size c c/\∀x∈([]:List Sv),CJ l x.2=false:=⟨wB _ _,by simp⟩;have p8:=AN c2 l0;have p9:=AN c2 kI;rw[e'] at k2 i1 p1;replace a7:=qH a7;replace e':=qH e';clear pl z A D y G H I J K L zi c8 l1 kI l0 hL a9 hO a5 g7 c2 g9;go_wp2_with fail
    refine wpIn_wide.1 (eN (gf:=115) (lb:=#[.pointer (some ⟨wr.heap.size+2,0,none⟩),.pointer (some ⟨wr.heap.size+2+1,0,none⟩)]) rfl (enters_of Tryz.func115 (by kernel_rfl) rfl) i1 (fun _=>rfl)
     (fun N W=>Below c.heap.size c W/\∀x∈N,CJ l x.2=false)
     (fun cd N W=>cd = .exit 2/\d1.any (CJ l)=true/\(∃g j,W.heap[a.heap.size]? = some (.cells #[.slice g (C.length+1) j] 48)/\OI W a.heap.size (.slice g (C.length+1) j) (C.length+1) (C ++ [(q:Int)]))/\Below a.heap.size c W/\c.heap.size<=W.heap.size/\∀r∈s,W.heap[r]? = some (.deferred (some [])))
     (fun N W k9 o o' hk _ h hq ho=>⟨IG h.1 hk _,h.2⟩) ?ix (fun N W W' h f=>⟨btt h.1 f,h.2⟩) (fun N x W k9 o o' hk _ h hq ho=>h.putObj hq ho)
     (fun N W h=>k2.keep h.1) d' (fun x r0=>(r0.setIfInBounds 34 x.1).setIfInBounds 11 x.1) ?assign ?body ?done ?stop)
    case ix=>
     rintro cd N W k9 o o' hk _ ⟨t,h2,⟨g,j,h3,n1⟩,h5,n3,n4⟩ hq ho;refine⟨t,h2,⟨g,j,(World.putObj_heap_other (by omega)).trans h3,n1.other (E:=57) (by decide) (AE.putObjLo hq ho)⟩,IG h5 (by have:=Q.size;omega) _,by simpa using n3,fun r b=>?_⟩;exact(World.putObj_heap_other (by have:=(V r b).2.2;omega)).trans (n4 r b)
    case assign=>
     intro l' x W r2 hK;simp only[List.setIfInBounds_toArray,List.set_cons_succ,List.set_cons_zero] at hK;simp only[RC];gi_wp2;exact hK
    case body=>
     rintro l' N ⟨xv,x⟩ W ⟨m,h8⟩ ⟨e1,n0,s4,h'⟩;simp only at e1 n0 h'
     obtain⟨sa,sc,p2⟩:=e1.shape;subst p2;simp only[List.setIfInBounds_toArray,List.set_cons_succ,List.set_cons_zero];have k8:x∈d1:=(by rw[<-h'];simp);obtain⟨p7,b3⟩:=k5 x k8;have j6:Below a.heap.size a W:=btt Q m;have i7:=qH (fO (d0.out W j6).1 (o9.out W j6) (e1.ks (by have:=b3.2.1;omega)) o3.out (RZ b3) o8);have cf:=wJ (AN m p8);obtain⟨m8,hD⟩:=AB (CJ l x);rw[hD] at i7;clear p7 b3 e1 h';gi_wp2;refine⟨trivial,rfl,?_⟩;gi_at_call 62
     refine(CallsIn.inRound l' (callsIn_wide.2 i7.out)).mono ?_;rintro e Y ⟨rfl,g8⟩;have a3:Below c.heap.size c Y:=btt m g8;cases m8
     ·have h9:∀c9∈N ++ [((.slice sa x.length sc,x):Sv)],CJ l c9.2=false:=fun c9 hy=>by
       rcases List.mem_append.1 hy with h|h
       ·exact h8 c9 h
       ·rw[List.mem_singleton.1 h];exact hD
      have Z:=BR.below g8;replace h9:=qH h9;clear cf h8;gi_wp2;exact⟨Z,a3,h9.out⟩
     ·have g5:d1.any (CJ l)=true:=List.any_eq_true.2 ⟨x,k8,hD⟩;have a4:=AN a3 e6;have a0:=e0.keep a3;have s3:=wJ (AN a3 p9);have s1:=wJ a4;obtain⟨a6,g4⟩:∃a6,a6=Y.alloc (.cells #[.int .i64 (q:Int)] 3):=⟨_,rfl⟩;have a2:Below Y.heap.size Y a6:=(by rw[g4];exact(wB _ Y).alloc (wC _) _);have kN:=show a6.heap[Y.heap.size]? = some (.cells #[.int .i64 (q:Int)] 3) by rw[g4];exact wE _ _
      have n5:a.heap.size<=a6.heap.size:=wI Q.size (wI a3.size a2.size);obtain⟨v8,R,j4,b',j',-,j8,k7⟩:=UO (P:=Tryz.prog) (ty:=48) XU (by decide) (by decide) (LJ.stab _) (a0.keep a2).owx ⟨Y.heap.size,0,none⟩ 1 rfl (World.news_of_block kN) (fun u hu=>by rw[List.mem_singleton.1 hu];rfl) (show LJ a6 [.int .i64 (q:Int)] (q:Int) from rfl) (by omega) n5;have b':=b'.oi;obtain⟨g,j,p5⟩:=b'.shape;subst p5;have h0:=AN a2 a4;have a':=(k7 _ _ _ h0 (by decide)).trans h0;have s2:=wJ a';have r4:=QW a'
      have Z:BR W (R.setCell ⟨a.heap.size,0,none⟩ (.slice g (C.length+1) j)):=
       (((BR.below g8).trans (BR.below a2)).trans (BR.grown j' fun m' hg=>by
        obtain⟨vs,q1,_⟩:=(a0.keep a2).owx;obtain⟨cs,hc⟩:=EY q1 m' hg;exact⟨cs,_,hc⟩)).trans (BR.setCell (p:=⟨a.heap.size,0,none⟩) a' _)
      have p3:=Q.size;have n6:(∃g j,(R.setCell ⟨a.heap.size,0,none⟩ (.slice g (C.length+1) j)).heap[a.heap.size]? = some (.cells #[.slice g (C.length+1) j] 48)/\OI (R.setCell ⟨a.heap.size,0,none⟩ (.slice g (C.length+1) j)) a.heap.size (.slice g (C.length+1) j) (C.length+1) (C ++ [(q:Int)]))->True:=fun _=>trivial
      have o5:Hid ((∃l6 l7,(R.setCell ⟨a.heap.size,0,none⟩ (.slice g (C.length+1) j)).heap[a.heap.size]? = some (.cells #[.slice l6 (C.length+1) l7] 48)/\OI (R.setCell ⟨a.heap.size,0,none⟩ (.slice g (C.length+1) j)) a.heap.size (.slice l6 (C.length+1) l7) (C.length+1) (C ++ [(q:Int)]))/\Below a.heap.size c (R.setCell ⟨a.heap.size,0,none⟩ (.slice g (C.length+1) j))/\c.heap.size<=(R.setCell ⟨a.heap.size,0,none⟩ (.slice g (C.length+1) j)).heap.size/\∀r∈s,(R.setCell ⟨a.heap.size,0,none⟩ (.slice g (C.length+1) j)).heap[r]? = some (.deferred (some []))):=by
       refine⟨⟨g,j,heap_setCell_same R a.heap.size 0 _ _ _ a',b'.other (E:=48) (by decide) (AE.setCell (p:=⟨a.heap.size,0,none⟩) a' _)⟩,?_,?_,fun r b=>?_⟩
       ·exact((((a3.mono p3)).trans (a2.mono (by have:=a3.size;omega))).trans j8).setCell (p:=⟨a.heap.size,0,none⟩) (wC _) _
       ·have t:=Z.size;have h2:=m.size;omega
       ·exact Z.objs r _ ((BR.below m).objs r _ (V r b).1 trivial) trivial
      have Z:=qH Z;rw[g4] at j4;clear cf h8 n6 b' j' j8 k7 a4 h0 a' a0 kN a2;gi_wp2_with (refine eP rfl _ _ rfl rfl rfl j4 ?_)
      exact⟨Z.out,rfl,g5,o5.out⟩
    case done=>
     intro d ys W hS ⟨m,j3⟩ hd c3
     have n7:d1.any (CJ l)=false:=by
      rw[Bool.eq_false_iff];intro h;obtain⟨x,hx,b3⟩:=List.any_eq_true.1 h;rw[<-hS] at hx;obtain⟨c9,hy,rfl⟩:=List.mem_map.1 hx;rw[j3 c9 hy] at b3;cases b3
     rw[n7,if_neg (by decide),List.append_nil] at X;have a4:=AN m e6;have a0:=e0.keep m;have g':=btt Q m;have h4:a.heap.size<=d:=wI Q.size hd
     have i0:Hid (∀r∈d::s,W.heap[r]? = some (.deferred (some []))/\a.heap.size<=r):=fun r b=>by
      rcases List.mem_cons.1 b with rfl|b
      ·exact⟨c3,h4⟩
      ·obtain⟨t,h2,h3⟩:=V r b;exact⟨(m.block r h3).trans t,h2⟩
     have h7:Hid (d::s).Nodup:=by
      show List.Nodup _;rw[List.nodup_cons];exact⟨fun b=>by have:=(V d b).2.2;omega,c5⟩
     rw[<-X] at a4 a0;have c4:=qH (And.intro a4 a0);have p0:IntKind.i64.wrap ((q:Int)+1)=(q:Int)+1:=IntWalk.i64_in _ (by omega);clear a4 a0 e6 e0 V c3 j3;go_wp2;refine⟨⟨_,_,_,_,_,_,_,_,_,_,_,_,_,_,_,_,_,_,_,_,_,_,_,_,_,_,_,_,_,_,_,_,_,q+1,d::s,oa,oc,k0,?_,c4.out.2,i0.out,h7.out,g',rfl⟩,?_⟩
     ·exact c4.out.1
     ·simp[intOf];omega
    case stop=>
     rintro d cd N W ⟨rfl,g5,⟨g,j,k1,t⟩,m,r',k3⟩ hd c3;rw[g5,if_pos rfl] at X;have g':=Q.trans m;have h4:a.heap.size<=d:=wI Q.size hd
     have i0:Hid (∀r∈d::s,W.heap[r]? = some (.deferred (some []))/\a.heap.size<=r):=fun r b=>by
      rcases List.mem_cons.1 b with rfl|b
      ·exact⟨c3,h4⟩
      ·exact⟨k3 r b,(V r b).2.1⟩
     have h7:Hid (d::s).Nodup:=by
      show List.Nodup _;rw[List.nodup_cons];exact⟨fun b=>by have:=(V d b).2.2;omega,c5⟩
     have h6:(CS n.toNat r.toNat xs l (q+1)).length=C.length+1:=(by rw[X,List.length_append];rfl);rw[<-h6,<-X] at t;rw[<-h6] at k1;have c4:=qH (And.intro k1 t);have p0:IntKind.i64.wrap ((q:Int)+1)=(q:Int)+1:=IntWalk.i64_in _ (by omega);clear k1 t e6 e0 V c3 k3 h6;refine wpIn_wide.2 ?_;go_wp2;refine⟨⟨_,_,_,_,_,_,_,_,_,_,_,_,_,_,_,_,_,_,_,_,_,_,_,_,_,_,_,_,_,_,_,_,_,q+1,d::s,g,j,k0,c4.out.1,c4.out.2,i0.out,h7.out,g',rfl⟩,?_⟩;simp[intOf];omega
   ·obtain rfl:q=M:=(by omega);have g3:=hO;have zb:=wJ a9;rw[hC] at U;have o1:Hid (Below w.heap.size w wr):=btt j7.out e4;subst U;replace a5:=qH a5;replace c5:=qH c5;replace g3:=qH g3;clear hO a9 e4;go_wp2;refine QI (B:=a.heap.size) rfl s wr a5.out c5.out (fun w' c7 p6=>⟨_,rfl,?_,?_⟩)
    ·exact OI.intsE (g3.out.other (E:=57) (by decide) p6) (by omega)
    ·exact o1.out.trans (c7.mono (by have:=j7.out.size;omega))
  ·rw[if_neg hf] at U;subst U;rw[F];have r7:(f8 == 0)=false:=(by simpa using hf);replace hf:=qH hf;replace F:=qH F;go_wp2;exact QI (B:=a.heap.size) rfl [] _ (by simp) List.nodup_nil (fun w' c7 _=>⟨_,rfl,AR.nil _ _ _,btt c0 c7⟩)
 ·rw[if_pos hz] at F;subst F;rw[if_neg hz] at U;subst U;have r6:(f7 == 0)=false:=by simpa using hz
  replace hz:=qH hz;clear HG;go_wp2;exact QI (B:=w2.heap.size) rfl [] _ (by simp) List.nodup_nil (fun w' c7 _=>⟨_,rfl,AR.nil _ _ _,btt e2 c7⟩)
end Go.Proofs.YtcnedkkcgdkioaaGreat
