/- Texts of this claim, put together: QH QL SV MG MR. -/
import Derived.Test.YtcnedkkcgdkioaaGreatKBzh

set_option maxRecDepth 100000
set_option maxHeartbeats 12800000
namespace Go.Proofs.YtcnedkkcgdkioaaGreat
open Go.RowKit
theorem jV {cs:List Cs}(h:GS cs=true):cs.length<=30/\∀c∈cs,c.2.1.length<=30:=by
 unfold GS at h;rw[Bool.and_eq_true,List.all_eq_true] at h;refine⟨of_decide_eq_true h.1,fun c a=>?_⟩;have:=h.2 c a
 unfold LU KP at this;rw[Bool.and_eq_true,Bool.and_eq_true,Bool.and_eq_true] at this;exact of_decide_eq_true this.2.1.1
theorem OP {l:Jc}:(BC l).length<=l.length:=by
 have g:∀(r o:Jc),(GG l r o).length<=o.length+r.length:=by
  intro r;induction r with
  | nil=>intro o;simp[GG]
  | cons a r i=>
   intro o;rw[GG,List.length_cons];have:=i (if 0 < a.length/\FE l a=false then BK CY o a else o)
   have b:=bZ (l:=o) (s:=a);by_cases h:0 < a.length/\FE l a=false
   ·rw[if_pos h] at this|-;omega
   ·rw[if_neg h] at this|-;omega
 have:=g l []
 rw[List.length_nil,Nat.zero_add] at this;exact this
def GM (w:World) (cs:List Value) (x:Jb):Prop:=EVx w cs x/\x.length<=100
theorem GM.stab {E:TypeId}(h:83 ≠ E):CP E GM:=fun _ _ _ _ ⟨k,l⟩ x=>⟨EVx.stab h _ _ _ _ k x,l⟩
theorem GM.stb:CP 38 GM:=GM.stab (by decide)
def GW (w:World) (u:Value) (x:Jb):Prop:=AA 83 2 EI w 0 u x.length x/\x.length<=100
theorem GW.ksc {w:World}:∀u x,GW w u x->CO 2 w u x:=fun u x h=>by
 obtain⟨b,d⟩:=h;obtain⟨a,c,rfl⟩:=b.shape;exact EVx.ksc b (by omega)
theorem AA.evp {w:World}{B n:Nat}{v:Value}{l:Jc}(h:AA 38 1 GM w B v n l):AA 38 1 (CF (GW w)) w B v n l:=
 h.mono fun _ _ ⟨⟨_,_,e,k⟩,a⟩=>⟨_,e,k,a⟩
theorem YM {w b:World}{B n c:Nat}{a:Option Addr}{R:Jc}{u0 u1:Value}(h:AA 38 1 (CF (GW w)) b 0 (.slice a R.length c) n R) (g:Below w.heap.size w b) (k:b.heap[B]? = some (.cells #[u0] 57)) :
  AA 38 1 (CF (GW (b.setCell ⟨B,0,none⟩ u1))) (b.setCell ⟨B,0,none⟩ u1) 0 (.slice a R.length c) n R:=by
 have f:=AE.setCell (p:=⟨B,0,none⟩) k u1;refine(h.other (CF.stab _ _) (E':=57) (by decide) f).mono fun s x ⟨u,e,d⟩=>⟨u,e,?_⟩;exact⟨(d.1.keep (EI.stab _) g).other (EI.stab _) (E':=57) (by decide) f,d.2⟩
theorem jU {w b:World}{B n c:Nat}{a:Option Addr}{R:Jc}{u0 u1:Value}(h:AA 38 1 (CF (GW w)) b 0 (.slice a R.length c) n R) (d:Below w.heap.size w b) (k:b.heap[B]? = some (.cells #[u0] 57)) (e:R.length<=1000000) :
  EB 2 (b.setCell ⟨B,0,none⟩ u1) (.slice a R.length c) R:=
 (JP.ofOwX (YM h d k)).kss (wB _ _) GW.ksc e
theorem tO {n r:Nat}{xs:List Ex}{idx:Int}{k:Nat}{x:Ex}(h:k < xs.length) (a:xs.getD k BJ=x):AX n r (xs.take (k+1)) idx=AX n r (xs.take k) idx++(if idx < 0\/x.1=idx then [BP n r x] else []):=by
 unfold AX;rw[BY h BJ,a,List.filter_append,List.map_append];congr 1
 by_cases c:idx < 0\/x.1=idx
 ·rw[if_pos c,List.filter_cons,if_pos (vZ c)];rfl
 ·rw[if_neg c,List.filter_cons,if_neg (by simpa using c)];rfl
theorem MD {n r:Nat}{xs:List Ex}{idx:Int}:(AX n r xs idx).length<=xs.length:=by
 unfold AX;rw[List.length_map];exact List.length_filter_le _ _
theorem rX {fn:Func}{k:Nat}(h:fn.results = #[.cell k 57]) (tmps:Array Value) (w:World) (g:Nat) {u0:Value}(p:tmps.getD k undef = .pointer (some ⟨g,0,none⟩)) (c:w.heap[g]? = some (.cells #[u0] 57)) :
  (results fn tmps).run Tryz.prog w = .ok (.agg #[u0]) w:=by
 have a:tmps[k]?.getD undef = .pointer (some ⟨g,0,none⟩):=by simpa using p
 have z:=wJ c;have b:=Tryz.isAgg57;have s:=Tryz.sizeOf57;simp only[results,h];simp[Sem.run_bind,Result.andThen,a,asAddr,loadVar]
 go_simp
theorem QU {w:World}{v:Value}{n i o an idx:Int}{N b:Nat}{cs:List Cs}{ss:Jc}{vs:Jb}{xs:List Ex}(h:CC w v n i o cs an ss (b:Int) (N:Int) vs xs) (h1:1<=N) (h5:N<=5) (hG:∀x∈xs,MK N b x) (h3:xs.length<=1000) :
  Calls Tryz.prog 58 #[v,.int .i64 idx] w fun e w'=>∃a c,e = .returned (.agg #[.slice a (BC (AX N b xs idx)).length c])/\AA 38 1 (CF (GW w')) w' 0 (.slice a (BC (AX N b xs idx)).length c) (BC (AX N b xs idx)).length (BC (AX N b xs idx))/\Below w.heap.size w w':=by
 have HA:=qH (fun W (e0:Nat) (A:Below w.heap.size w W) (L:e0 < xs.length)=>cA (h.keep A) L h1 h5 (hG _ (by rw[AK L];exact wG L)));obtain⟨a,c,C,D,T,U,V,X,rfl,hP,hV,hX⟩:=h;obtain⟨f,m⟩:=AF ((w.alloc (.cells #[.int .i64 n,.int .i64 i,.int .i64 o,.slice a cs.length c,.int .i64 an,.slice C ss.length D,.int .i64 (b:Int),.int .i64 (N:Int),.slice T vs.length U,.slice V xs.length X] 35)).alloc (.cells #[.slice none 0 0] 57));have a7:Below w.heap.size w f:=by rw[m];exact((wB _ w).alloc (wC _) _).alloc (by simp) _
 have Q:f.heap[w.heap.size]? = some (.cells #[.int .i64 n,.int .i64 i,.int .i64 o,.slice a cs.length c,.int .i64 an,.slice C ss.length D,.int .i64 (b:Int),.int .i64 (N:Int),.slice T vs.length U,.slice V xs.length X] 35):=by
  rw[m];exact(Below.heap_alloc _ _ _ (by simp)).trans (wE w _)
 have kR:f.heap[w.heap.size+1]? = some (.cells #[.slice none 0 0] 57):=by
  rw[m];have:=wE (w.alloc (.cells #[.int .i64 n,.int .i64 i,.int .i64 o,.slice a cs.length c,.int .i64 an,.slice C ss.length D,.int .i64 (b:Int),.int .i64 (N:Int),.slice T vs.length U,.slice V xs.length X] 35)) (.cells #[.slice none 0 0] 57)
  rwa [World.size_alloc] at this
 have HB:=qH (fun W (A:Below f.heap.size f W)=>And.intro (keep7 A (AW Q).1) (keep3' A (AW Q).2));have d':=qH kR;obtain⟨h6,h8,xb,xo,f1,f0,b7,-⟩:=hX;injection f1 with e1 e2 e3;subst e1 e3;have d7:=qH b7;obtain⟨Z,z⟩:=AB (BC (AX N b xs idx));rw[z];replace z:=qH z;have b4:Hid (AA 38 1 GM f f.heap.size (.slice none 0 0) (AX N b (xs.take 0) idx).length (AX N b (xs.take 0) idx)):=AA.nil _ _;clear Q kR hP hV b7 hG e2;go_enter Tryz.func58, Tryz.ntmps58
 go_wp2_with fail
 rw[<-m];replace m:=qH m;go_loopw [5,6] (fun ov P wr=>∃d:Nat,P = .int .i64 d/\d<=xs.length/\Hid (AA 38 1 GM wr f.heap.size ov (AX N b (xs.take d) idx).length (AX N b (xs.take d) idx))/\Below f.heap.size f wr) (fun _ P _=>xs.length - (intOf P).toNat)
 case atStart=>exact⟨0,rfl,by omega,b4,wB _ _⟩
 case round=>
  clear b4;obtain⟨d,rfl,hk,l,q⟩:=hrel;obtain⟨oa,oc,e6⟩:=l.out.shape;subst e6;have a8:=btt a7 q;obtain⟨⟨z0,z1,z2,z3,z4,z5,z6⟩,z7,z8,z9⟩:=HB.out wr q;by_cases t:d < xs.length
  ·have h0:(d:Int) < (xs.length:Int):=(by omega);obtain rfl:=f0 (by omega);obtain⟨u1,u2,B,q1,q2,-,-⟩:=d7.out d t;replace B:=AC a8 B;have H:=HA.out wr d a8 t;have g:=tO (n:=N) (r:=b) (idx:=idx) t rfl
   have e5:(AX N b (xs.take d) idx).length<=1000:=by
    have:=MD (n:=N) (r:=b) (xs:=xs.take d) (idx:=idx)
    rw[List.length_take] at this;omega
   have J:(BP N b (xs.getD d BJ)).length<=100:=by
    have:(BP N b (xs.getD d BJ)).length<=N:=IQ _
    omega
   obtain⟨x,hx⟩:=AB (xs.getD d BJ);rw[hx] at B H g J;obtain⟨S,hS⟩:=AB (BP N b x);rw[hS] at H g J;obtain⟨a0,hO⟩:=AB (AX N b (xs.take d) idx);rw[hO] at l g e5|-;obtain⟨y,a'⟩:=AB (x.1);rw[a'] at B g;replace H:=qH H;have d9:a0.length<=1000000000000:=(by omega);clear hO hx hS a' q1 q2;by_cases j:idx < 0\/y=idx
   ·rw[if_pos j] at g;replace g:=qH g
    have s:idx < 0\/(decide (idx < 0)=false/\y=idx):=by
     by_cases h:idx < 0
     ·exact .inl h
     ·exact .inr ⟨vY h,j.resolve_left h⟩
    clear j;rcases s with s|⟨s,b0⟩
    case' inl=>replace s:decide (idx < 0)=true:=vZ s
    case' inr=>have g':(y == idx)=true:=by rw[b0];exact beq_self_eq_true idx
    all_goals
     go_wp2_with fail
     refine H.out.mono ?_;rintro e w3 ⟨v3,rfl,G,a9⟩;obtain⟨pa,pc,e7⟩:=G.shape;subst e7;have b1:=l.out.keep GM.stb a9;have a6:=btt q a9;have e8:=a6.size;have c8:Hid (GM w3 [.slice pa S.length pc] S):=⟨⟨_,_,rfl,G.base (Nat.zero_le _)⟩,J⟩;have d6:Hid (∀c1∈(#[.slice pa S.length pc]:Array Value).toList,c1.oneCell'=true):=fun c1 hu=>by rw[List.mem_singleton.1 hu];rfl
     clear G;go_wp2_with (at_builtin;refine FH (x:=S) GR (by decide) (by decide) GM.stb rfl _ _ rfl rfl b1 rfl rfl rfl d6.out c8.out d9 e8 ?_)
     intro v4 w4 b2 d8 d2 e'
     have I:Hid (AA 38 1 GM w4 f.heap.size v4 (AX N b (xs.take (d+1)) idx).length (AX N b (xs.take (d+1)) idx)):=by
      show AA _ _ _ _ _ _ _ _;rw[g.out,List.length_append];exact b2
     have d4:=a6.trans d2;clear b2 b1 d8 e';go_wp2_with fail
     go_roundw
     case rel=>exact⟨d+1,by go_num,t,I,d4⟩
     case measure=>simp[intOf];omega
   ·rw[if_neg j,List.append_nil] at g;have s:decide (idx < 0)=false:=vY fun h=>j (.inl h);have b0:(y == idx)=false:=beq_eq_false_iff_ne.2 fun h=>j (.inr h)
    have I:Hid (AA 38 1 GM wr f.heap.size (.slice oa a0.length oc) (AX N b (xs.take (d+1)) idx).length (AX N b (xs.take (d+1)) idx)):=by
     show AA _ _ _ _ _ _ _ _;rw[g];exact l.out
    clear j g l;go_wp2_with fail
    go_roundw
    case rel=>exact⟨d+1,by go_num,t,I.out,q⟩
    case measure=>simp[intOf];omega
  ·obtain rfl:d=xs.length:=(by omega);have M:=l.out;rw[List.take_length] at M|-
   have b5:∀c0∈AX N b xs idx,VS c0:=fun c0 hs=>by
    unfold AX at hs;obtain⟨h',_,rfl⟩:=List.mem_map.1 hs;exact RB
   have e4:=MD (n:=N) (r:=b) (xs:=xs) (idx:=idx);have O:=qI (JP.ofOwX M.evp) GW.ksc b5 (by omega);rw[z.out] at O;have Y:=qH O;obtain⟨g8,hM⟩:=AB ((AX N b xs idx).length);rw[hM] at Y|-;clear b5 O l M hM e4 z0 z1 z2 z3 z4 z5 z6 z7 z8;go_wp2_with fail
   refine Y.out.mono ?_;rintro e w5 ⟨E,F,rfl,a4,K⟩;have d5:=btt a7 (btt q K);have u:=AN K (AN q d'.out);have z5:=wJ u;have fz:=BG u;have c9:=qH (YM (u1:=.slice E Z.length F) a4 K u);have R:=heap_setCell_same w5 (w.heap.size+1) 0 _ _ (.slice E Z.length F) u;have d3:=d5.setCell (p:=⟨w.heap.size+1,0,none⟩) (by show w.heap.size<=w.heap.size+1;omega) (.slice E Z.length F);replace R:=qH R;clear a4 u;go_wp2_with fail
   exact⟨rfl,_,rX (k:=4) rfl _ _ _ rfl R.out,_,_,rfl,c9.out,d3⟩
theorem OY {w:World}{v:Value}{n i o an r tn:Int}{cs:List Cs}{ss:Jc}{vs:Jb}{xs:List Ex}(h:CC w v n i o cs an ss r tn vs xs) (e:tn=n) (a:n=(n.toNat:Int)) (b:r=(r.toNat:Int)):CC w v n i o cs an ss ((r.toNat:Nat):Int) ((n.toNat:Nat):Int) vs xs:=by
 rw[<-a,<-b,<-e];rw[<-e] at h;exact h
theorem OG {w W:World}{b c:Nat}{u:Value}{f:Option Addr}{fs:Jc}(k:W.heap[b]? = some (.cells #[u] 57)) (h:AA 38 1 (CF (GW W)) W 0 (.slice f fs.length c) fs.length fs) (n:fs.length<=1000000) (a:Below w.heap.size w W) (d:w.heap.size<=b) :
  W.cell? ⟨b,0,none⟩=some u/\W.frozen? ⟨b,0,none⟩=false/\(W.setCell ⟨b,0,none⟩ (.slice f fs.length c)).heap[b]? = some (.cells #[.slice f fs.length c] 57)/\
   Hid (EB 2 (W.setCell ⟨b,0,none⟩ (.slice f fs.length c)) (.slice f fs.length c) fs/\Below w.heap.size w (W.setCell ⟨b,0,none⟩ (.slice f fs.length c))):=
 ⟨wJ k,QW k,heap_setCell_same W b 0 _ _ (.slice f fs.length c) k,jU h (wB _ _) k n,a.setCell (p:=⟨b,0,none⟩) d _⟩
theorem pN {w:World}{v:Value}{n i o an r tn:Int}{cs:List Cs}{ss:Jc}{vs:Jb}{xs:List Ex}(h:CC w v n i o cs an ss r tn vs xs) (M:DH n i o cs an ss r=true) :
  Calls Tryz.prog 20 #[v] w fun e w'=>∃u,e = .returned (.tuple #[.agg #[u],.int .i64 (AZ n i o cs an ss r tn vs xs)])/\EB 2 w' u (if AZ n i o cs an ss r tn vs xs=0 then BC (AX n.toNat r.toNat xs (-1)) else [])/\Below w.heap.size w w':=by
 have V:=qH (fun W (d:Below w.heap.size w W)=>OV (h.keep d) M);have H:=IR h M;have T:=qH (fun W (d:Below w.heap.size w W) (G:tn=n/\n=(n.toNat:Int)/\r=(r.toNat:Int)/\r.toNat<=6/\IC n.toNat r.toNat vs xs)=>QU (idx:=-1) (OY (h.keep d) G.1 G.2.1 G.2.2.1) G.2.2.2.2.n1 G.2.2.2.2.n5 G.2.2.2.2.ex (by have:=G.2.2.2.2.xl;omega));obtain⟨E,I⟩:=AB (AZ n i o cs an ss r tn vs xs);rw[I] at V H|-;obtain⟨a,c,U,X,va,vc,xa,xc,rfl,-⟩:=h;obtain⟨j,l,p,S,P⟩:=RD w #[.int .i64 n,.int .i64 i,.int .i64 o,.slice a cs.length c,.int .i64 an,.slice U ss.length X,.int .i64 r,.int .i64 tn,.slice va vs.length vc,.slice xa xs.length xc];have K:=qH (fun W (d:Below j.heap.size j W)=>And.intro (keep7 d (AW S).1) (keep3' d (AW S).2));obtain⟨⟨q,s,t,x,y,A,B⟩,C,D,F⟩:=K.out j (wB _ _);rw[l] at q s t x y A B C D F;have N:=qH P;replace I:=qH I;obtain⟨R,b⟩:∃R,(if E=0 then BC (AX n.toNat r.toNat xs (-1)) else [])=R:=⟨_,rfl⟩;rw[b];clear S P;go_enter Tryz.func20, Tryz.ntmps20
 go_wp2_with fail
 rw[<-l];replace l:=qH l;refine(V.out j p).mono ?_;rintro e Q ⟨rfl,f⟩;clear q s t x y A B C D F;by_cases z:E=0
 ·subst z;have G:=qH (H rfl);have a9:=G.out.2.2.2.2.xl;rw[if_pos rfl] at b;obtain⟨⟨q,s,t,x,y,A,B⟩,C,D,F⟩:=K.out Q f;have J:=qH (T.out Q (btt p f) G.out);rw[b] at J;have Z:Hid (R.length<=1000000):=by show _<=_;rw[<-b];exact wI OP (wI MD (by omega))
  clear b G H;go_wp2_with fail
  refine J.out.mono ?_;rintro e w4 ⟨fa,fc,rfl,O,L⟩;obtain⟨z4,Y,m,g⟩:=OG (w:=w) (AN (btt f L) N.out) O Z.out (btt (btt p f) L) (Nat.le_succ _);replace m:=qH m;clear O q s t x y A B C D F;go_wp2;exact⟨rfl,_,GK (k:=2) rfl _ _ _ rfl rfl m.out,_,rfl,g.out.1,g.out.2⟩
 ·rw[if_neg z] at b;subst b;obtain⟨z4,Y,m,g⟩:=OG (w:=w) (fs:=[]) (AN f N.out) (AA.nil _ _) (by decide) (btt p f) (Nat.le_succ _);replace m:=qH m;have a7:(E == 0)=false:=by simpa using z
  have a8:(E != 0)=true:=by simpa using z
  replace z:=qH z;go_wp2;exact⟨rfl,_,GK (k:=2) rfl _ _ _ rfl rfl m.out,_,rfl,g.out.1,g.out.2⟩
theorem pI {w:World}{v:Value}{n i o an r tn idx:Int}{cs:List Cs}{ss:Jc}{vs:Jb}{xs:List Ex}(h:CC w v n i o cs an ss r tn vs xs) (U:DH n i o cs an ss r=true) :
  Calls Tryz.prog 22 #[v,.int .i64 idx] w fun e w'=>∃u,e = .returned (.tuple #[.agg #[u],.int .i64 (GD (AZ n i o cs an ss r tn vs xs) idx cs.length)])/\EB 2 w' u (if GD (AZ n i o cs an ss r tn vs xs) idx cs.length=0 then BC (AX n.toNat r.toNat xs idx) else [])/\Below w.heap.size w w':=by
 have V:=qH (fun W (f:Below w.heap.size w W)=>OV (h.keep f) U);have H:=IR h U;have L:=qH (fun W (f:Below w.heap.size w W) (G:tn=n/\n=(n.toNat:Int)/\r=(r.toNat:Int)/\r.toNat<=6/\IC n.toNat r.toNat vs xs)=>QU (idx:=idx) (OY (h.keep f) G.1 G.2.1 G.2.2.1) G.2.2.2.2.n1 G.2.2.2.2.n5 G.2.2.2.2.ex (by have:=G.2.2.2.2.xl;omega));obtain⟨E,I⟩:=AB (AZ n i o cs an ss r tn vs xs);rw[I] at V H|-;obtain⟨a1,a3,a',c',va,vc,xa,xc,rfl,-⟩:=h;obtain⟨l,g,j,S,X⟩:=RD w #[.int .i64 n,.int .i64 i,.int .i64 o,.slice a1 cs.length a3,.int .i64 an,.slice a' ss.length c',.int .i64 r,.int .i64 tn,.slice va vs.length vc,.slice xa xs.length xc];have K:=qH (fun W (f:Below l.heap.size l W)=>And.intro (keep7 f (AW S).1) (keep3' f (AW S).2));obtain⟨⟨q,s,t,p,x,y,A⟩,B,C,D⟩:=K.out l (wB _ _);rw[g] at q s t p x y A B C D;have J:=qH X;replace I:=qH I;obtain⟨M,P⟩:=AB (cs.length);rw[P] at V K L g p|-;obtain⟨a0,F⟩:=AB (GD E idx M);rw[F];obtain⟨R,a⟩:∃R,(if a0=0 then BC (AX n.toNat r.toNat xs idx) else [])=R:=⟨_,rfl⟩;rw[a];unfold GD at F;clear S X P;go_enter Tryz.func22, Tryz.ntmps22
 go_wp2_with fail
 rw[<-g];replace g:=qH g;refine(V.out l j).mono ?_;rintro e Y ⟨rfl,b⟩;clear q s t p x y A B C D;obtain⟨⟨q,s,t,p,x,y,A⟩,B,C,D⟩:=K.out Y b;by_cases z:E=0
 ·subst z;rw[if_neg (fun h=>h rfl)] at F;have G:=qH (H rfl);have b8:=G.out.2.2.2.2.xl;clear H;by_cases c:idx < 0\/(M:Int)<=idx
  ·rw[if_pos c] at F;subst F;rw[if_neg (by decide)] at a;subst a;obtain⟨Z,O,m,d⟩:=OG (w:=w) (fs:=[]) (AN b J.out) (AA.nil _ _) (by decide) (btt j b) (Nat.le_succ _);replace m:=qH m;rcases Int.lt_or_le idx 0 with hn|hn
   ·replace c:=qH c;go_wp2;exact⟨rfl,_,GK (k:=4) rfl _ _ _ rfl rfl m.out,_,rfl,d.out.1,d.out.2⟩
   ·have hm:(M:Int)<=idx:=(by omega);replace c:=qH c;go_wp2;exact⟨rfl,_,GK (k:=4) rfl _ _ _ rfl rfl m.out,_,rfl,d.out.1,d.out.2⟩
  ·rw[if_neg c] at F;subst F;rw[if_pos rfl] at a;have N:=qH (L.out Y (btt j b) G.out);rw[a] at N;have a5:Hid (R.length<=1000000):=(by show _<=_;rw[<-a];exact wI OP (wI MD (by omega)));have h0:(0:Int)<=idx:=(by omega);have h1:idx < (M:Int):=(by omega);replace c:=qH c;clear a G;go_wp2_with fail
   refine N.out.mono ?_;rintro e w4 ⟨fa,fc,rfl,Q,T⟩;obtain⟨Z,O,m,d⟩:=OG (w:=w) (AN (btt b T) J.out) Q a5.out (btt (btt j b) T) (Nat.le_succ _);replace m:=qH m;clear Q q s t p x y A B C D;go_wp2;exact⟨rfl,_,GK (k:=4) rfl _ _ _ rfl rfl m.out,_,rfl,d.out.1,d.out.2⟩
 ·rw[if_pos z] at F;subst F;rw[if_neg z] at a;subst a;obtain⟨Z,O,m,d⟩:=OG (w:=w) (fs:=[]) (AN b J.out) (AA.nil _ _) (by decide) (btt j b) (Nat.le_succ _);replace m:=qH m;have b5:(E == 0)=false:=by simpa using z
  have b6:(E != 0)=true:=by simpa using z
  replace z:=qH z;go_wp2;exact⟨rfl,_,GK (k:=4) rfl _ _ _ rfl rfl m.out,_,rfl,d.out.1,d.out.2⟩
theorem rD {w:World}{v:Value}{n i o an r tn idx:Int}{cs:List Cs}{ss:Jc}{vs:Jb}{xs:List Ex}(h:CC w v n i o cs an ss r tn vs xs) (a1:DH n i o cs an ss r=true) :
  Calls Tryz.prog 24 #[v,.int .i64 idx] w fun e w'=>∃v',e = .returned (.tuple #[v',.int .i64 (IP (AZ n i o cs an ss r tn vs xs) idx xs.length (BP n.toNat r.toNat (xs.getD idx.toNat BJ)))])/\KS 2 w' v' (if IP (AZ n i o cs an ss r tn vs xs) idx xs.length (BP n.toNat r.toNat (xs.getD idx.toNat BJ))=0 then BP n.toNat r.toNat (xs.getD idx.toNat BJ) else [])/\Below w.heap.size w w':=by
 have I:=qH (fun W (f:Below w.heap.size w W)=>OV (h.keep f) a1);have H:=IR h a1;obtain⟨E,J⟩:=AB (AZ n i o cs an ss r tn vs xs);rw[J] at I H|-;have X:=qH (fun W (f:Below w.heap.size w W) (G:tn=n/\n=(n.toNat:Int)/\r=(r.toNat:Int)/\r.toNat<=6/\IC n.toNat r.toNat vs xs) (j:Nat) (N:j < xs.length)=>cA (OY (h.keep f) G.1 G.2.1 G.2.2.1) N G.2.2.2.2.n1 G.2.2.2.2.n5 (G.2.2.2.2.ex (xs.getD j BJ) (by rw[AK N];exact wG N)));obtain⟨a4,a6,a',c',va,vc,xa,xc,rfl,-,-,-⟩:=h;obtain⟨V,a8⟩:∃V:Array Value,V = #[.int .i64 n,.int .i64 i,.int .i64 o,.slice a4 cs.length a6,.int .i64 an,.slice a' ss.length c',.int .i64 r,.int .i64 tn,.slice va vs.length vc,.slice xa xs.length xc]:=⟨_,rfl⟩;obtain⟨d,c⟩:=AF (w.alloc (.cells V 35));have Y:Below w.heap.size w d:=by rw[c];exact(wB _ w).alloc (wC _) _
 have T:d.heap[w.heap.size]? = some (.cells V 35):=by rw[c];exact wE _ _
 subst a8;have K:=qH (fun W (f:Below d.heap.size d W)=>And.intro (keep7 f (AW T).1) (keep3' f (AW T).2));obtain⟨⟨k,m,q,t,u,y,A⟩,B,C,p⟩:=K.out d (wB _ _);rw[c] at k m q t u y A B C p;replace J:=qH J;obtain⟨x,D⟩:=AB (xs.getD idx.toNat BJ);rw[D];obtain⟨s,Q⟩:=AB (BP n.toNat r.toNat x);rw[Q];obtain⟨M,L⟩:=AB (xs.length);rw[L] at I K X c p|-;replace L:=qH L;obtain⟨a3,F⟩:=AB (IP E idx M s);rw[F];obtain⟨R,a⟩:∃R,(if a3=0 then s else [])=R:=⟨_,rfl⟩;rw[a];unfold IP at F;clear T;go_enter Tryz.func24, Tryz.ntmps24
 go_wp2_with fail
 rw[<-c];replace c:=qH c;refine(I.out d Y).mono ?_;rintro e w2 ⟨rfl,Z⟩;clear k m q t u y A B C p;obtain⟨⟨k,m,q,t,u,y,A⟩,B,C,p⟩:=K.out w2 Z;have g:=btt Y Z;by_cases z:E=0
 ·subst z;rw[if_neg (fun h=>h rfl)] at F;have G:=qH (H rfl);clear H;by_cases b:idx < 0\/(M:Int)<=idx
  ·rw[if_pos b] at F;subst F;rw[if_neg (by decide)] at a;subst a;rcases Int.lt_or_le idx 0 with hn|hn
   ·replace b:=qH b;go_wp2;go_ret2
    exact⟨_,rfl,AA.ksNil _,g⟩
   ·have hm:(M:Int)<=idx:=(by omega);replace b:=qH b;go_wp2;go_ret2
    exact⟨_,rfl,AA.ksNil _,g⟩
  ·rw[if_neg b] at F;have h0:(0:Int)<=idx:=(by omega);have h1:idx < (M:Int):=(by omega);obtain⟨j,rfl⟩:∃j:Nat,idx=(j:Int):=⟨idx.toNat,by omega⟩;rw[Int.toNat_natCast] at D;have U:=qH (X.out w2 g G.out j (by omega));rw[D,Q] at U;have G:=G.out.2.2.2.2
   have b1:Hid (s.length<=5):=by
    show _<=_;have h5:=G.n5;have:=IQ (ok:=fun b2=>!AY (DT x) (b2:Int)) (l:=x.2.2.getD r.toNat []) n.toNat
    rw[<-Q];unfold BP;omega
   replace b:=qH b;clear D G;go_wp2_with fail
   refine U.out.mono ?_;rintro e w4 ⟨v4,rfl,O,a0⟩;obtain⟨fa,fc,b0⟩:=O.shape;subst b0;rcases Nat.eq_zero_or_pos s.length with S|S
   ·rw[if_pos S] at F;subst F;rw[if_neg (by decide)] at a;subst a;rw[S];clear O k m q t u y A B C p;go_wp2;go_ret2
    exact⟨_,rfl,AA.ksNil _,btt g a0⟩
   ·rw[if_neg (show ¬s.length=0 by omega)] at F;subst F;rw[if_pos rfl] at a;subst a;have hd:((s.length:Int) == 0)=false:=beq_eq_false_iff_ne.2 (by omega);have P:=O.ks (by have:=b1.out;omega);replace P:=qH P;clear O k m q t u y A B C p;go_wp2;go_ret2
    exact⟨_,rfl,P.out,btt g a0⟩
 ·rw[if_pos z] at F;subst F;rw[if_neg z] at a;subst a;have c1:(E == 0)=false:=by simpa using z
  have c2:(E != 0)=true:=by simpa using z
  replace z:=qH z;go_wp2;go_ret2
  exact⟨_,rfl,AA.ksNil _,g⟩
def IE (w:World) (v:Value) (xs:Jb):Prop:=∃a c b o,v = .slice a xs.length c/\(0 < xs.length->a=some ⟨b,o,none⟩)/\CK 7 w b o xs
theorem IE.keep {w w':World}{v:Value}{xs:Jb}(h:IE w v xs) (g:Below w.heap.size w w'):IE w' v xs:=by
 obtain⟨a,c,b,o,d,e,f⟩:=h;exact⟨a,c,b,o,d,e,f.keep g⟩
theorem IE.shape {w:World}{v:Value}{xs:Jb}(h:IE w v xs):∃a c,v = .slice a xs.length c:=by
 obtain⟨a,c,_,_,b,_⟩:=h;exact⟨a,c,b⟩
theorem IE.ks {w:World}{v:Value}{xs:Jb}(h:IE w v xs) (l:xs.length<=2199023255552):KS 7 w v xs:=by
 obtain⟨a,c,b,o,d,e,f⟩:=h;exact⟨a,c,b,o,d,e,f,l⟩
def MO (w:World) (v:Value) (xs:Jb):Prop:=∃a c b o,v = .slice a xs.length c/\(0 < xs.length->a=some ⟨b,o,none⟩)/\CK 2 w b o xs
theorem MO.shape {w:World}{v:Value}{xs:Jb}(h:MO w v xs):∃a c,v = .slice a xs.length c:=by
 obtain⟨a,c,_,_,b,_⟩:=h;exact⟨a,c,b⟩
theorem MO.ks {w:World}{v:Value}{xs:Jb}(h:MO w v xs) (l:xs.length<=2199023255552):KS 2 w v xs:=by
 obtain⟨a,c,b,o,d,e,f⟩:=h;exact⟨a,c,b,o,d,e,f,l⟩
def VM (w:World) (b o:Nat) (xs:List Ex):Prop:=
 ∀j,j < xs.length->∃u1 u2,w.cell? ⟨b,o+j * 3,none⟩=some (.int .i64 (xs.getD j BJ).1)/\w.cell? ⟨b,o+j * 3+1,none⟩=some u1/\w.cell? ⟨b,o+j * 3+2,none⟩=some u2/\
  IE w u1 (xs.getD j BJ).2.1/\BM w u2 (xs.getD j BJ).2.2
def JN (w:World) (v:Value) (xs:List Ex):Prop:=∃a c b o,v = .slice a xs.length c/\(0 < xs.length->a=some ⟨b,o,none⟩)/\VM w b o xs
theorem JN.keep {w w':World}{v:Value}{xs:List Ex}(h:JN w v xs) (d:Below w.heap.size w w'):JN w' v xs:=by
 obtain⟨a,c,b,p,e,f,g⟩:=h;refine⟨a,c,b,p,e,f,fun j i=>?_⟩;obtain⟨u1,u2,k,l,m,n,o⟩:=g j i;exact⟨u1,u2,AC d k,AC d l,AC d m,n.keep d,o.keep d⟩
theorem JN.shape {w:World}{v:Value}{xs:List Ex}(h:JN w v xs):∃a c,v = .slice a xs.length c:=by
 obtain⟨a,c,_,_,b,_⟩:=h;exact⟨a,c,b⟩
theorem JN.at {w:World}{a:Option Addr}{c:Nat}{l:List Ex}(h:JN w (.slice a l.length c) l) (d:0 < l.length):∃b o,a=some ⟨b,o,none⟩/\VM w b o l:=by
 obtain⟨g,i,b,o,v,e,f⟩:=h;injection v with e1 _ _;exact⟨b,o,e1.trans (e d),f⟩
def IY (w:World) (v:Value) (n i o:Int) (cs:List Cs) (an:Int) (ss:Jc) (r tn:Int) (vs:Jb) (xs:List Ex):Prop:=
 ∃a c b d e f x g,v = .agg #[.int .i64 n,.int .i64 i,.int .i64 o,.slice a cs.length c,.int .i64 an,.slice b ss.length d,.int .i64 r,.int .i64 tn,.slice e vs.length f,.slice x xs.length g]/\
  ED w (.agg #[.int .i64 n,.int .i64 i,.int .i64 o,.slice a cs.length c,.int .i64 an,.slice b ss.length d,.int .i64 r]) n i o cs an ss r/\KS 8 w (.slice e vs.length f) vs/\JN w (.slice x xs.length g) xs
theorem IY.keep {w w':World}{v:Value}{n i o an r tn:Int}{cs:List Cs}{ss:Jc}{vs:Jb}{xs:List Ex}(h:IY w v n i o cs an ss r tn vs xs) (b:Below w.heap.size w w'):IY w' v n i o cs an ss r tn vs xs:=by
 obtain⟨a,c,d,e,l,m,x,p,f,g,j,k⟩:=h;exact⟨a,c,d,e,l,m,x,p,f,g.keep b,j.keep b,k.keep b⟩
theorem IY.sys {w:World}{v:Value}{n i o an r tn:Int}{cs:List Cs}{ss:Jc}{vs:Jb}{xs:List Ex}(h:IY w v n i o cs an ss r tn vs xs) (f:JF n i o cs an ss r vs xs=true):CC w v n i o cs an ss r tn vs xs:=by
 obtain⟨a,c,e,k,F,G,H,I,q,s,t,g,l,b,E,u,x,y⟩:=h;unfold JF at f;simp only[Bool.and_eq_true,decide_eq_true_eq,List.all_eq_true] at f;obtain⟨-,-,J,p⟩:=f;refine⟨a,c,e,k,F,G,H,I,q,s,t,g,l,b,E,u,x,fun j d=>?_,by omega⟩;obtain⟨u1,u2,z,A,B,C,D⟩:=y j d;have m:=p (xs.getD j BJ) (by rw[AK d];exact wG d);unfold ND at m;simp only[Bool.and_eq_true,decide_eq_true_eq] at m;exact⟨u1,u2,z,A,B,C.ks (by omega),D⟩
theorem UK {w:World}{v:Value}{n i o an r tn:Int}{cs:List Cs}{ss:Jc}{vs:Jb}{xs:List Ex}(h:IY w v n i o cs an ss r tn vs xs) :
  Calls Tryz.prog 10 #[v] w fun e w'=>e = .returned (.bool (JF n i o cs an ss r vs xs))/\Below w.heap.size w w':=by
 obtain⟨b2,b4,a',c',va,vc,xa,xc,rfl,hP,hV,hX⟩:=h;obtain⟨C,a⟩:=AF (w.alloc (.cells #[.int .i64 n,.int .i64 i,.int .i64 o,.slice b2 cs.length b4,.int .i64 an,.slice a' ss.length c',.int .i64 r,.int .i64 tn,.slice va vs.length vc,.slice xa xs.length xc] 35));have I:Below w.heap.size w C:=by rw[a];exact(wB _ w).alloc (wC _) _
 have kT:C.heap[w.heap.size]? = some (.cells #[.int .i64 n,.int .i64 i,.int .i64 o,.slice b2 cs.length b4,.int .i64 an,.slice a' ss.length c',.int .i64 r,.int .i64 tn,.slice va vs.length vc,.slice xa xs.length xc] 35):=by rw[a];exact wE _ _
 have L:=qH (fun W (F:Below C.heap.size C W)=>And.intro (keep7 F (AW kT).1) (keep3' F (AW kT).2));have P:=qH (pT (hP.keep I));have HX:=qH (fun W (F:Below C.heap.size C W)=>(hX.keep I).keep F);obtain⟨d5,Y⟩:=AB (DH n i o cs an ss r);rw[Y] at P;unfold JF;rw[Y];obtain⟨⟨g,f,m,p,q,s,u⟩,x,y,z⟩:=L.out C (wB _ _);rw[a] at g f m p q s u x y z;clear hP hV hX kT Y;cases d5
 ·rw[Bool.false_and];go_enter Tryz.func10, Tryz.ntmps10
  go_wp2_with fail
  rw[<-a];replace a:=qH a;refine P.out.mono ?_;rintro e K ⟨rfl,b⟩;have D:=btt I b;go_wp2_with fail
  go_ret;exact⟨rfl,D⟩
 ·rw[Bool.true_and];by_cases hv:vs.length<=600
  ·rw[vZ hv,Bool.true_and];have M:decide ((600:Int) < (vs.length:Int))=false:=vY (by omega);by_cases hx:xs.length<=70
   ·rw[vZ hx,Bool.true_and];have N:decide ((70:Int) < (xs.length:Int))=false:=vY (by omega);obtain⟨A,d⟩:=AB (xs.all ND);rw[d];have h0:Hid ((xs.drop 0).all ND=A):=d;clear d hv;go_enter Tryz.func10, Tryz.ntmps10
    go_wp2_with fail
    rw[<-a];replace a:=qH a;refine P.out.mono ?_;rintro e K ⟨rfl,b⟩;clear g f m p q s u x y z;obtain⟨⟨g,f,m,p,q,s,u⟩,x,y,z⟩:=L.out K b;go_wp2_with fail
    clear M N g f m p q s u x y z;go_loopw [3] (fun iv wr=>∃k:Nat,iv = .int .i64 k/\k<=xs.length/\Hid ((xs.drop k).all ND=A)/\Below C.heap.size C wr) (fun iv _=>xs.length - (intOf iv).toNat)
    case atStart=>exact⟨0,rfl,by omega,h0,b⟩
    case round=>
     clear h0 b;obtain⟨k,rfl,hk,U,Q⟩:=hrel;obtain⟨⟨g,f,m,p,q,s,u⟩,x,y,z⟩:=L.out wr Q;have e0:=btt I Q;by_cases a2:k < xs.length
     ·obtain⟨e5,f0,rfl,R⟩:=(HX.out wr Q).at (by omega);obtain⟨u1,u2,X,c1,d7,V,S⟩:=R k a2;obtain⟨e4,a5⟩:=AB (xs.getD k BJ);have t:=U.out;rw[OD a2 a5,List.all_cons] at t;rw[a5] at X V S;obtain⟨c2,T,c⟩:=e4;simp only at X V S
      obtain⟨x1,y1,G⟩:=V.shape;subst G;obtain⟨x2,y2,G⟩:=S.shape;subst G;obtain⟨W2,E⟩:=AF (wr.alloc (.cells #[.int .i64 c2,.slice x1 T.length y1,.slice x2 c.length y2] 80));have b:Below wr.heap.size wr W2:=(by rw[E];exact(wB _ _).alloc (wC _) _);have kC:W2.heap[wr.heap.size]? = some (.cells #[.int .i64 c2,.slice x1 T.length y1,.slice x2 c.length y2] 80):=(by rw[E];exact wE _ _);have HC:=qH (fun W (F:Below W2.heap.size W2 W)=>keep3 F (box3' kC));have I2:=qH (fun W (F:Below W2.heap.size W2 W)=>(S.keep b).keep F);obtain⟨r0,r1,r2⟩:=box3' kC;rw[E] at r0 r1 r2;have D:=btt I (btt Q b);have e1:=btt Q b;clear kC V S a5 U R;unfold ND at t;simp only at t
      by_cases b7:T.length<=10
      ·have M:decide ((10:Int) < (T.length:Int))=false:=vY (by omega);rw[vZ b7,Bool.true_and] at t;by_cases b8:c.length<=10
       ·have N:decide ((10:Int) < (c.length:Int))=false:=vY (by omega);rw[vZ b8,Bool.true_and] at t;obtain⟨B,J⟩:∃B,(c.all fun l=>decide (l.length<=10))=B:=⟨_,rfl⟩;have s0:Hid (((c.drop 0).all fun l=>decide (l.length<=10))=B):=J;rw[J] at t;replace t:=qH t;clear J;go_wp2_with fail
        rw[<-E];replace E:=qH E;clear M N g f m p q s u x y z r0 r1 r2 X c1 d7;obtain⟨wo,e3⟩:=AF (wr);subst e3;go_loopw [5] (fun jv wr=>∃j:Nat,jv = .int .i64 j/\j<=c.length/\Hid (((c.drop j).all fun l=>decide (l.length<=10))=B)/\Below W2.heap.size W2 wr) (fun jv _=>c.length - (intOf jv).toNat)
        case atStart=>exact⟨0,rfl,by omega,s0,wB _ _⟩
        case round=>
         clear s0;obtain⟨j,rfl,hj,G,O⟩:=hrel;obtain⟨r0,r1,r2⟩:=HC.out wr O;by_cases a0:j < c.length
         ·obtain⟨e6,o2,rfl,R⟩:=(I2.out wr O).at (by omega);obtain⟨f1,cu,hu⟩:=R j a0;obtain⟨l,a1⟩:=AB (c.getD j []);rw[a1] at hu;have H:=G.out;rw[OD a0 a1,List.all_cons] at H;obtain⟨ua,uc,e2⟩:=hu.shape;subst e2;clear hu a1 G R;by_cases b9:l.length<=10
          ·rw[vZ b9,Bool.true_and] at H;replace H:=qH H;have d3:decide ((10:Int) < (l.length:Int))=false:=vY (by omega);go_wp2_with fail
           go_roundw
           case rel=>exact⟨j+1,by go_num,a0,H,O⟩
           case measure=>simp[intOf];omega
          ·rw[vY b9,Bool.false_and] at H;have d:=t.out;rw[<-H,Bool.false_and] at d;subst d;have d3:decide ((10:Int) < (l.length:Int))=true:=vZ (by omega);have Z:=btt D O;clear H t;go_wp2_with fail
           go_ret;exact⟨rfl,Z⟩
         ·have J:true=B:=by
           have:=G.out
           rw[List.drop_eq_nil_of_le (by omega)] at this;exact this
          have d:=t.out;rw[<-J,Bool.true_and] at d;replace d:=qH d;have Z:=btt e1 O;clear G t J;go_wp2_with fail
          go_roundw
          case rel=>exact⟨k+1,by go_num,a2,d,Z⟩
          case measure=>simp[intOf];omega
       ·have N:decide ((10:Int) < (c.length:Int))=true:=vZ (by omega);rw[vY b8,Bool.false_and,Bool.false_and] at t;subst t;go_wp2_with fail
        go_ret;exact⟨rfl,by rw[<-E];exact D⟩
      ·have M:decide ((10:Int) < (T.length:Int))=true:=vZ (by omega);rw[vY b7,Bool.false_and,Bool.false_and] at t;subst t;go_wp2_with fail
       go_ret;exact⟨rfl,by rw[<-E];exact D⟩
     ·have hE:true=A:=by
       have:=U.out
       rw[List.drop_eq_nil_of_le (by omega)] at this;exact this
      clear U;subst hE;go_wp2_with fail
      go_ret;exact⟨rfl,e0⟩
   ·rw[vY hx,Bool.false_and];have N:decide ((70:Int) < (xs.length:Int))=true:=vZ (by omega);go_enter Tryz.func10, Tryz.ntmps10
    go_wp2_with fail
    rw[<-a];replace a:=qH a;refine P.out.mono ?_;rintro e K ⟨rfl,b⟩;clear g f m p q s u x y z;obtain⟨⟨g,f,m,p,q,s,u⟩,x,y,z⟩:=L.out K b;have D:=btt I b;go_wp2_with fail
    go_ret;exact⟨rfl,D⟩
  ·rw[vY hv,Bool.false_and];have M:decide ((600:Int) < (vs.length:Int))=true:=vZ (by omega);go_enter Tryz.func10, Tryz.ntmps10
   go_wp2_with fail
   rw[<-a];replace a:=qH a;refine P.out.mono ?_;rintro e K ⟨rfl,b⟩;clear g f m p q s u x y z;obtain⟨⟨g,f,m,p,q,s,u⟩,x,y,z⟩:=L.out K b;have D:=btt I b;go_wp2_with fail
   go_ret;exact⟨rfl,D⟩
end Go.Proofs.YtcnedkkcgdkioaaGreat
