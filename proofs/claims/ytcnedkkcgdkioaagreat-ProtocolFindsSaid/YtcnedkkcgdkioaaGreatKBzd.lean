/- Texts of this claim, put together: PD PE PF0 PF. -/
import Derived.Test.YtcnedkkcgdkioaaGreatKBzc

set_option maxRecDepth 100000
set_option maxHeartbeats 12800000
namespace Go.Proofs.YtcnedkkcgdkioaaGreat
open Go.RowKit
theorem GK {fn:Func}{k:Nat}(h:fn.results = #[.cell k 57,.tmp (k+1)]) (tmps:Array Value) (w:World) (g:Nat) {u0 x:Value}(p:tmps.getD k undef = .pointer (some ⟨g,0,none⟩)) (b:tmps.getD (k+1) undef=x) (c:w.heap[g]? = some (.cells #[u0] 57)) :
  (results fn tmps).run Tryz.prog w = .ok (.tuple #[.agg #[u0],x]) w:=by
 have a:tmps[k]?.getD undef = .pointer (some ⟨g,0,none⟩):=by simpa using p
 have d:tmps[k+1]?.getD undef=x:=by simpa using b
 have z:=wJ c;have e:=Tryz.isAgg57;have s:=Tryz.sizeOf57;simp only[results,h];simp[Sem.run_bind,Result.andThen,a,d,asAddr,loadVar]
 go_simp
theorem nS {w:World}{v:Value}{ss:Jc}(K:EB 2 w v ss) (U:ss.length<=1000) (m:∀s∈ss,VS s/\IX s) :
  Calls Tryz.prog 119 #[v] w fun e w'=>∃v',e = .returned (.tuple #[v',.int .i64 0])/\IA w' v' (JB ss)/\Below w.heap.size w w':=by
 obtain⟨j,d⟩:=AF (w.alloc (.cells #[.slice none 0 0] 57));have t:Below w.heap.size w j:=by rw[d];exact(wB _ w).alloc (wC _) _
 have I:j.heap[w.heap.size]? = some (.cells #[.slice none 0 0] 57):=by rw[d];exact wE _ _
 have L:=qH (fun W (P:Below w.heap.size w W)=>iI (K.keep P) U (fun s h=>(m s h).1) (fun s h=>(m s h).2));obtain⟨a,c,b,a0,rfl,N,E,-⟩:=K;have S:=qH (fun i (F:i < ss.length)=>E i F);have V:=qH m;have T:=qH I;have X:decide ((4096:Int) < (ss.length:Int))=false:=vY (by omega);clear E m I;go_enter Tryz.func119, Tryz.ntmps119
 go_wp2_with fail
 rw[<-d];replace d:=qH d;go_loopw [13] (fun A wr=>∃i:Nat,A = .int .i64 i/\i<=ss.length/\Below j.heap.size j wr) (fun A _=>ss.length - (intOf A).toNat)
 case atStart=>exact⟨0,rfl,by omega,wB _ _⟩
 case round=>
  obtain⟨i,rfl,F,r⟩:=hrel;by_cases x:i < ss.length
  ·have Z:(i:Int) < (ss.length:Int):=(by omega);obtain rfl:=N (by omega);obtain⟨a1,y,u⟩:=S.out i x;have D:=btt t r;replace y:=AC D y;have z:CX (ss.getD i [])=0:=RZ (V.out _ (by rw[AK x];exact wG x)).2;obtain⟨s,G⟩:=AB (ss.getD i []);rw[G] at u z;have f:=NW (u.ks.keep D);obtain⟨ua,uc,H⟩:=u.shape;rw[H] at y f;rw[z] at f;replace f:=qH f;clear z u H G;go_wp2_with fail
   refine f.out.mono ?_;rintro e J ⟨rfl,l⟩;go_wp2_with fail
   go_roundw
   case rel=>exact⟨i+1,by go_num,by omega,btt r l⟩
   case measure=>simp[intOf];omega
  ·obtain rfl:i=ss.length:=(by omega);have M:=qH (L.out wr (btt t r));go_wp2_with fail
   refine M.out.mono ?_;rintro e J ⟨v3,rfl,⟨n,o,rfl,O⟩,l⟩;obtain⟨R,C⟩:=AB (JB ss);rw[C] at O|-;have g:=AN (btt r l) T.out;have z3:=wJ g;have Y:=BG g;have q:=O.other EVx.stc (by decide) (AE.setCell (p:=⟨w.heap.size,0,none⟩) g (.slice n R.length o));have B:=heap_setCell_same J w.heap.size 0 _ _ (.slice n R.length o) g;have Q:=(btt t (btt r l)).setCell (p:=⟨w.heap.size,0,none⟩) (wC _) (.slice n R.length o);replace B:=qH B;replace q:=qH q;clear O g;subst C;go_wp2;exact⟨rfl,_,GK (k:=2) rfl _ _ _ rfl rfl B.out,_,rfl,⟨_,_,rfl,q.out⟩,Q⟩
attribute [local go_sem] Oper.semAt_some
theorem eP {F:Fence}{n:Nat}{P:Program}{w w':World}{p:Array Oper}{r:List Oper}{o:Oper}{a:Act}{Q:Exit->Act->World->Prop}{v u v':Value}{t:TypeId}
  (g:o.guard=none) (s x:Operand) (h:o.op=Op.call { callee:=Callee.builtin Builtin.append,args:=#[s,x],argTypes:=#[t,t] }) (hs:a.eval s=v) (i:a.eval x=u)
  (f:(Builtin.append_ #[t,t] o.type #[v,u]).run P w = .ok v' w') (b:wpListIn F n P p Q r (a.put o.dst v') w'):wpListIn F n P p Q (o::r) a w:=by
 refine wpListIn_plain g fun K d=>?_;unfold Oper.wpIn;refine⟨?_,?_⟩
 ·simp[Oper.about,h,resolve,Target.leads,Sem.run_pure]
 ·rw[Oper.semAt_plain F _ _ (by rw[h];intro c e;cases e)];simp[execOp,h,resolve,invoke,builtin,hs,i,f,Result.andThen]
  exact d _ _ b
def JL (w:World) (B:Nat) (p:List Sv) (W:World):Prop:=
 ∃o c,AA 38 1 EVx W B (.slice o p.length c) p.length (p.map Prod.snd)/\W.heap[w.heap.size]? = some (.cells #[.slice o p.length c] 55)/\Below w.heap.size w W/\B<=W.heap.size
theorem JL.keep {w:World}{B:Nat}{p:List Sv}{W W':World}(h:JL w B p W) (b:Below W.heap.size W W'):JL w B p W':=by
 obtain⟨o,f,a,c,d,e⟩:=h;exact⟨o,f,a.keep EVx.stb b,AN b c,btt d b,wI e b.size⟩
theorem JL.putObj {w:World}{B:Nat}{p:List Sv}{W:World}{k:Nat}{o o':Obj}(h:JL w B p W) (f:w.heap.size<=k) (q:W.heap[k]? = some o) (b:Lo o):JL w B p (W.putObj k o'):=by
 obtain⟨g,i,c,a,d,e⟩:=h;exact⟨g,i,c.other (E':=57) EVx.stc (by decide) (AE.putObjLo q b),(World.putObj_heap_other (KY q b a id)).trans a,IG d f _,by simpa using e⟩
theorem OX.putObj {L:Jc}{p:List Sv}{x:Sv}{W:World}{k:Nat}{o o':Obj}(h:OX L p x W) (q:W.heap[k]? = some o) (a:Lo o):OX L p x (W.putObj k o'):=
 ⟨h.1.other (E':=57) (EI.stab _) (by decide) (AE.putObjLo q a),h.2⟩
theorem KE.keep {b1 b2 xc:Nat}{xa:Option Addr}{xs:List Ex}{idx:Int}{W W':World}(h:KE b1 b2 xa xc xs idx W) (b:Below W.heap.size W W'):KE b1 b2 xa xc xs idx W':=
 ⟨AC b h.1,AC b h.2.1,h.2.2.keep b⟩
theorem fE {w:World}{b1 b2 xc n r:Nat}{xa:Option Addr}{xs:List Ex}{idx:Int}(b8:1<=n) (hn:n<=5) (b9:r<=10) (hx:∀x∈xs,MK n r x) (a2:xs.length<=100000) (b':KE b1 b2 xa xc xs idx w) :
  Calls Tryz.prog 181 #[.slice none 0 0,.func (.func 115) #[] #[.pointer (some ⟨b1,0,none⟩),.pointer (some ⟨b2,0,none⟩)]] w fun e w'=>
   ∃v,e = .returned v/\AA 38 1 EVx w' 0 v (DL n r xs idx).length (DL n r xs idx)/\Below w.heap.size w w':=by
 obtain⟨f,g⟩:=AF (w.alloc (.cells #[.slice none 0 0] 55));have a':Below w.heap.size w f:=by rw[g];exact(wB _ w).alloc (wC _) _
 have s:f.heap.size=w.heap.size+1:=by rw[g];simp
 have kR:f.heap[w.heap.size]? = some (.cells #[.slice none 0 0] 55):=by rw[g];exact wE _ _
 have a8:JL w f.heap.size [] f:=⟨none,0,AA.nil _ _,kR,a',wC _⟩;have a0:=dI (b1:=b1) (b2:=b2) (xc:=xc) (xa:=xa) (idx:=idx) b8 hn b9 hx a2;obtain⟨L,U⟩:=AB (DL n r xs idx);have d4:L.length<=100000:=by rw[<-U];exact wI dN a2
 rw[U] at a0|-;replace s:=qH s;clear kR hx;refine callsIn_wide.1 (callsIn_of_wp_marks (n:=0) Tryz.func181 rfl trivial ?_);simp only[Tryz.ntmps181,List.size_toArray,List.length_cons,List.length_nil,Nat.reduceAdd,Nat.reduceSub,Array.replicate_succ,Array.replicate_zero,List.push_toArray,List.append_toArray,List.nil_append,List.cons_append];refine wpIn_wide.2 ?_;go_wp2_with fail
 rw[<-g];replace g:=qH g
 refine wpIn_wide.1 (eN (gf:=115) (lb:=#[.pointer (some ⟨b1,0,none⟩),.pointer (some ⟨b2,0,none⟩)]) rfl (enters_of Tryz.func115 (by kernel_rfl) rfl) a0 (fun _=>rfl)
  (JL w f.heap.size) (fun _ _ _=>False) (fun a W c1 c3 c4 hk _ h G F=>h.putObj (by have:=s.out;omega) G F) (fun _ _ _ _ _ _ _ _ h _ _=>h) (fun a W W' h A=>h.keep A) (fun a x W c1 c3 c4 hk _ h G F=>h.putObj G F)
  (fun a W h=>?rd) a8 (fun x c8=>(c8.setIfInBounds 7 x.1).setIfInBounds 5 x.1) ?assign ?body ?done ?stop)
 case rd=>
  obtain⟨_,_,_,_,A,_⟩:=h;exact b'.keep A
 case assign=>
  intro c2 x W d0 T;simp only[List.setIfInBounds_toArray,List.set_cons_succ,List.set_cons_zero] at T;simp only[RC];gi_wp2;exact T
 case body=>
  rintro c2 a ⟨xv,x⟩ W I ⟨O,h0,d9,Z⟩;simp only at O h0 Z
  obtain⟨oa,oc,o,i,D,B⟩:=I;obtain⟨q,u,H⟩:=O.shape;subst H;simp only[List.setIfInBounds_toArray,List.set_cons_succ,List.set_cons_zero]
  have d6:a.length<=100000:=by
   have:=congrArg List.length Z
   rw[List.length_append,List.length_map,List.length_cons] at this;omega
  obtain⟨W2,z⟩:=AF (W.alloc (.cells #[.slice q x.length u] 38));have b:Below W.heap.size W W2:=by rw[z];exact(wB _ W).alloc (wC _) _
  have kN:W2.heap[W.heap.size]? = some (.cells #[.slice q x.length u] 38):=by rw[z];exact wE _ _
  have R:EVx W2 [.slice q x.length u] x:=⟨_,_,rfl,O.keep (EI.stab _) b⟩
  obtain⟨v',N,V,y,b5,-,C,d8⟩:=UO (P:=Tryz.prog) (ty:=55) GR (by decide) (by decide) EVx.stb (o.keep EVx.stb b) ⟨W.heap.size,0,none⟩ 1 rfl (fun j c9 k=>by
   match j,k with
   | 0,k=>
    simp only[List.getElem?_cons_zero,Option.some.injEq] at k;subst k;exact wJ kN
   | j+1,k=>simp at k) (fun c9 hu=>by rw[List.mem_singleton.1 hu];rfl) R (by omega) (wI B b.size)
  have X:=AN b i;have l:=(C.block _ (by have:=s.out;omega)).trans X;have Q:=wJ i;have d2:=wJ l;have f3:=BG l;obtain⟨K,M,H⟩:=y.shape;subst H;have d7:∃j,a.length<=j/\j<=a.length:=⟨_,wC _,wC _⟩
  have E:JL w f.heap.size (a ++ [(.slice q x.length u,x)]) (N.setCell ⟨w.heap.size,0,none⟩ (.slice K (a.length+1) M)):=by
   refine⟨K,M,?_,?_,?_,?_⟩
   ·rw[List.map_append,List.length_append];exact y.other (E':=55) (EVx.stab (by decide)) (by decide) (AE.setCell (p:=⟨w.heap.size,0,none⟩) l _)
   ·rw[List.length_append];exact heap_setCell_same N w.heap.size 0 _ _ _ l
   ·exact(((btt D b)).trans (C.mono (by have:=s.out;omega))).setCell (p:=⟨w.heap.size,0,none⟩) (wC _) _
   ·simp only[World.size_setCell];exact wI (wI B b.size) C.size
  have a9:BR W (N.setCell ⟨w.heap.size,0,none⟩ (.slice K (a.length+1) M)):=
   ((BR.below b).trans (BR.grown b5 fun a6 hg=>by
    obtain⟨vs,q1,_⟩:=o.keep EVx.stb b;obtain⟨cs,hc⟩:=EY q1 a6 hg;exact⟨cs,_,hc⟩)).trans (BR.setCell (p:=⟨w.heap.size,0,none⟩) l _)
  have E:=qH E;rw[z] at V;clear y o O R i X kN;gi_wp2_with (refine eP rfl _ _ rfl rfl rfl V ?_)
  exact⟨a9,E.out⟩
 case done=>
  intro d ys W S I hd Y;obtain⟨oa,oc,o,i,D,B⟩:=I;have Q:=wJ i;have J:ys.length=L.length:=by rw[<-S,List.length_map]
  have m:=(o.base (Nat.zero_le _)).other (E':=57) EVx.stc (by decide) (AE.putObjLo (o':=.deferred none) Y trivial);have b0:Below w.heap.size w (W.putObj d (.deferred none)):=IG D (by have:=s.out;omega) _;rw[S,J] at m;rw[J] at Q;replace m:=qH m;clear o i S J;go_wp2;refine⟨by simp,.inl ⟨_,_,rfl,run_takeDeferred Y,?_⟩⟩;exact⟨_,results_tmp (t:=4) rfl _ _ _,_,rfl,m.out,b0⟩
 case stop=>intro d c a W h;exact absurd h id
theorem gZ {w:World}{b1 b2 xc n r:Nat}{xa:Option Addr}{xs:List Ex}{idx:Int}(c:1<=n) (b:n<=5) (d:r<=10) (g:∀x∈xs,MK n r x) (l:xs.length<=100000) (f:KE b1 b2 xa xc xs idx w) :
  Calls Tryz.prog 120 #[.func (.func 115) #[] #[.pointer (some ⟨b1,0,none⟩),.pointer (some ⟨b2,0,none⟩)]] w fun e w'=>
   ∃v,e = .returned v/\AA 38 1 EVx w' 0 v (DL n r xs idx).length (DL n r xs idx)/\Below w.heap.size w w':=by
 have H:=qH (fE c b d g l f);go_enter Tryz.func120, Tryz.ntmps120
 go_wp2_with fail
 refine H.out.mono ?_;rintro e i ⟨v,rfl,h,a⟩;go_wp2;go_ret;exact⟨_,rfl,h,a⟩
structure IC (n r:Nat) (vs:Jb) (xs:List Ex):Prop where
 ok:∀x∈xs,IU n r vs x
 ex:∀x∈xs,MK n r x
 n1:1<=n
 n5:n<=5
 r9:r<=10
 vl:vs.length<=100000
 xl:xs.length<=60
 tab:GI n vs
theorem eM {w:World}{v:Value}{i o an r tn idx:Int}{N k:Nat}{cs:List Cs}{ss:Jc}{vs:Jb}{xs:List Ex}{q:Int}(h:CC w v q i o cs an ss r tn vs xs) (G:IC N k vs xs) :
  Calls Tryz.prog 67 #[v,.int .i64 idx] w fun e w'=>∃v',e = .returned (.tuple #[v',.int .i64 0])/\IA w' v' (BC (AX N k xs idx))/\Below w.heap.size w w':=by
 obtain⟨a,c,t,z,H,I,x,m,rfl,hP,hV,X⟩:=h;rw[<-tN];obtain⟨V,Q⟩:∃V:Array Value,V = #[.int .i64 q,.int .i64 i,.int .i64 o,.slice a cs.length c,.int .i64 an,.slice t ss.length z,.int .i64 r,.int .i64 tn,.slice H vs.length I,.slice x xs.length m]:=⟨_,rfl⟩;obtain⟨b,d⟩:=AF ((w.alloc (.cells V 35)).alloc (.cells #[.slice none 0 0] 57));have b':Below w.heap.size w b:=by rw[d];exact((wB _ w).alloc (wC _) _).alloc (by simp) _
 have kR:b.heap[w.heap.size+1]? = some (.cells #[.slice none 0 0] 57):=by
  rw[d];have:=wE (w.alloc (.cells V 35)) (.cells #[.slice none 0 0] 57)
  rwa [World.size_alloc] at this
 have S:b.heap[w.heap.size]? = some (.cells V 35):=by
  rw[d];exact(Below.heap_alloc _ _ _ (by simp)).trans (wE w _)
 obtain⟨L,n⟩:=AB (DL N k xs idx);have b5:L.length<=1000:=by rw[<-n];exact wI (wI dN G.xl) (by decide)
 have s:∀a2∈L,VS a2/\IX a2:=by rw[<-n];exact dO G.ok G.n5 G.vl
 have K:Hid (∀W,Below w.heap.size w W->∀u y,KE u y x m xs idx W->_):=fun W T u y E=>gZ (w:=W) (b1:=u) (b2:=y) G.n1 G.n5 G.r9 G.ex (by have:=G.xl;omega) E;rw[n] at K|-;have b9:=qH (fun W (T:Below w.heap.size w W)=>X.keep T);have c2:=qH kR;obtain⟨⟨z0,z1,z2,z3,J,z5,z6⟩,z7,z8,z9⟩:=AW (by rw[Q] at S;exact S);rw[Q] at d;rw[d] at z0 z1 z2 z3 J z5 z6 z7 z8 z9;replace s:=qH s;clear hP hV X G n kR S;go_enter Tryz.func67, Tryz.ntmps67
 go_wp2_with fail
 rw[<-d];replace d:=qH d;refine(dL rfl).mono ?_;rintro e l ⟨rfl,g⟩;have U:Below b.heap.size b l:=by rw[g];exact((wB _ b).alloc (wC _) _).alloc (by simp) _
 have S:=wE b (.cells #[.int .i64 q,.int .i64 i,.int .i64 o,.slice a cs.length c,.int .i64 an,.slice t ss.length z,.int .i64 r,.int .i64 tn,.slice H vs.length I,.slice x xs.length m] 35);replace S:=(Below.heap_alloc _ (.cells #[.int .i64 idx] 3) _ (by simp)).trans S;rw[<-g] at S
 have kI:l.heap[b.heap.size+1]? = some (.cells #[.int .i64 idx] 3):=by
  rw[g];have:=wE (b.alloc (.cells #[.int .i64 q,.int .i64 i,.int .i64 o,.slice a cs.length c,.int .i64 an,.slice t ss.length z,.int .i64 r,.int .i64 tn,.slice H vs.length I,.slice x xs.length m] 35)) (.cells #[.int .i64 idx] 3)
  rwa [World.size_alloc] at this
 have D:=btt b' U;have E:KE b.heap.size (b.heap.size+1) x m xs idx l:=⟨(AW S).2.2.2,wJ kI,b9.out l D⟩;have b3:=qH (K.out l D _ _ E);clear z0 z1 z2 z3 J z5 z6 z7 z8 z9 S kI;replace g:=qH g;go_wp2_with fail
 refine b3.out.mono ?_;rintro e w3 ⟨v3,rfl,P,Y⟩;have c0:=btt D Y;have M:=P.kssc (by omega) (fun c5 hx=>by have:=((s.out c5 hx).2).2.1;omega);have HO:=qH (nS M b5 s.out);clear P M;go_wp2_with fail
 refine HO.out.mono ?_;rintro e w4 ⟨v4,rfl,⟨A,B,rfl,O⟩,Z⟩;have j:=AN (btt U (btt Y Z)) c2.out;have J:=wJ j;have fz:=BG j;obtain⟨R,f⟩:=AB (JB L);rw[f] at O|-;have C:=O.other EVx.stc (by decide) (AE.setCell (p:=⟨w.heap.size+1,0,none⟩) j (.slice A R.length B));have F:=heap_setCell_same w4 (w.heap.size+1) 0 _ _ (.slice A R.length B) j;have c1:=(btt c0 Z).setCell (p:=⟨w.heap.size+1,0,none⟩) (Nat.le_succ _) (.slice A R.length B);replace F:=qH F;replace C:=qH C;replace f:=qH f;clear O j;go_wp2;have b7:=f.out;clear f;subst b7;exact⟨rfl,_,GK (k:=4) rfl _ _ _ rfl rfl F.out,_,rfl,⟨_,_,rfl,C.out⟩,c1⟩
end Go.Proofs.YtcnedkkcgdkioaaGreat
namespace Go.Proofs.YtcnedkkcgdkioaaGreat
theorem ZA {n:Int}:∀ {hs:List Int}{p:Int}{j:Nat},FF n p hs=0->j < hs.length->p+j < n->AY (hs.getD j 0) (p+j)=true
 | [],_,_,_,h,_=>absurd h (Nat.not_lt_zero _)
 | x::r,p,j,h,hj,hn=>by
  rw[FF] at h;split at h
  ·rename_i a;exact absurd h a
  ·rename_i a
   have a:=Classical.not_not.1 a;cases j with
   | zero=>
    rw[EJ,if_neg (by omega)] at a;split at a
    ·cases a
    ·split at a
     ·rename_i b;simpa using b
     ·cases a
   | succ j=>
    have:=ZA (j:=j) h (by simpa using hj) (by omega)
    rw[show p+1+(j:Int)=p+((j+1:Nat):Int) by omega] at this;simpa using this
theorem nL {n:Int}{ss:Jc}(E:∀s∈ss,∀m∈s,m.length=8) (C:BU n ss=0) {s:Jb}(hs:s∈ss) {m:List Int}(v:m∈s):(∀p:Nat,(p:Int) < n->AY ((rdOf m).getD (1+p) 0) (p:Int)=true):=by
 obtain⟨⟨_,J⟩,_,D,_⟩:=PQ C;have o:=NO D s hs;unfold DO at o;split at o
 ·cases o
 ·obtain⟨i,G,rfl⟩:=List.mem_iff_getElem.1 v;obtain⟨k,q,_⟩:=OR (NH o i (Nat.zero_le _) (by omega));rw[AK G] at k q;have t:=E s hs _ v
  obtain⟨u,w,x,y,A,B,H,K,F⟩:∃a b c d e f g h,s[i] = [a,b,c,d,e,f,g,h]:=by
   revert t
   generalize s[i]=z
   intro t;match z,t with
   | [a,b,c,d,e,f,g,h],_=>exact⟨a,b,c,d,e,f,g,h,rfl⟩
  rw[F] at k q|-;intro p I
  have r:DG u [w,x,y,A,B]=0:=by
   unfold EN at k;split at k
   ·rename_i l;exact absurd k l
   ·rename_i l;exact Classical.not_not.1 l
  unfold DG at r;split at r
  ·cases r
  ·have q:u=n:=q;have:=ZA (j:=p) r (by show p < 5;omega) (by omega)
   rw[Int.zero_add] at this;show AY ([u,w,x,y,A,B,H].getD (1+p) 0) (p:Int)=true;have l:p=0\/p=1\/p=2\/p=3\/p=4:=(by omega);rcases l with rfl|rfl|rfl|rfl|rfl<;>exact this
theorem eK {n:Int}{ss:Jc}(d:∀s∈ss,∀m∈s,m.length=8) (c:BU n ss=0) {N:Nat}(f:n=(N:Int)):∀(k s:Nat) (wd:Jb),wd∈wL ss k s->PG N wd
 | 0,_,wd,h,j,b,_,_=>by
  rw[wL,List.mem_singleton] at h;subst h;cases b
 | k+1,s,wd,h,j,b,p,g=>by
  rw[wL] at h;obtain⟨m,a,h⟩:=List.mem_flatMap.1 h;obtain⟨i,w,rfl⟩:=List.mem_map.1 h;cases j with
  | zero=>
   by_cases e:s < ss.length
   ·rw[AK e] at a;exact nL d c (wG e) a p (by omega)
   ·rw[List.getD_eq_getElem?_getD,List.getElem?_eq_none (by omega)] at a;cases a
  | succ j=>exact eK d c f k _ i w j (by simpa using b) p g
theorem fH {n i o:Int}{cs:List Cs}{an:Int}{ss:Jc}{r:Int}(h:FD n i o cs an ss r=0) (f:DH n i o cs an ss r=true):DJ n i o cs an ss r=0/\FV ss=true/\GS cs=true/\numP cs ss r.toNat<=60:=by
 unfold FD at h
 have c:DJ n i o cs an ss r=0:=by
  by_cases c:DJ n i o cs an ss r=0
  ·exact c
  ·rw[if_pos c] at h;exact absurd h c
 rw[if_neg (fun k=>k c)] at h;unfold DH at f;simp only[Bool.and_eq_true,Bool.or_eq_true,decide_eq_true_eq] at f;obtain⟨b,d,_,a⟩:=f;refine⟨c,d,b,?_⟩;rcases a with a|a|a
 ·exact absurd c a
 ·exact a
 ·rw[if_pos a] at h;cases h
theorem tZ {w:World}{n i o:Int}{cs:List Cs}{an:Int}{ss:Jc}{r:Int}{R:Value}(A:DC w R an ss) (h:FD n i o cs an ss r=0) (H:DH n i o cs an ss r=true) :
  n=(n.toNat:Int)/\r=(r.toNat:Int)/\r.toNat<=6/\IC n.toNat r.toNat (CR n.toNat cs (wL ss r.toNat 0)).1 (CR n.toNat cs (wL ss r.toNat 0)).2:=by
 obtain⟨F,G,Z,J⟩:=fH h H;obtain⟨e,c,U,V,W⟩:=LQ F;obtain⟨Q,l2⟩:=MR e;obtain⟨⟨n1,n5⟩,a0⟩:=MF e;have O:=(JU A G c).wd;obtain⟨X,Y,m⟩:=OB (ES.ofWd O) O.2.2.1 Q J;have f:=A.len8;have d:=MI ss r.toNat 0;have g:n=(n.toNat:Int):=by omega
 have q:r=(r.toNat:Int):=by omega
 obtain⟨a,E⟩:=AB (n.toNat);obtain⟨k,I⟩:=AB (r.toNat);rw[E] at g|-;rw[I] at q d m|-;have u:=LF ss k 0;have t:=RI f c k 0;have v:=eK f c (N:=a) (by omega) k 0;obtain⟨s,P⟩:=AB (wL ss k 0);rw[P] at d u t v|-;have L:(DU cs s).length<=60:=by rw[NI,d];exact m
 have p:∀x∈DU cs s,x.2.2.length=k/\PG a x.2.2:=fun x b=>⟨u _ (MB b),v _ (MB b)⟩;obtain⟨S,T⟩:=YJ (n:=a) (r:=k) (by omega) (DU cs s) [] (fun a5 M=>by cases M) p;refine⟨g,q,by omega,T,fun x b=>?_,by omega,by omega,by omega,?_,?_,S⟩
 ·obtain⟨⟨y,z,j⟩,C,D⟩:=PY a _ _ x b;have a1:x.2.1.length=k:=by rw[j];exact(p y z).1
  have l:0<=DT x/\DT x<=31:=by
   unfold DT;split
   ·exact⟨by decide,by decide⟩
   ·exact VC (by rw[j];exact t _ (MB z)) _ 6
  refine⟨by omega,by omega,?_,l.1,l.2⟩;rw[AK (show k < x.2.2.length by omega)];exact D _ (wG _)
 ·have B:=NB a (K:=k) (DU cs s) [] (fun x b=>Nat.le_of_eq (p x b).1);have C:(DU cs s).length * (a * (k+1))<=60 * (5 * 7):=Nat.mul_le_mul L (Nat.mul_le_mul (by omega) (by omega));simp only[List.length_nil] at B;show(BB a [] (DU cs s)).1.length<=_
  omega
 ·show(BB a [] (DU cs s)).2.length<=_
  rw[NC];omega
theorem uJ {n i o:Int}{cs:List Cs}{an:Int}{ss:Jc}{r tn:Int}{vs:Jb}{xs:List Ex}(h:AZ n i o cs an ss r tn vs xs=0):FD n i o cs an ss r=0/\tn=n/\vs=(CR n.toNat cs (wL ss r.toNat 0)).1/\xs=(CR n.toNat cs (wL ss r.toNat 0)).2:=by
 unfold AZ at h;by_cases b:FD n i o cs an ss r=0
 ·rw[if_neg (fun k=>k b)] at h;split at h
  ·rename_i a;exact⟨b,a⟩
  ·cases h
 ·rw[if_pos b] at h;exact absurd h b
theorem IR {w:World}{v:Value}{n i o an r tn:Int}{cs:List Cs}{ss:Jc}{vs:Jb}{xs:List Ex}(S:CC w v n i o cs an ss r tn vs xs) (k:DH n i o cs an ss r=true) (h:AZ n i o cs an ss r tn vs xs=0) :
  tn=n/\n=(n.toNat:Int)/\r=(r.toNat:Int)/\r.toNat<=6/\IC n.toNat r.toNat vs xs:=by
 obtain⟨d,e,f,j⟩:=uJ h;obtain⟨_,_,_,_,_,_,_,_,_,⟨_,_,_,_,_,_,A⟩,_⟩:=S;obtain⟨a,b,c,g⟩:=tZ A d k;rw[<-f,<-j] at g;exact⟨e,a,b,c,g⟩
end Go.Proofs.YtcnedkkcgdkioaaGreat
namespace Go.Proofs.YtcnedkkcgdkioaaGreat
open Go.RowKit
theorem QW {w:World}{b:Nat}{cs:Array Value}{t:TypeId}(h:w.heap[b]? = some (.cells cs t)):w.frozen? ⟨b,0,none⟩=false:=BG h 0
theorem OH {w W:World}{b c:Nat}{u:Value}{f:Option Addr}{fs:Jc}(k:W.heap[b]? = some (.cells #[u] 57)) (h:AA 38 1 EVx W 0 (.slice f fs.length c) fs.length fs) (a:Below w.heap.size w W) (d:w.heap.size<=b) :
  W.cell? ⟨b,0,none⟩=some u/\W.frozen? ⟨b,0,none⟩=false/\(W.setCell ⟨b,0,none⟩ (.slice f fs.length c)).heap[b]? = some (.cells #[.slice f fs.length c] 57)/\
   Hid (IA (W.setCell ⟨b,0,none⟩ (.slice f fs.length c)) (.agg #[.slice f fs.length c]) fs/\Below w.heap.size w (W.setCell ⟨b,0,none⟩ (.slice f fs.length c))):=
 ⟨wJ k,QW k,heap_setCell_same W b 0 _ _ _ k,⟨_,_,rfl,h.other EVx.stc (by decide) (AE.setCell (p:=⟨b,0,none⟩) k _)⟩,a.setCell (p:=⟨b,0,none⟩) d _⟩
theorem RD (w:World) (V:Array Value):∃W,W=(w.alloc (.cells V 35)).alloc (.cells #[.slice none 0 0] 57)/\Below w.heap.size w W/\W.heap[w.heap.size]? = some (.cells V 35)/\W.heap[w.heap.size+1]? = some (.cells #[.slice none 0 0] 57):=by
 refine⟨_,rfl,((wB _ w).alloc (wC _) _).alloc (by simp) _,(Below.heap_alloc _ _ _ (by simp)).trans (wE w _),?_⟩;have:=wE (w.alloc (.cells V 35)) (.cells #[.slice none 0 0] 57)
 rwa [World.size_alloc] at this
theorem UA {w:World}{v:Value}{n i o an r tn:Int}{cs:List Cs}{ss:Jc}{vs:Jb}{xs:List Ex}(h:CC w v n i o cs an ss r tn vs xs) (L:DH n i o cs an ss r=true) :
  Calls Tryz.prog 19 #[v] w fun e w'=>∃v',e = .returned (.tuple #[v',.int .i64 (AZ n i o cs an ss r tn vs xs)])/\IA w' v' (if AZ n i o cs an ss r tn vs xs=0 then BC (AX n.toNat r.toNat xs (-1)) else [])/\Below w.heap.size w w':=by
 have V:=qH (fun W (d:Below w.heap.size w W)=>RG (h.keep d) L);have H:=IR h L;have T:=qH (fun W (d:Below w.heap.size w W) G=>eM (idx:=-1) (N:=n.toNat) (k:=r.toNat) (h.keep d) G);obtain⟨E,F⟩:=AB (AZ n i o cs an ss r tn vs xs);rw[F] at V H|-;obtain⟨a,c,U,X,Z,vc,xa,xc,rfl,-⟩:=h;obtain⟨j,l,p,S,P⟩:=RD w #[.int .i64 n,.int .i64 i,.int .i64 o,.slice a cs.length c,.int .i64 an,.slice U ss.length X,.int .i64 r,.int .i64 tn,.slice Z vs.length vc,.slice xa xs.length xc];have K:=qH (fun W (d:Below j.heap.size j W)=>And.intro (keep7 d (AW S).1) (keep3' d (AW S).2));obtain⟨⟨q,s,t,u,x,y,A⟩,B,C,D⟩:=K.out j (wB _ _);rw[l] at q s t u x y A B C D;have M:=qH P;replace F:=qH F;obtain⟨R,b⟩:∃R,(if E=0 then BC (AX n.toNat r.toNat xs (-1)) else [])=R:=⟨_,rfl⟩;rw[b];clear S P;go_enter Tryz.func19, Tryz.ntmps19
 go_wp2_with fail
 rw[<-l];replace l:=qH l;refine(V.out j p).mono ?_;rintro e Q ⟨rfl,f⟩;clear q s t u x y A B C D;by_cases z:E=0
 ·subst z;obtain⟨-,-,-,-,G⟩:=H rfl;rw[if_pos rfl] at b;obtain⟨⟨q,s,t,u,x,y,A⟩,B,C,D⟩:=K.out Q f;have I:=qH (T.out Q (btt p f) G);rw[b] at I;clear b G H;go_wp2_with fail
  refine I.out.mono ?_;rintro e w4 ⟨v4,rfl,⟨fa,fc,rfl,O⟩,J⟩;obtain⟨z4,Y,m,g⟩:=OH (w:=w) (AN (btt f J) M.out) O (btt (btt p f) J) (Nat.le_succ _);replace m:=qH m;clear O q s t u x y A B C D;go_wp2;exact⟨rfl,_,GK (k:=2) rfl _ _ _ rfl rfl m.out,_,rfl,g.out.1,g.out.2⟩
 ·rw[if_neg z] at b;subst b;obtain⟨z4,Y,m,g⟩:=OH (w:=w) (fs:=[]) (AN f M.out) (AA.nil _ _) (btt p f) (Nat.le_succ _);replace m:=qH m;have a6:(E == 0)=false:=by simpa using z
  replace z:=qH z;go_wp2;exact⟨rfl,_,GK (k:=2) rfl _ _ _ rfl rfl m.out,_,rfl,g.out.1,g.out.2⟩
theorem AA.ksNil (w:World):KS 2 w (.slice none 0 0) []:=⟨none,0,0,0,rfl,fun h=>absurd h (by decide),fun j a=>absurd a (Nat.not_lt_zero _),by decide⟩
def GD (E idx:Int) (m:Nat):Int:=if E ≠ 0 then E else if idx < 0\/(m:Int)<=idx then 6 else 0
theorem bO {w:World}{v:Value}{n i o an r tn idx:Int}{cs:List Cs}{ss:Jc}{vs:Jb}{xs:List Ex}(h:CC w v n i o cs an ss r tn vs xs) (U:DH n i o cs an ss r=true) :
  Calls Tryz.prog 21 #[v,.int .i64 idx] w fun e w'=>∃v',e = .returned (.tuple #[v',.int .i64 (GD (AZ n i o cs an ss r tn vs xs) idx cs.length)])/\IA w' v' (if GD (AZ n i o cs an ss r tn vs xs) idx cs.length=0 then BC (AX n.toNat r.toNat xs idx) else [])/\Below w.heap.size w w':=by
 have V:=qH (fun W (f:Below w.heap.size w W)=>RG (h.keep f) U);have H:=IR h U;have J:=qH (fun W (f:Below w.heap.size w W) G=>eM (idx:=idx) (N:=n.toNat) (k:=r.toNat) (h.keep f) G);obtain⟨E,D⟩:=AB (AZ n i o cs an ss r tn vs xs);rw[D] at V H|-;obtain⟨a1,a3,a',c',va,vc,xa,xc,rfl,-⟩:=h;obtain⟨l,g,j,S,X⟩:=RD w #[.int .i64 n,.int .i64 i,.int .i64 o,.slice a1 cs.length a3,.int .i64 an,.slice a' ss.length c',.int .i64 r,.int .i64 tn,.slice va vs.length vc,.slice xa xs.length xc];have K:=qH (fun W (f:Below l.heap.size l W)=>And.intro (keep7 f (AW S).1) (keep3' f (AW S).2));obtain⟨⟨q,s,t,p,u,x,y⟩,A,B,C⟩:=K.out l (wB _ _);rw[g] at q s t p u x y A B C;have I:=qH X;replace D:=qH D;obtain⟨M,P⟩:=AB (cs.length);rw[P] at V K J g p|-;obtain⟨a0,F⟩:=AB (GD E idx M);rw[F];obtain⟨R,a⟩:∃R,(if a0=0 then BC (AX n.toNat r.toNat xs idx) else [])=R:=⟨_,rfl⟩;rw[a];unfold GD at F;clear S X P;go_enter Tryz.func21, Tryz.ntmps21
 go_wp2_with fail
 rw[<-g];replace g:=qH g;refine(V.out l j).mono ?_;rintro e Y ⟨rfl,b⟩;clear q s t p u x y A B C;obtain⟨⟨q,s,t,p,u,x,y⟩,A,B,C⟩:=K.out Y b;by_cases z:E=0
 ·subst z;rw[if_neg (fun h=>h rfl)] at F;obtain⟨-,-,-,-,G⟩:=H rfl;clear H;by_cases c:idx < 0\/(M:Int)<=idx
  ·rw[if_pos c] at F;subst F;rw[if_neg (by decide)] at a;subst a;obtain⟨Z,O,m,d⟩:=OH (w:=w) (fs:=[]) (AN b I.out) (AA.nil _ _) (btt j b) (Nat.le_succ _);replace m:=qH m;rcases Int.lt_or_le idx 0 with hn|hn
   ·replace c:=qH c;go_wp2;exact⟨rfl,_,GK (k:=4) rfl _ _ _ rfl rfl m.out,_,rfl,d.out.1,d.out.2⟩
   ·have hm:(M:Int)<=idx:=(by omega);replace c:=qH c;go_wp2;exact⟨rfl,_,GK (k:=4) rfl _ _ _ rfl rfl m.out,_,rfl,d.out.1,d.out.2⟩
  ·rw[if_neg c] at F;subst F;rw[if_pos rfl] at a;have L:=qH (J.out Y (btt j b) G);rw[a] at L;have h0:(0:Int)<=idx:=(by omega);have h1:idx < (M:Int):=(by omega);replace c:=qH c;clear a G;go_wp2_with fail
   refine L.out.mono ?_;rintro e w4 ⟨v4,rfl,⟨fa,fc,rfl,Q⟩,T⟩;obtain⟨Z,O,m,d⟩:=OH (w:=w) (AN (btt b T) I.out) Q (btt (btt j b) T) (Nat.le_succ _);replace m:=qH m;clear Q q s t p u x y A B C;go_wp2;exact⟨rfl,_,GK (k:=4) rfl _ _ _ rfl rfl m.out,_,rfl,d.out.1,d.out.2⟩
 ·rw[if_pos z] at F;subst F;rw[if_neg z] at a;subst a;obtain⟨Z,O,m,d⟩:=OH (w:=w) (fs:=[]) (AN b I.out) (AA.nil _ _) (btt j b) (Nat.le_succ _);replace m:=qH m;have b4:(E == 0)=false:=by simpa using z
  replace z:=qH z;go_wp2;exact⟨rfl,_,GK (k:=4) rfl _ _ _ rfl rfl m.out,_,rfl,d.out.1,d.out.2⟩
def IP (E e:Int) (m:Nat) (s:Jb):Int:=if E ≠ 0 then E else if e < 0\/(m:Int)<=e then 6 else if s.length=0 then 16 else 0
theorem oN {w:World}{v:Value}{n i o an r tn idx:Int}{cs:List Cs}{ss:Jc}{vs:Jb}{xs:List Ex}(h:CC w v n i o cs an ss r tn vs xs) (a6:DH n i o cs an ss r=true) :
  Calls Tryz.prog 23 #[v,.int .i64 idx] w fun e w'=>∃v',e = .returned (.tuple #[v',.int .i64 (IP (AZ n i o cs an ss r tn vs xs) idx xs.length (BP n.toNat r.toNat (xs.getD idx.toNat BJ)))])/\KS 2 w' v' (if IP (AZ n i o cs an ss r tn vs xs) idx xs.length (BP n.toNat r.toNat (xs.getD idx.toNat BJ))=0 then BP n.toNat r.toNat (xs.getD idx.toNat BJ) else [])/\Below w.heap.size w w':=by
 have N:=qH (fun W (d:Below w.heap.size w W)=>RG (h.keep d) a6);have K:=IR h a6;obtain⟨E,P⟩:=AB (AZ n i o cs an ss r tn vs xs);rw[P] at N K|-;obtain⟨a',b1,b0,c',va,vc,xa,xc,rfl,-,-,hX⟩:=h;obtain⟨V,b4⟩:∃V:Array Value,V = #[.int .i64 n,.int .i64 i,.int .i64 o,.slice a' cs.length b1,.int .i64 an,.slice b0 ss.length c',.int .i64 r,.int .i64 tn,.slice va vs.length vc,.slice xa xs.length xc]:=⟨_,rfl⟩;obtain⟨c,b⟩:=AF (w.alloc (.cells V 35));have a3:Below w.heap.size w c:=by rw[b];exact(wB _ w).alloc (wC _) _
 have Y:c.heap[w.heap.size]? = some (.cells V 35):=by rw[b];exact wE _ _
 subst b4;have L:=qH (fun W (d:Below c.heap.size c W)=>And.intro (keep7 d (AW Y).1) (keep3' d (AW Y).2));obtain⟨⟨m,q,t,u,y,A,B⟩,C,D,p⟩:=L.out c (wB _ _);rw[b] at m q t u y A B C D p;replace P:=qH P;obtain⟨x,H⟩:=AB (xs.getD idx.toNat BJ);rw[H];obtain⟨s,T⟩:=AB (BP n.toNat r.toNat x);rw[T];have a2:=qH (fun W (d:Below w.heap.size w W)=>hX.keep d);obtain⟨M,k⟩:=AB (xs.length);rw[k] at N L a2 b p|-;replace k:=qH k;obtain⟨a9,F⟩:=AB (IP E idx M s);rw[F];obtain⟨a0,R⟩:∃a0,(if a9=0 then s else [])=a0:=⟨_,rfl⟩;rw[R];unfold IP at F;clear Y hX;go_enter Tryz.func23, Tryz.ntmps23
 go_wp2_with fail
 rw[<-b];replace b:=qH b;refine(N.out c a3).mono ?_;rintro e w2 ⟨rfl,a4⟩;clear m q t u y A B C D p;obtain⟨⟨m,q,t,u,y,A,B⟩,C,D,p⟩:=L.out w2 a4;have f:=btt a3 a4;by_cases z:E=0
 ·subst z;rw[if_neg (fun h=>h rfl)] at F;obtain⟨-,-,-,d4,G⟩:=K rfl;clear K;by_cases a:idx < 0\/(M:Int)<=idx
  ·rw[if_pos a] at F;subst F;rw[if_neg (by decide)] at R;subst R;rcases Int.lt_or_le idx 0 with hn|hn
   ·replace a:=qH a;go_wp2;go_ret2
    exact⟨_,rfl,AA.ksNil _,f⟩
   ·have hm:(M:Int)<=idx:=(by omega);replace a:=qH a;go_wp2;go_ret2
    exact⟨_,rfl,AA.ksNil _,f⟩
  ·rw[if_neg a] at F;have h0:(0:Int)<=idx:=(by omega);have h1:idx < (M:Int):=(by omega);obtain⟨j,rfl⟩:∃j:Nat,idx=(j:Int):=⟨idx.toNat,by omega⟩;rw[Int.toNat_natCast] at H;have Q:j < xs.length:=(by have:=k.out;omega);have X:=a2.out w2 f;rw[<-k.out] at X;obtain⟨xb,xo,rfl,a7⟩:=X.at (by omega);obtain⟨u1,u2,c0,c1,c2,J,I⟩:=a7 j Q;have g:=G.ex (xs.getD j BJ) (by rw[AK Q];exact wG Q);rw[H] at c0 J I g;have Z:=qH (dK J I g.wd g.vw G.r9 g.fin G.n1 G.n5 g.f0 g.f1);rw[T] at Z;obtain⟨wa,wc,rfl⟩:=J.shape;obtain⟨d6,d8,d7,d9,b8,-⟩:=id I;subst b8
   have b7:Hid (s.length<=5):=by
    show _<=_;have h5:=G.n5;have:=IQ (ok:=fun b9=>!AY (DT x) (b9:Int)) (l:=x.2.2.getD r.toNat []) n.toNat
    rw[<-T];unfold BP;omega
   replace a:=qH a;clear H G J I g a7 X;go_wp2_with fail
   refine Z.out.mono ?_;rintro e w4 ⟨v4,rfl,O,a5⟩;obtain⟨fa,fc,b6⟩:=O.shape;subst b6;rcases Nat.eq_zero_or_pos s.length with U|U
   ·rw[if_pos U] at F;subst F;rw[if_neg (by decide)] at R;subst R;rw[U];clear O m q t u y A B C D p;go_wp2;go_ret2
    exact⟨_,rfl,AA.ksNil _,btt f a5⟩
   ·rw[if_neg (show ¬s.length=0 by omega)] at F;subst F;rw[if_pos rfl] at R;subst R;have hd:((s.length:Int) == 0)=false:=beq_eq_false_iff_ne.2 (by omega);have S:=O.ks (by have:=b7.out;omega);replace S:=qH S;clear O m q t u y A B C D p;go_wp2;go_ret2
    exact⟨_,rfl,S.out,btt f a5⟩
 ·rw[if_pos z] at F;subst F;rw[if_neg z] at R;subst R;have d1:(E == 0)=false:=by simpa using z
  replace z:=qH z;go_wp2;go_ret2
  exact⟨_,rfl,AA.ksNil _,f⟩
end Go.Proofs.YtcnedkkcgdkioaaGreat
