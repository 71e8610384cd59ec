/- Texts of this claim, put together: PN PO0 PO. -/
import Derived.Test.YtcnedkkcgdkioaaGreatKBzf

set_option maxRecDepth 100000
set_option maxHeartbeats 12800000
namespace Go.Proofs.YtcnedkkcgdkioaaGreat
open Go.RowKit
def TB (vs:Jb):Nat->Nat->Int
 | 0,j=>(vs.getD j []).getD 2 0
 | k+1,j=>TB vs k ((vs.getD j []).getD (3+((vs.getD j []).getD 0 0).toNat) 0).toNat
def FQ (vs:Jb) (j:Nat):Int:=TB vs ((vs.getD j []).getD 1 0).toNat j
theorem ZK {vs:Jb}{j:Nat}(h:(vs.getD j []).getD 1 0=0):FQ vs j=(vs.getD j []).getD 2 0:=by
 unfold FQ;rw[h];rfl
theorem ZJ {n:Nat}{vs:Jb}(T:GI n vs) {j:Nat}(c:j < vs.length) (h:(vs.getD j []).getD 1 0 ≠ 0) :
  ∃a:Nat,(vs.getD j []).getD (3+((vs.getD j []).getD 0 0).toNat) 0=(a:Int)/\a < vs.length/\FQ vs j=FQ vs a/\(vs.getD a []).getD 1 0=(vs.getD j []).getD 1 0 - 1:=by
 obtain⟨_,_,k,f,s⟩:=T (vs.getD j []) (by rw[AK c];exact wG c);obtain⟨a,b,d,_,e⟩:=s (by omega);refine⟨a,b,d,?_,by omega⟩;unfold FQ;obtain⟨m,rfl⟩:∃m,k=m+1:=⟨k - 1,by omega⟩;rw[f,e,Int.toNat_natCast,Int.toNat_natCast,TB,b,Int.toNat_natCast];rfl
def OU (b1 b2 c:Nat) (v:Option Addr) (vs:Jb) (W:World):Prop:=
 W.cell? ⟨b1,8,none⟩=some (.slice v vs.length c)/\W.cell? ⟨b2,0,none⟩=some (.func (.func 55) #[] #[.pointer (some ⟨b1,0,none⟩),.pointer (some ⟨b2,0,none⟩)])/\KS 8 W (.slice v vs.length c) vs
theorem OU.keep {b1 b2 c:Nat}{v:Option Addr}{vs:Jb}{W W':World}(h:OU b1 b2 c v vs W) (b:Below W.heap.size W W'):OU b1 b2 c v vs W':=
 ⟨AC b h.1,AC b h.2.1,h.2.2.keep b⟩
theorem oM {b1 b2 vc n:Nat}{va:Option Addr}{vs:Jb}(T:GI n vs) (hn:n<=5) (c':vs.length<=100000):∀(k j:Nat) (W:World),j < vs.length->(vs.getD j []).getD 1 0=(k:Int)->OU b1 b2 vc va vs W->
  Calls Tryz.prog 55 #[.int .i64 (j:Int),.pointer (some ⟨b1,0,none⟩),.pointer (some ⟨b2,0,none⟩)] W fun e w'=>e = .returned (.int .i64 (FQ vs j))/\Below W.heap.size W w':=by
 have b4 : Tryz.prog.follows .mixedOrders=true:=by kernel_rfl
 intro k;induction k with
 | zero=>
  intro j W l b B;have U:FQ vs j=(vs.getD j []).getD 2 0:=ZK b;rw[U];obtain⟨r0,Z,b9,c1,vb,vo,F,G,v,-⟩:=B;injection F with e1 e2 e3;subst e1 e3;obtain rfl:=G (by omega);obtain⟨x,i⟩:=v j l;obtain⟨c3,s⟩:=AB (vs.getD j []);rw[s] at x i b|-;obtain⟨E,m,t,u,w,y,z,A,rfl⟩:=CT x;have b:m=0:=b;subst b;obtain⟨I,J,L,M,N,O,P,Q⟩:=i.all8;obtain⟨c,a⟩:=AF (W.alloc (.cells #[.int .i64 E,.int .i64 0,.int .i64 t,.int .i64 u,.int .i64 w,.int .i64 y,.int .i64 z,.int .i64 A] 114));have o:Below W.heap.size W c:=by rw[a];exact(wB _ W).alloc (wC _) _
  have V:c.heap[W.heap.size]? = some (.cells #[.int .i64 E,.int .i64 0,.int .i64 t,.int .i64 u,.int .i64 w,.int .i64 y,.int .i64 z,.int .i64 A] 114):=by rw[a];exact wE _ _
  obtain⟨z0,H,z2,z3,z4,z5,z6,z7⟩:=box8' V;have b3:(j:Int) < (vs.length:Int):=by omega
  clear v x i V s U;go_enter Tryz.func55, Tryz.ntmps55
  go_upto_region 2 with fail
  rw[<-a];replace a:=qH a;go_wp2;go_ret;exact⟨rfl,o⟩
 | succ k X=>
  intro j W l b B;have b6:=qH X;clear X;obtain⟨Y,d,a',b0,R⟩:=ZJ T l (by omega);obtain⟨p,r,c8⟩:∃p:Nat,(vs.getD j []).getD 0 0=(p:Int)/\p < n:=(T (vs.getD j []) (by rw[AK l];exact wG l)).2.1;rw[b0];have b5:=qH (fun f (g:Below W.heap.size W f)=>B.keep g);obtain⟨r0,Z,b9,c1,vb,vo,F,G,v,-⟩:=B;injection F with e1 e2 e3;subst e1 e3;obtain rfl:=G (by omega);obtain⟨x,i⟩:=v j l;rw[r,Int.toNat_natCast] at d;have q:=b;rw[b] at R;obtain⟨c3,s⟩:=AB (vs.getD j []);rw[s] at x i q d r;obtain⟨E,m,t,u,w,y,z,A,rfl⟩:=CT x;replace r:E=(p:Int):=r;replace q:m=((k+1:Nat):Int):=q;have c6:(m == 0)=false:=beq_eq_false_iff_ne.2 (by omega);subst r;replace q:=qH q;have IH:=qH (fun f (g:Below W.heap.size W f)=>b6.out Y f a' (by omega) (b5.out f g));obtain⟨I,J,L,M,N,O,P,Q⟩:=i.all8;obtain⟨c,a⟩:=AF (W.alloc (.cells #[.int .i64 (p:Int),.int .i64 m,.int .i64 t,.int .i64 u,.int .i64 w,.int .i64 y,.int .i64 z,.int .i64 A] 114));have o:Below W.heap.size W c:=by rw[a];exact(wB _ W).alloc (wC _) _
  have V:c.heap[W.heap.size]? = some (.cells #[.int .i64 (p:Int),.int .i64 m,.int .i64 t,.int .i64 u,.int .i64 w,.int .i64 y,.int .i64 z,.int .i64 A] 114):=by rw[a];exact wE _ _
  have S:c.cell? ⟨W.heap.size,3+p,none⟩=some (.int .i64 (Y:Int)):=by
   obtain⟨z0,H,z2,z3,z4,z5,z6,z7⟩:=box8' V;have h5:p=0\/p=1\/p=2\/p=3\/p=4:=(by omega);rcases h5 with rfl|rfl|rfl|rfl|rfl
   ·rw[<-d];exact z3
   ·rw[<-d];exact z4
   ·rw[<-d];exact z5
   ·rw[<-d];exact z6
   ·rw[<-d];exact z7
  have HK:=qH (fun f (g:Below c.heap.size c f)=>And.intro (AC g (box8' V).1) (And.intro (AC g S) (AC g (AC o Z))));have H:=(box8' V).2.1;have b3:(j:Int) < (vs.length:Int):=by omega
  have c9:(p:Int) < 5:=by omega
  clear v x i V s d R b S;go_enter Tryz.func55, Tryz.ntmps55
  go_upto_region 2 with fail
  rw[<-a];replace a:=qH a;clear I J L M N O P Q;go_upto_region 4 with fail
  clear H;refine CW b4 (by kernel_rfl) ?_
  repeat (refine WQ.step fun K h=>?_;go_simp;first|(refine h _ ?_;clear h K)|(apply Exists.intro;refine⟨fun D C=>?_,h _ ?_⟩;(·(first|with_reducible rfl|(obtain⟨q0,q1,q2⟩:=HK.out D C;go_simp;first|done|with_reducible rfl|with_reducible exact⟨rfl,rfl⟩)));clear h K))
  (refine WQ.step fun K h=>?_;go_simp;first|(refine h _ ?_;clear h K)|(apply Exists.intro;refine⟨fun D C=>?_,h _ ?_⟩;(·(refine(IH.out D (btt o C)).mono ?_;rintro e w' ⟨rfl,a8⟩;exact⟨rfl,btt C a8⟩));clear h K))
  repeat (refine WQ.step fun K h=>?_;go_simp;first|(refine h _ ?_;clear h K)|(apply Exists.intro;refine⟨fun D C=>?_,h _ ?_⟩;(·(first|with_reducible rfl|(go_simp;first|done|with_reducible rfl|with_reducible exact⟨rfl,rfl⟩)));clear h K))
  refine WQ.nil ?_;intro w4 a9;go_wp2;go_ret;exact⟨rfl,btt o a9⟩
def DN (u v:Value):Prop:=u.ownBlock=none\/u.ownBlock ≠ v.ownBlock
theorem AA.keptG {E:TypeId}{k:Nat}{w w':World}{B n:Nat}{v u:Value}{xs:Jb}(h:AA E k EI w B v n xs) (g:w.grownBy w' u.ownBlock) (e:DN v u):AA E k EI w' B v n xs:=by
 obtain⟨s,a,b,c,d⟩:=h;exact⟨s,World.ownsRow.kept a g e,b,c,d⟩
theorem DN.new {E:TypeId}{k:Nat}{w:World}{B n:Nat}{v u c:Value}{xs:Jb}(a:DN v u) (h:AA E k EI w B v n xs) (b:IW w u c):DN v c:=by
 rcases a with a|a
 ·exact .inl a
 ·rcases b with b|b
  ·exact .inr (by rw[b];exact a)
  ·by_cases f:v.ownBlock=none
   ·exact .inl f
   ·refine .inr fun e=>?_;rw[b] at e;obtain⟨s,d,_⟩:=h;have:=(World.ownsRow.lt d _ e).2
    omega
def aZ:List Oper:=[⟨some 42,.fieldAddr 40 (.tmp 8) 1,0,"protocol.go:101",#[],none⟩,⟨some 43,.load 38 (.tmp 42),38,"protocol.go:101",#[⟨0,.data⟩],none⟩,⟨some 44,.fieldAddr 83 (.tmp 10) 0,0,"protocol.go:101",#[],none⟩,⟨some 45,.load 3 (.tmp 44),3,"protocol.go:101",#[⟨2,.data⟩],none⟩,⟨some 46,.load 111 (.tmp 7),111,"protocol.go:101",#[],none⟩,⟨some 47,.fieldAddr 83 (.tmp 10) 1,0,"protocol.go:101",#[],none⟩,⟨some 48,.load 3 (.tmp 47),3,"protocol.go:101",#[⟨5,.data⟩],none⟩,⟨some 49,.call { callee:=.value (.tmp 46),args:=#[.tmp 48],argTypes:=#[3] },3,"protocol.go:101",#[⟨4,.data⟩,⟨6,.data⟩],none⟩,⟨some 50,.build 83 #[(0,.tmp 45),(1,.tmp 49)],83,"protocol.go:101",#[⟨3,.data⟩,⟨7,.data⟩],none⟩,⟨some 51,.buildSlice 38 1 #[(0,.tmp 50)],38,"protocol.go:101",#[⟨8,.data⟩],none⟩,⟨some 52,.call { callee:=.builtin .append,args:=#[.tmp 43,.tmp 51],argTypes:=#[38,38] },38,"protocol.go:101",#[⟨1,.data⟩,⟨9,.data⟩,⟨7,.chain⟩],none⟩,⟨some 53,.fieldAddr 40 (.tmp 8) 1,0,"protocol.go:101",#[⟨0,.phase⟩,⟨1,.phase⟩,⟨2,.phase⟩,⟨3,.phase⟩,⟨4,.phase⟩,⟨5,.phase⟩,⟨6,.phase⟩,⟨7,.phase⟩,⟨8,.phase⟩,⟨9,.phase⟩,⟨10,.phase⟩],none⟩,⟨none,.store 38 (.tmp 53) (.tmp 52),0,"protocol.go:101",#[⟨11,.data⟩,⟨10,.data⟩,⟨10,.chain⟩,⟨0,.phase⟩,⟨1,.phase⟩,⟨2,.phase⟩,⟨3,.phase⟩,⟨4,.phase⟩,⟨5,.phase⟩,⟨6,.phase⟩,⟨7,.phase⟩,⟨8,.phase⟩,⟨9,.phase⟩,⟨10,.phase⟩],none⟩]
theorem rP {w:World}{Z x1 x2 x3 x4 x5 x6 x9 a1 a2 a3 a4 a5 a6 a7 a8 a9 b0 b2 b3 b4 b5 b6 b9 b' c0 c1 c3 c4 c5 c6 c7 c8 c9 c' d0 d1 d3 d4 e5 e6 e7 e8 e9 e' f0 f1 f2 f3 f4 f5 d6 d7:Value}{d':Exit->Act->World->Prop}{b1 b7 b8 b10 B i m C tc:Nat}{A ta:Option Addr}{fs P:Jb}{cl lb ip:Int}
  (k8:w.heap[b8]? = some (.cells #[.slice A m C,.slice ta i tc] 40)) (g8:w.heap[b10]? = some (.cells #[.int .i64 cl,.int .i64 lb] 83)) (X:AA 83 2 EI w B (.slice ta i tc) i P) (S:AA 83 2 EI w B (.slice A m C) m fs) (e3:DN (.slice A m C) (.slice ta i tc))
  (g3:∀W,Below B w W->W.cell? ⟨b7,0,none⟩=some (.func (.func 55) #[] #[.pointer (some ⟨b1,0,none⟩),.pointer (some ⟨b7,0,none⟩)])) (g1:∀W,Below B w W->Calls Tryz.prog 55 #[.int .i64 lb,.pointer (some ⟨b1,0,none⟩),.pointer (some ⟨b7,0,none⟩)] W fun e w'=>e = .returned (.int .i64 ip)/\Below W.heap.size W w') (hi:i<=100000) (f8:B<=b8)
  (g2:∀(L I _y12:Value) (W:World),(Below B w W/\((fun i=>decide (i < 13)) 12=false->W.heap[b8]? = some (.cells #[.slice A m C,.slice ta i tc] 40))/\((fun i=>decide (i < 13)) 10=false->W.heap[b10]? = some (.cells #[.int .i64 cl,.int .i64 lb] 83)/\AA 83 2 EI W B (.slice ta i tc) i P/\AA 83 2 EI W B (.slice A m C) m fs)/\((fun i=>decide (i < 13)) 9=true->(fun i=>decide (i < 13)) 10=false->∃g,L = .slice (some ⟨g,0,none⟩) 1 1/\W.heap[g]? = some (.cells #[.int .i64 cl,.int .i64 ip] 83))/\((fun i=>decide (i < 13)) 10=true->(∃a c,I = .slice a (i+1) c)/\AA 83 2 EI W B I (i+1) (P ++ [[cl,ip]])/\AA 83 2 EI W B (.slice A m C) m fs/\DN (.slice A m C) I)/\((fun i=>decide (i < 13)) 12=true->W.heap[b8]? = some (.cells #[.slice A m C,I] 40))/\w.heap.size<=W.heap.size)->(True)->(True)->(True)->d' .normal ⟨#[Z,x1,x2,x3,x4,x5,x6,.pointer (some ⟨b7,0,none⟩),.pointer (some ⟨b8,0,none⟩),x9,.pointer (some ⟨b10,0,none⟩),a1,a2,a3,a4,a5,a6,a7,a8,a9,b0,b2,b3,b4,b5,b6,b9,b',c0,c1,c3,c4,c5,c6,c7,c8,c9,c',d0,d1,d3,d4,.pointer (some ⟨b8,1,none⟩),.slice ta i tc,.pointer (some ⟨b10,0,none⟩),.int .i64 cl,.func (.func 55) #[] #[.pointer (some ⟨b1,0,none⟩),.pointer (some ⟨b7,0,none⟩)],.pointer (some ⟨b10,1,none⟩),.int .i64 lb,.int .i64 ip,.agg #[.int .i64 cl,.int .i64 ip],L,I,.pointer (some ⟨b8,1,none⟩),d6,d7],[]⟩ W) :
  (Code.region 14 aZ.toArray true).wp Tryz.prog d' ⟨#[Z,x1,x2,x3,x4,x5,x6,.pointer (some ⟨b7,0,none⟩),.pointer (some ⟨b8,0,none⟩),x9,.pointer (some ⟨b10,0,none⟩),a1,a2,a3,a4,a5,a6,a7,a8,a9,b0,b2,b3,b4,b5,b6,b9,b',c0,c1,c3,c4,c5,c6,c7,c8,c9,c',d0,d1,d3,d4,e5,e6,e7,e8,e9,e',f0,f1,f2,f3,f4,f5,d6,d7],[]⟩ w:=by
 have Q:B<=w.heap.size:=by have:=(wD.1 k8).1;omega
 refine GB (l:=aZ) (F:=(fun y=>⟨#[Z,x1,x2,x3,x4,x5,x6,.pointer (some ⟨b7,0,none⟩),.pointer (some ⟨b8,0,none⟩),x9,.pointer (some ⟨b10,0,none⟩),a1,a2,a3,a4,a5,a6,a7,a8,a9,b0,b2,b3,b4,b5,b6,b9,b',c0,c1,c3,c4,c5,c6,c7,c8,c9,c',d0,d1,d3,d4,y 0,y 1,y 2,y 3,y 4,y 5,y 6,y 7,y 8,y 9,y 10,y 11,d6,d7],[]⟩)) (Φ:=[AI (.pointer (some ⟨b8,1,none⟩)),AI (.slice ta i tc),AI (.pointer (some ⟨b10,0,none⟩)),AI (.int .i64 cl),AI (.func (.func 55) #[] #[.pointer (some ⟨b1,0,none⟩),.pointer (some ⟨b7,0,none⟩)]),AI (.pointer (some ⟨b10,1,none⟩)),AI (.int .i64 lb),AI (.int .i64 ip),AI (.agg #[.int .i64 cl,.int .i64 ip]),CM,CM,AI (.pointer (some ⟨b8,1,none⟩)),CM]) (R:=(fun _ _=>True)) (G:=(fun D y W=>Below B w W/\(D 12=false->W.heap[b8]? = some (.cells #[.slice A m C,.slice ta i tc] 40))/\(D 10=false->W.heap[b10]? = some (.cells #[.int .i64 cl,.int .i64 lb] 83)/\AA 83 2 EI W B (.slice ta i tc) i P/\AA 83 2 EI W B (.slice A m C) m fs)/\(D 9=true->D 10=false->∃g,(y 9) = .slice (some ⟨g,0,none⟩) 1 1/\W.heap[g]? = some (.cells #[.int .i64 cl,.int .i64 ip] 83))/\(D 10=true->(∃a c,(y 10) = .slice a (i+1) c)/\AA 83 2 EI W B (y 10) (i+1) (P ++ [[cl,ip]])/\AA 83 2 EI W B (.slice A m C) m fs/\DN (.slice A m C) (y 10))/\(D 12=true->W.heap[b8]? = some (.cells #[.slice A m C,(y 10)] 40))/\w.heap.size<=W.heap.size)) ⟨?s0,?s1,?s2,?s3,?s4,?s5,?s6,?s7,?s8,?s9,?s10,?s11,?s12,trivial⟩ (fun i=>([e5,e6,e7,e8,e9,e',f0,f1,f2,f3,f4,f5,undef]:List Value).getD i undef) (by kernel_rfl) (by kernel_rfl) ⟨sE,sE,sE,sE,sE,sE,sE,sE,sE,fun _ _ _ h _=>h,fun _ _ _ h _=>h,sE,fun _ _ _ h _=>h,trivial⟩ ?g0 ?gx ?fin
 case s0|s2|s5|s11=>
  refine .q0 (CE rfl) (fun _=>trivial) (fun _ _ _ h=>h) (fun _=>rfl) fun y W K o=>?_;go_simp;exact o
 case s1=>
  refine AL.mk rfl (AD 0 fun y0=>AD 9 fun L=>AD 10 fun I=>fun y D W K s t u b o=>?_);obtain rfl:=(u.get 0 rfl).2;dsimp [AJ] at b|-
  have J:=t.no (j:=12) (i:=1) rfl (by kernel_rfl) s;obtain⟨k,n,d,v,z,E,f⟩:=b;have U:=cell_of_row _ _ 1 _ _ _ (n J);go_simp;exact o _ _ trivial ⟨k,n,d,v,z,E,f⟩ rfl
 case s3=>
  refine AL.mk rfl (AD 2 fun y2=>AD 9 fun L=>AD 10 fun I=>fun y D W K s t u b o=>?_);obtain rfl:=(u.get 2 rfl).2;dsimp [AJ] at b|-
  have V:=t.no (j:=8) (i:=3) rfl (by kernel_rfl) s;have N:=t.no (j:=9) (i:=8) rfl (by kernel_rfl) V;have r:=t.no (j:=10) (i:=9) rfl (by kernel_rfl) N;obtain⟨k,n,d,v,z,E,f⟩:=b;have U:=(BA (d r).1).1;go_simp;exact o _ _ trivial ⟨k,n,d,v,z,E,f⟩ rfl
 case s4=>
  refine AL.mk rfl (AD 9 fun L=>AD 10 fun I=>fun y D W K _ _ _ b o=>?_);dsimp [AJ] at b|-
  obtain⟨k,n,d,v,z,E,f⟩:=b;have U:=(g3 W k);go_simp;exact o _ _ trivial ⟨k,n,d,v,z,E,f⟩ rfl
 case s6=>
  refine AL.mk rfl (AD 5 fun y5=>AD 9 fun L=>AD 10 fun I=>fun y D W K s t u b o=>?_);obtain rfl:=(u.get 5 rfl).2;dsimp [AJ] at b|-
  have f6:=t.no (j:=7) (i:=6) rfl (by kernel_rfl) s;have r:=t.no (j:=10) (i:=7) rfl (by kernel_rfl) f6;obtain⟨k,n,d,v,z,E,f⟩:=b;have U:=(BA (d r).1).2;go_simp;exact o _ _ trivial ⟨k,n,d,v,z,E,f⟩ rfl
 case s7=>
  refine AL.mk rfl (AD 4 fun y4=>AD 6 fun y6=>AD 9 fun L=>AD 10 fun I=>fun y D W K s t u b o=>?_);obtain rfl:=(u.get 4 rfl).2;obtain rfl:=(u.get 6 rfl).2;dsimp [AJ] at b|-
  have V:=t.no (j:=8) (i:=7) rfl (by kernel_rfl) s;have N:=t.no (j:=9) (i:=8) rfl (by kernel_rfl) V;have r:=t.no (j:=10) (i:=7) rfl (by kernel_rfl) s;have J:=t.no (j:=12) (i:=7) rfl (by kernel_rfl) s;obtain⟨k,n,d,v,z,E,f⟩:=b;go_simp;refine(g1 W k).mono ?_;rintro e W9 ⟨rfl,M⟩;exact o _ _ trivial ⟨k.trans (M.mono (wI Q f)),fun _=>AN M (n J),fun _=>⟨AN M (d r).1,(d r).2.1.keep (EI.stab _) M,(d r).2.2.keep (EI.stab _) M⟩,fun h=>(by rw[show AP D 7 9=D 9 from rfl,N] at h;cases h),fun h=>(by rw[show AP D 7 10=D 10 from rfl,r] at h;cases h),fun h=>(by rw[show AP D 7 12=D 12 from rfl,J] at h;cases h),wI f M.size⟩ rfl
 case s8=>
  refine .q2 (CE rfl) (fun _=>trivial) (fun _ _ _ h=>h) (fun _=>rfl) rfl (fun _ _ h=>h) (fun _ _ h=>h) fun y W K o=>?_;dsimp [AJ]
  go_simp;exact o
 case s9=>
  refine AL.mk rfl (AD 8 fun y8=>AD 9 fun L=>AD 10 fun I=>fun y D W K s t u b o=>?_);obtain rfl:=(u.get 8 rfl).2;dsimp [AJ] at b|-
  have r:=t.no (j:=10) (i:=9) rfl (by kernel_rfl) s;have J:=t.no (j:=12) (i:=9) rfl (by kernel_rfl) s;obtain⟨k,n,d,v,z,E,f⟩:=b;have O:Below W.heap.size W (W.alloc (.cells #[.int .i64 cl,.int .i64 ip] 83)):=(wB _ W).alloc (wC _) _;go_simp;exact o _ _ trivial ⟨k.trans (O.mono (wI Q f)),fun _=>AN O (n J),fun _=>⟨AN O (d r).1,(d r).2.1.keep (EI.stab _) O,(d r).2.2.keep (EI.stab _) O⟩,fun _ _=>⟨_,rfl,wE W _⟩,fun h=>(by rw[show AP D 9 10=D 10 from rfl,r] at h;cases h),fun h=>(by rw[show AP D 9 12=D 12 from rfl,J] at h;cases h),wI f O.size⟩ trivial
 case s10=>
  refine AL.mk rfl (AD 1 fun y1=>AD 9 fun L=>AD 10 fun I=>fun y D W K s t u b o=>?_);obtain rfl:=(u.get 1 rfl).2;have N:=(u.get 9 rfl).1;dsimp [AJ] at b|-
  have J:=t.no (j:=12) (i:=10) rfl (by kernel_rfl) s;have N:=(u.get 9 rfl).1;obtain⟨k,n,d,v,z,E,f⟩:=b;obtain⟨g,f7,hg⟩:=v N s;subst f7;obtain⟨-,X,S⟩:=d s;refine KF (B:=B) (cs:=[.int .i64 cl,.int .i64 ip]) (x:=[cl,ip]) EE (by decide) (by decide) (EI.stab _) _ _ (by rfl) (by rfl) X ⟨g,0,none⟩ 1 (by rfl) rfl (World.news_of_block hg) (fun h3 Y=>by rcases List.mem_cons.1 Y with rfl|Y;rfl;rw[List.mem_singleton.1 Y];rfl) rfl (by omega) (wI Q f) ?_;intro v9 w9 T e4 g5 M g6;obtain⟨e0,e1,rfl⟩:=T.shape;exact o _ _ trivial ⟨k.trans M,fun _=>(g6 b8 _ _ (n J) (by decide)).trans (n J),fun h=>(by cases h),fun _ h=>(by cases h),fun _=>⟨⟨_,_,rfl⟩,T,S.keptG e4 e3,DN.new e3 S g5⟩,fun h=>(by rw[show AP D 10 12=D 12 from rfl,J] at h;cases h),wI f e4.size⟩ trivial
 case s12=>
  refine AL.mk rfl (AD 11 fun h8=>AD 9 fun L=>AD 10 fun I=>fun y D W K s _ u b o=>?_);obtain rfl:=(u.get 11 rfl).2;have r:=(u.get 10 rfl).1;dsimp [AJ] at b|-
  have r:=(u.get 10 rfl).1;obtain⟨k,n,d,v,z,E,f⟩:=b;obtain⟨⟨e0,e1,hy⟩,T,f9,f'⟩:=z r;subst hy;have k8:=n s;have U:=cell_of_row _ _ 1 _ _ _ k8;have fz:=BG k8;have hX:=AE.setCell (p:=⟨b8,1,none⟩) k8 (.slice e0 (i+1) e1);go_simp;exact o undef _ trivial ⟨k.setCell (p:=⟨b8,1,none⟩) f8 _,fun h=>(by cases h),fun h=>(by rw[show AP D 12 10=D 10 from rfl,r] at h;cases h),fun _ h=>(by rw[show AP D 12 10=D 10 from rfl,r] at h;cases h),fun _=>⟨⟨_,_,rfl⟩,T.other (EI.stab _) (by decide) hX,f9.other (EI.stab _) (by decide) hX,f'⟩,fun _=>heap_setCell_same W b8 1 _ _ _ k8,(by simpa using f)⟩ trivial
 case g0=>exact⟨(wH (wB _ w) 1).mono Q,fun _=>k8,fun _=>⟨g8,X.keep (EI.stab _) (wH (wB _ w) 1),S.keep (EI.stab _) (wH (wB _ w) 1)⟩,fun h=>(by cases h),fun h=>(by cases h),fun h=>(by cases h),wC _⟩
 case gx=>exact fun D D' y W h ⟨k,n,d,v,z,E,f⟩=>⟨k,fun q=>n ((h 12 (by decide)).trans q),fun q=>d ((h 10 (by decide)).trans q),fun q q'=>v ((h 9 (by decide)).trans q) ((h 10 (by decide)).trans q'),fun q=>z ((h 10 (by decide)).trans q),fun q=>E ((h 12 (by decide)).trans q),f⟩
 case fin=>
  intro y W b H;try dsimp only
  rw[(AG H 0:y 0=_),(AG H 1:y 1=_),(AG H 2:y 2=_),(AG H 3:y 3=_),(AG H 4:y 4=_),(AG H 5:y 5=_),(AG H 6:y 6=_),(AG H 7:y 7=_),(AG H 8:y 8=_),(AG H 11:y 11=_)];exact g2 (y 9) (y 10) (y 12) W b (AG H 9) (AG H 10) (AG H 12)
theorem bT {N k:Nat}{vs:Jb}{xs:List Ex}{idx:Int}(G:IC N k vs xs):∀v∈DB (BC (AX N k xs idx)),∃c j:Nat,v = [(c:Int),(j:Int)]/\c < N/\j < vs.length/\(vs.getD j []).getD 1 0=(k:Int):=fun v e=>by
 obtain⟨s,d,f⟩:=UC.1 e;obtain⟨x,i,rfl⟩:=List.mem_map.1 (GF.1 d).1;obtain⟨p,h,_,rfl⟩:=NN.1 f;obtain⟨j,g,a,_,b⟩:=((G.ok x (List.mem_filter.1 i).1).rows k (wC _)).2 p h;exact⟨p,j,by rw[g],h,a,b⟩
theorem dQ {N k:Nat}{vs:Jb}{xs:List Ex}{idx:Int}(h:IC N k vs xs):PE (BC (AX N k xs idx)):=by
 refine nA (fun s a=>?_) (fun s a c=>?_) ?_
 ·obtain⟨x,b,rfl⟩:=List.mem_map.1 a;exact RB
 ·obtain⟨x,b,rfl⟩:=List.mem_map.1 a;exact dJ (h.ok x (List.mem_filter.1 b).1) h.n5 h.vl c
 ·unfold AX;rw[List.length_map];exact wI (List.length_filter_le _ _) (wI h.xl (by decide))
theorem bS {N k:Nat}{vs:Jb}{xs:List Ex}{idx:Int}(G:IC N k vs xs):(DB (BC (AX N k xs idx))).length<=800:=by
 have C:=dQ (idx:=idx) G
 have j:(DB (BC (AX N k xs idx))).length<=(BC (AX N k xs idx)).flatten.length:=by
  refine TS ?_ fun v g=>?_
  ·exact(bX _).imp fun {a b} d e=>by subst e;exact KN _ _ d d
  ·obtain⟨s,c,h⟩:=UC.1 g;exact List.mem_flatten.2 ⟨s,c,h⟩
 have f:∀l:Jc,(∀s∈l,s.length<=8)->l.flatten.length<=l.length * 8:=by
  intro l;induction l with
  | nil=>simp
  | cons a r i=>
   intro h;have:=i fun s c=>h s (by simp[c])
   have:=h a (by simp)
   simp only[List.flatten_cons,List.length_append,List.length_cons];omega
 have m:=f _ fun s c=>(C.sm s c).2.1;have n:=C.len;omega
def EQ (vs:Jb) (P:Jb):Jb:=P.map fun v=>[v.getD 0 0,FQ vs (v.getD 1 0).toNat]
def GC (w:World) (v:Value) (P Q:Jb):Prop:=∃f c t a,v = .agg #[.slice f P.length c,.slice t Q.length a]/\KS 2 w (.slice f P.length c) P/\KS 2 w (.slice t Q.length a) Q
theorem GC.keep {w w':World}{v:Value}{P Q:Jb}(h:GC w v P Q) (b:Below w.heap.size w w'):GC w' v P Q:=by
 obtain⟨f,c,t,g,a,d,e⟩:=h;exact⟨f,c,t,g,a,d.keep b,e.keep b⟩
theorem QV {fn:Func}(h:fn.results = #[.cell 2 40,.tmp 3]) (tmps:Array Value) (w:World) (g:Nat) {u0 u1 x:Value}(p:tmps.getD 2 undef = .pointer (some ⟨g,0,none⟩)) (b:tmps.getD 3 undef=x) (c:w.heap[g]? = some (.cells #[u0,u1] 40)) :
  (results fn tmps).run Tryz.prog w = .ok (.tuple #[.agg #[u0,u1],x]) w:=by
 have a:tmps[2]?.getD undef = .pointer (some ⟨g,0,none⟩):=by simpa using p
 have d:tmps[3]?.getD undef=x:=by simpa using b
 obtain⟨z,f⟩:=BA c;have e:=Tryz.isAgg40;have s:=Tryz.sizeOf40;simp only[results,h];simp[Sem.run_bind,Result.andThen,a,d,asAddr,loadVar]
 go_simp
theorem DN.symm {u v:Value}(h:DN u v):DN v u:=by
 rcases h with h|h
 ·by_cases a:v.ownBlock=none
  ·exact .inl a
  ·exact .inr (by rw[h];exact a)
 ·exact .inr fun e=>h e.symm
theorem bN (vs:Jb) (P:Jb) (c j:Nat):EQ vs (P ++ [[(c:Int),(j:Int)]])=EQ vs P ++ [[(c:Int),FQ vs j]]:=by
 unfold EQ;rw[List.map_append];rfl
theorem QZ {W:World}{b:Nat}{t:TypeId}{d e:Value}(h:W.heap[b]? = some (.cells #[d,e] t)) (u0 u1:Value) :
  ((W.setCell ⟨b,0,none⟩ u0).setCell ⟨b,1,none⟩ u1).heap[b]? = some (.cells #[u0,u1] t)/\AE t W ((W.setCell ⟨b,0,none⟩ u0).setCell ⟨b,1,none⟩ u1)/\∀(B:Nat) (w:World),B<=b->Below B w W->Below B w ((W.setCell ⟨b,0,none⟩ u0).setCell ⟨b,1,none⟩ u1):=by
 have a:=heap_setCell_same W b 0 _ _ u0 h;refine⟨heap_setCell_same _ b 1 _ _ u1 a,?_,fun B w c f=>?_⟩
 ·exact(AE.setCell (p:=⟨b,0,none⟩) h u0).trans (AE.setCell (p:=⟨b,1,none⟩) a u1)
 ·exact(f.setCell (p:=⟨b,0,none⟩) c u0).setCell (p:=⟨b,1,none⟩) c u1
theorem bQ {w:World}{v:Value}{n i o an r tn:Int}{cs:List Cs}{ss:Jc}{vs:Jb}{xs:List Ex}(h:CC w v n i o cs an ss r tn vs xs) (j3:DH n i o cs an ss r=true) :
  Calls Tryz.prog 12 #[v] w fun e w'=>∃v',e = .returned (.tuple #[v',.int .i64 (AZ n i o cs an ss r tn vs xs)])/\GC w' v' (if AZ n i o cs an ss r tn vs xs=0 then DB (BC (AX n.toNat r.toNat xs (-1))) else []) (if AZ n i o cs an ss r tn vs xs=0 then EQ vs (DB (BC (AX n.toNat r.toNat xs (-1)))) else [])/\Below w.heap.size w w':=by
 have M:=qH (fun W (d:Below w.heap.size w W)=>UA (h.keep d) j3);have HG:=IR h j3;obtain⟨g6,hE⟩:=AB (AZ n i o cs an ss r tn vs xs);rw[hE] at M HG|-;obtain⟨l1,l3,a',c',va,vc,xa,xc,rfl,-,hV,-⟩:=h;obtain⟨VA,m3⟩:∃VA:Array Value,VA = #[.int .i64 n,.int .i64 i,.int .i64 o,.slice l1 cs.length l3,.int .i64 an,.slice a' ss.length c',.int .i64 r,.int .i64 tn,.slice va vs.length vc,.slice xa xs.length xc]:=⟨_,rfl⟩;obtain⟨j,k⟩:=AF ((w.alloc (.cells VA 35)).alloc (.cells #[.slice none 0 0,.slice none 0 0] 40));have a3:Below w.heap.size w j:=by rw[k];exact((wB _ w).alloc (wC _) _).alloc (by simp) _
 have kR:j.heap[w.heap.size+1]? = some (.cells #[.slice none 0 0,.slice none 0 0] 40):=by
  rw[k];have:=wE (w.alloc (.cells VA 35)) (.cells #[.slice none 0 0,.slice none 0 0] 40)
  rwa [World.size_alloc] at this
 have kS:j.heap[w.heap.size]? = some (.cells VA 35):=by
  rw[k];exact(Below.heap_alloc _ _ _ (by simp)).trans (wE w _)
 subst m3;have HK:=qH (fun W (d:Below j.heap.size j W)=>And.intro (keep7 d (AW kS).1) (keep3' d (AW kS).2));obtain⟨⟨p0,p1,p2,p3,p4,p5,p6⟩,p7,p8,p9⟩:=HK.out j (wB _ _);rw[k] at p0 p1 p2 p3 p4 p5 p6 p7 p8 p9;have j4:=qH kR;have m4:=qH (fun W (d:Below w.heap.size w W)=>hV.keep d);replace hE:=qH hE;have g9:=HG;clear kS kR hV;by_cases X:g6=0
 ·subst X;obtain⟨-,-,-,p',O⟩:=HG rfl;rw[if_pos rfl] at M|-;rw[if_pos rfl];have a7:=bT (idx:=-1) O;have j7:=bS (idx:=-1) O;have j1:=dQ (idx:=-1) O;obtain⟨S,h7⟩:=AB (BC (AX n.toNat r.toNat xs (-1)));rw[h7] at M a7 j7 j1|-;obtain⟨P,hP⟩:=AB (DB S);have HV:=qH (fun W c9 (hu:IA W c9 S)=>uM hu j1);rw[hP] at HV a7 j7|-;replace a7:=qH a7;clear HG g9 h7 hP;go_enter Tryz.func12, Tryz.ntmps12
  go_wp2_with fail
  rw[<-k];replace k:=qH k;refine(M.out j a3).mono ?_;rintro e A ⟨v2,rfl,e4,c1⟩;obtain⟨f,c,rfl,hO⟩:=e4;clear p0 p1 p2 p3 p4 p5 p6 p7 p8 p9;obtain⟨N,y⟩:=AF (A.alloc (.cells #[.slice f S.length c] 57));have a4:Below A.heap.size A N:=by rw[y];exact(wB _ A).alloc (wC _) _
  have o1:=wJ (show N.heap[A.heap.size]? = some (.cells #[.slice f S.length c] 57) by rw[y];exact wE _ _);have j2:IA N (.agg #[.slice f S.length c]) S:=⟨_,_,rfl,hO.keep EVx.stb a4⟩;have l0:=qH (HV.out N _ j2);clear hO j2;go_upto_region 2 with fail
  rw[<-y];replace y:=qH y;go_wp2_with fail
  refine l0.out.mono ?_;rintro e s ⟨u4,rfl,d3,m7⟩;have i8:=btt c1 (btt a4 m7);clear o1;obtain⟨ua,uc,n9⟩:=d3.shape;subst n9;have h9:=d3.ks (by omega);obtain⟨a,R⟩:=AF (s.alloc (.cells #[.func (.func 55) #[] #[.pointer (some ⟨w.heap.size,0,none⟩),.pointer (some ⟨s.heap.size,0,none⟩)]] 111));obtain⟨C,G⟩:=AF (a.alloc (.cells #[.slice none 0 0,.slice none 0 0] 40));have i9:Below s.heap.size s a:=by rw[R];exact(wB _ s).alloc (wC _) _
  have d6:Below a.heap.size a C:=by rw[G];exact(wB _ a).alloc (wC _) _
  have c6:a.heap.size=s.heap.size+1:=by rw[R];simp
  have c7:C.heap.size=a.heap.size+1:=by rw[G];simp
  have kF:a.heap[s.heap.size]? = some (.cells #[.func (.func 55) #[] #[.pointer (some ⟨w.heap.size,0,none⟩),.pointer (some ⟨s.heap.size,0,none⟩)]] 111):=by
   rw[R];exact wE s _
  have z:C.heap[a.heap.size]? = some (.cells #[.slice none 0 0,.slice none 0 0] 40):=by
   rw[G];exact wE a _
  have c0:Below j.heap.size j a:=btt i8 i9;have e8:OU w.heap.size s.heap.size vc va vs a:=⟨(HK.out a c0).2.2.1,wJ kF,m4.out a (btt a3 c0)⟩;have h':=qH (fun W (d:Below a.heap.size a W)=>(h9.keep i9).keep d);have e5:=qH (fun W (d:Below a.heap.size a W)=>(e8.keep d).2.1);have e0:=qH (fun f1 (hj:f1 < vs.length) (hk:(vs.getD f1 []).getD 1 0=((r.toNat:Nat):Int)) W (d:Below a.heap.size a W)=>oM O.tab O.n5 O.vl r.toNat f1 W hj hk (e8.keep d));rw[R] at G
  have a2:∃(f:Option Addr) (c:Nat) (t:Option Addr) (g:Nat),C.heap[a.heap.size]? = some (.cells #[.slice f 0 c,.slice t 0 g] 40)/\AA 83 2 EI C a.heap.size (.slice f 0 c) 0 (P.take 0)/\AA 83 2 EI C a.heap.size (.slice t 0 g) 0 (EQ vs (P.take 0))/\DN (.slice f 0 c) (.slice t 0 g):=
   ⟨none,0,none,0,z,AA.nil _ _,AA.nil _ _,.inl rfl⟩
  replace a2:=qH a2;obtain⟨b,c2⟩:=AB (s.heap.size);rw[c2] at G e0 e5 c6;rw[c6] at a2 e0 e5 h' c7 d6;have m6:Below w.heap.size w a:=btt a3 c0
  have j8:Hid (w.heap.size+2<=b):=by
   have h1:=i8.size;have h2:j.heap.size=w.heap.size+2:=(by rw[k.out];simp);show _<=_;omega
  replace c2:=qH c2;replace c6:=qH c6;replace c7:=qH c7;clear h9 e8 kF z d3;go_wp2_with fail
  rw[c2.out,<-G];replace G:=qH G;replace R:=qH R;go_loopw [32] (fun iv wr=>∃(i:Nat) (f:Option Addr) (c:Nat) (t:Option Addr) (g:Nat),iv = .int .i64 i/\i<=P.length/\Hid (wr.heap[b+1]? = some (.cells #[.slice f i c,.slice t i g] 40)/\AA 83 2 EI wr (b+1) (.slice f i c) i (P.take i)/\AA 83 2 EI wr (b+1) (.slice t i g) i (EQ vs (P.take i))/\DN (.slice f i c) (.slice t i g))/\Below (b+1) C wr) (fun iv _=>P.length - (intOf iv).toNat)
  case atStart=>
   obtain⟨f,c,t,g,h⟩:=a2.out;exact⟨0,f,c,t,g,rfl,by omega,h,wB _ _⟩
  case round=>
   clear a2;obtain⟨q,f,c,t,g,rfl,hq,hI,d'⟩:=hrel;have d7:Below (b+1) a wr:=d6.trans d';by_cases c4:q < P.length
   ·have o':(q:Int) < (P.length:Int):=(by omega);obtain⟨z,H,T,V⟩:=hI.out;obtain⟨pa,pc,pb,po,he,n7,j6,-⟩:=h'.out wr d7;injection he with e1 e2 e3;subst e1 e3;obtain rfl:=n7 (by omega);obtain⟨x2,xi⟩:=j6 q c4;obtain⟨u,l,hx,o8,n4,n5⟩:=a7.out (P.getD q []) (by rw[AK c4];exact wG c4);have a8:=BY c4 ([]:List Int);rw[hx] at x2 xi a8;obtain⟨l5,l6⟩:=xi.all2;obtain⟨D,U⟩:=AF (wr.alloc (.cells #[.int .i64 (u:Int),.int .i64 (l:Int)] 83));obtain⟨W8,I⟩:=AF (D.alloc (.cells #[.int .i64 (u:Int),.int .i64 (l:Int)] 83));have J:Below wr.heap.size wr D:=(by rw[U];exact(wB _ wr).alloc (wC _) _);have K:Below D.heap.size D W8:=(by rw[I];exact(wB _ D).alloc (wC _) _);have e9:D.heap.size=wr.heap.size+1:=(by rw[U];simp);have c8:D.heap[wr.heap.size]? = some (.cells #[.int .i64 (u:Int),.int .i64 (l:Int)] 83):=(by rw[U];exact wE wr _);have k3:W8.heap[D.heap.size]? = some (.cells #[.int .i64 (u:Int),.int .i64 (l:Int)] 83):=(by rw[I];exact wE D _);have b5:=(H.keep (EI.stab _) J).keep (EI.stab _) K;have Q:=(T.keep (EI.stab _) J).keep (EI.stab _) K;have Y:=AN K (AN J z);have Z:=AN K c8;have l':b+1<=wr.heap.size:=(by have:=c7.out;have:=d'.size;omega);have m0:b+1<=W8.heap.size:=(by have:=J.size;have:=K.size;omega);have a6:Below (b+1) C W8:=(d'.trans (J.mono l')).trans (K.mono (by omega));have m1:Hid (∀d1,(Value.slice f q c).ownBlock=some d1->d1 < wr.heap.size):=fun d1 hg=>by obtain⟨_,h1,_⟩:=H;exact(World.ownsRow.lt h1 _ hg).2
    have c5:=World.news_of_block k3;rw[e9] at c5;have m9:∀c9 ∈ [Value.int .i64 (u:Int),.int .i64 (l:Int)],c9.oneCell'=true:=fun c9 hu=>by rcases List.mem_cons.1 hu with rfl|hu;rfl;rw[List.mem_singleton.1 hu];rfl
    have n1:q<=1000000000000:=(by omega);have z0:=(BA z).1;have v0:=(BA c8).1;have v1:=(BA c8).2;have y0:=(BA (AN J z)).1;have h8:=qH (And.intro b5 (And.intro Q (And.intro Y (And.intro Z (And.intro V (And.intro a6 c5))))));rw[U] at v0 v1 y0 I;have n8:(wr.alloc (.cells #[.int .i64 (u:Int),.int .i64 (l:Int)] 83)).heap.size=wr.heap.size+1:=(by simp);have a8:=qH a8;replace e9:=qH e9;replace U:=qH U;clear H T z V hI b5 Q Y Z c8 k3 a6 J K x2 xi j6;go_upto_region 13 with fail
    go_wp2_with (at_builtin;rw[<-I];refine VE (B:=b+1) (cs:=[.int .i64 (u:Int),.int .i64 (l:Int)]) (x:=[(u:Int),(l:Int)]) EE (by decide) (by decide) (EI.stab _) rfl _ _ rfl rfl h8.out.1 ⟨wr.heap.size+1,0,none⟩ 1 rfl rfl c5 m9 rfl n1 m0 ?_)
    intro v9 w9 d4 c3 e6 d8 e';rw[<-I] at c3 e6 d8 e';replace I:=qH I;obtain⟨b5,Q,Y,Z,V,a6,-⟩:=h8.out;obtain⟨E,F,n'⟩:=d4.shape;subst n';have k9:=(e' (b+1) _ _ Y (by decide)).trans Y;have i4:=Q.keptG c3 V.symm;have i7:=(DN.new V.symm Q e6).symm;have f3:=(c3.block wr.heap.size (wD.1 Z).1 (fun e=>by have:=m1.out _ e.symm;omega)).trans Z;have j9:=heap_setCell_same w9 (b+1) 0 _ _ (.slice E (q+1) F) k9;have b':=AE.setCell (p:=⟨b+1,0,none⟩) k9 (.slice E (q+1) F);have h4:=d4.other (E':=40) (EI.stab _) (by decide) b';have i1:=i4.other (E':=40) (EI.stab _) (by decide) b';have k2:=(b' _ _ _ f3 (by decide)).trans f3;have j0:Below (b+1) C (w9.setCell ⟨b+1,0,none⟩ (.slice E (q+1) F)):=(a6.trans d8).setCell (p:=⟨b+1,0,none⟩) (wC _) _;have o6:=(BA k9).1;have f9:=QW k9;have i':Below (b+1) a (w9.setCell ⟨b+1,0,none⟩ (.slice E (q+1) F)):=d6.trans j0;have j5:∀(f4:Jb),f4=P.take q ++ [[(u:Int),(l:Int)]]->P.take (q+1)=f4:=fun f4 e=>by rw[e];exact a8.out
    replace j5:=qH j5;clear v0 v1 y0 z0 l5 l6 c5 d4 c3 e6 d8 e' i4 f3 b' k9 b5 Q Y Z V a6 n8;go_upto_region 14 with fail
    refine rP (b1:=w.heap.size) (b7:=b) (b8:=b+1) (b10:=wr.heap.size) (B:=b+1) (cl:=(u:Int)) (lb:=(l:Int)) (ip:=FQ vs l) j9 k2 i1 h4 i7 (fun W d=>e5.out W (i'.trans d)) (fun W d=>e0.out l n4 n5 W (i'.trans d)) (by omega) (wC _) ?_;rintro y9 q7 q8 d0 ⟨g1,-,-,-,G6,G7,-⟩ - - -;obtain⟨⟨b2,b3,rfl⟩,i2,h5,i6⟩:=G6 rfl;have j':=G7 rfl
    have hN:Hid (d0.heap[b+1]? = some (.cells #[.slice E (q+1) F,.slice b2 (q+1) b3] 40)/\AA 83 2 EI d0 (b+1) (.slice E (q+1) F) (q+1) (P.take (q+1))/\AA 83 2 EI d0 (b+1) (.slice b2 (q+1) b3) (q+1) (EQ vs (P.take (q+1)))/\DN (.slice E (q+1) F) (.slice b2 (q+1) b3)):=by
     show _/\_;rw[a8.out,bN];exact⟨j',h5,i2,i6⟩
    have m5:=j0.trans g1;clear G6 G7 g1 j9 k2 i1 h4 i7 i2 h5 i6 j' o6 f9;go_wp2_with fail
    go_roundw
    case rel=>exact⟨q+1,E,F,b2,b3,by go_num,by omega,hN,m5⟩
    case measure=>simp[intOf];omega
   ·obtain rfl:q=P.length:=(by omega);obtain⟨z,H,T,-⟩:=hI.out;rw[List.take_length] at H T
    have m:wr.heap[w.heap.size+1]? = some (.cells #[.slice none 0 0,.slice none 0 0] 40):=by
     have h1:=j4.out;have h2:=AN c0 h1;exact(d7.block _ (by have:=j8.out;omega)).trans h2
    have m8:Below w.heap.size w wr:=m6.trans (d7.mono (by have:=j8.out;omega));obtain⟨z0,z1⟩:=BA z;obtain⟨y0,y1⟩:=BA m;have f0:=BG m 0;have l8:=BG m 1;obtain⟨L,hX,a5⟩:=QZ m (.slice f P.length c) (.slice t P.length g);have h6:=(H.other (EI.stab _) (by decide) hX).ks (by omega);have i3:=(T.other (EI.stab _) (by decide) hX).ks (by omega);have d9:=a5 w.heap.size w (Nat.le_succ _) m8;have e7:(EQ vs P).length=P.length:=(by unfold EQ;rw[List.length_map]);have n6:Hid (GC ((wr.setCell ⟨w.heap.size+1,0,none⟩ (.slice f P.length c)).setCell ⟨w.heap.size+1,1,none⟩ (.slice t P.length g)) (.agg #[.slice f P.length c,.slice t P.length g]) P (EQ vs P)):=⟨f,c,t,g,by rw[e7],h6,by rw[e7];exact i3⟩;have L:=qH L;clear H T hI h6 i3 hX a5 z m e7;go_wp2;exact⟨rfl,_,QV rfl _ _ _ rfl rfl L.out,_,rfl,n6.out,d9⟩
 ·rw[if_neg X] at M|-;rw[if_neg X];have o7:(g6 == 0)=false:=by simpa using X
  replace X:=qH X;clear HG g9;go_enter Tryz.func12, Tryz.ntmps12
  go_wp2_with fail
  rw[<-k];replace k:=qH k;refine(M.out j a3).mono ?_;rintro e A ⟨v2,rfl,e4,c1⟩;obtain⟨f,c,rfl,hO⟩:=e4;clear p0 p1 p2 p3 p4 p5 p6 p7 p8 p9 hO;obtain⟨N,y⟩:=AF (A.alloc (.cells #[.slice f 0 c] 57));have a4:Below A.heap.size A N:=by rw[y];exact(wB _ A).alloc (wC _) _
  have m:=AN (btt c1 a4) j4.out;obtain⟨y0,y1⟩:=BA m;have f0:=BG m 0;have l8:=BG m 1;obtain⟨L,-,a5⟩:=QZ m (.slice none 0 0) (.slice none 0 0);have d9:=a5 w.heap.size w (Nat.le_succ _) (btt a3 (btt c1 a4));have L:=qH L;clear m a5;go_upto_region 2 with fail
  rw[<-y];replace y:=qH y;go_wp2;exact⟨rfl,_,QV rfl _ _ _ rfl rfl L.out,_,rfl,⟨none,0,none,0,rfl,AA.ksNil _,AA.ksNil _⟩,d9⟩
end Go.Proofs.YtcnedkkcgdkioaaGreat
