/- Texts of this claim, put together: PA OA OB OC OF0. -/
import Derived.Test.YtcnedkkcgdkioaaGreatKBw
import Derived.WideKeyEntry

set_option maxRecDepth 100000
set_option maxHeartbeats 12800000
namespace Go.Proofs.YtcnedkkcgdkioaaGreat
open Go.RowKit
def VO {α:Type}(P:Program) (g:Nat) (lb:Array Value) (enc:α->Array Value) (R:List α->α->World->Prop) (S:List α->Prop) (f:World->Prop):Prop:=
 ∀(l:Nat) (J d:List α->World->Prop) (W:World),(∀p W,J p W->f W)->(∀p W a,J p W->Below W.heap.size W a->J p a)->
  (∀p x c,J p c->R p x c->YieldAt Fence.wide 0 P l (enc x) c fun e a=>(e = .returned (.bool true)/\J (p ++ [x]) a)\/(e = .returned (.bool false)/\d (p ++ [x]) a))->
  J [] W->
  CallsIn Fence.wide 0 P g (#[.func (.yield l) #[] #[]]++lb) W fun e a=>(∃v,e = .returned v)/\((∃xs,S xs/\J xs a)\/∃p,d p a)
theorem eN {P:Program}{α:Type}{g:Operand}{U:Array Tmp}{assign body:Code}{Q:Exit->Act->World->Prop}{a:Act}{w:World}
  {gf:Nat} {lb:Array Value} (hg:a.eval g = .func (.func gf) #[] lb) (eg:∀args w,(callFunc gf args).run P w = .ok (.enter gf args) w)
  {enc:α->Array Value} {R:List α->α->World->Prop} {S:List α->Prop} {Rd:World->Prop} (c6:VO P gf lb enc R S Rd)
  (c4:∀x,(enc x).size=U.size)
  (I:List α->World->Prop) (F:Code->List α->World->Prop) (V:∀(r:List α) (W:World) (k:Nat) (o o':Obj),w.heap.size<=k->Lo o'->I r W->W.heap[k]? = some o->Lo o->I r (W.putObj k o')) (N:∀(c:Code) (r:List α) (W:World) (k:Nat) (o o':Obj),w.heap.size<=k->Lo o'->F c r W->W.heap[k]? = some o->Lo o->F c r (W.putObj k o')) (X:∀(r:List α) (W W':World),I r W->Below W.heap.size W W'->I r W') (hR:∀(r:List α) (x:α) (W:World) (k:Nat) (o o':Obj),w.heap.size<=k->Lo o'->R r x W->W.heap[k]? = some o->Lo o->R r x (W.putObj k o'))
  (c5:∀r W,I r W->Rd W) (h0:I [] w) (t:α->Array Value->Array Value)
  (b7:∀(l:Nat) (x:α) (W:World) (K:Act->World->Prop),K { tmps:=t x a.tmps,defers:=[] } W->
   assign.wpIn (Fence.wide.inRound l) 0 P (Exit.then K (fun _ _ _=>False)) { tmps:=(U.zip (enc x)).foldl (fun t (p,v)=>t.setIfInBounds p v) a.tmps,defers:=[] } W)
  (b8:∀(l:Nat) (r:List α) (x:α) (W:World),I r W->R r x W->body.wpIn (Fence.wide.inRound l) 0 P (RU I F (r ++ [x]) W) { tmps:=t x a.tmps,defers:=[] } W)
  (b':∀(d:Nat) (xs:List α) (W:World),S xs->I xs W->w.heap.size<=d->W.heap[d]? = some (.deferred (some []))->Q .normal { a with defers:={ target:=.collected d,args:=#[] }::a.defers } W)
  (c7:∀(d:Nat) (c:Code) (r:List α) (W:World),F c r W->w.heap.size<=d->W.heap[d]? = some (.deferred (some []))->c.wpIn Fence.wide 0 P Q { a with defers:={ target:=.collected d,args:=#[] }::a.defers } W) :
  (Code.rangeFunc g U assign body).wpIn Fence.wide 0 P Q a w:=by
 refine wpIn_rangeFunc fun a2 _=>?_;obtain⟨d,hd⟩:=AF (w.heap.size);obtain⟨l,hl⟩:=AF (w.heap.size+1);obtain⟨f,s⟩:∃f:LoopState->Option Code->Loop,f=fun st pe=>{ state:=st,pending:=pe,fn:=a2,tmps:=a.tmps,params:=U,assign:=assign,body:=body,defers:=d }:=⟨_,rfl⟩;obtain⟨D,O⟩:=AB ((w.alloc (.deferred (some []))).alloc (.loop (f .ready none)))
 have c1:D.heap[l]? = some (.loop (f .ready none)):=by
  rw[<-O,hl];have:=World.alloc_heap_new (w.alloc (.deferred (some []))) (.loop (f .ready none));rwa [World.size_alloc] at this
 have b9:D.heap[d]? = some (.deferred (some [])):=by
  rw[<-O,hd];exact(Below.heap_alloc _ _ _ (by simp)).trans (World.alloc_heap_new w _)
 have T:d ≠ l:=by omega
 let a7:List α->World->Prop:=fun r W=>I r W/\W.heap[l]? = some (.loop (f .ready none))/\W.heap[d]? = some (.deferred (some []))
 let Jx:List α->World->Prop:=fun r W=>∃c,F c r W/\W.heap[l]? = some (.loop (f .done (some c)))/\W.heap[d]? = some (.deferred (some []))
 refine⟨l,[{ target:=.collected d,args:=#[] }],D,{ target:=.fn (.func gf) lb,args:=#[.func (.yield l) #[] #[]] },D,gf,#[.func (.yield l) #[] #[]]++lb,D,?_,?_,?_,?_,?_,?_⟩
 ·rw[<-O,s,hl,hd];exact run_enterLoop_outer _ _ _ _ _
 ·simp only[resolve,hg];simp[go_sem]
 ·intro f' d2;trivial
 ·simp[invoke,go_sem,eg]
 ·intro h;simp[Fence.wide] at h
 refine(c6 l a7 Jx D (fun r W h=>c5 r W h.1) (fun r W W' h Y=>⟨X r W W' h.1 Y,(Y.block _ (wD.1 h.2.1).1).trans h.2.1,(Y.block _ (wD.1 h.2.2).1).trans h.2.2⟩) ?_ ?_).mono ?_
 ·-- a round
  rintro r x W ⟨G,i,H⟩ b5;have c3:l < W.heap.size:=(wD.1 i).1;have hy:=run_yield (P:=P) (args:=enc x) i (by rw[s];exact c4 x);rw[s] at hy;refine⟨a2,_,assign,body,hy,roundIn_of_wpIn trivial (b7 l x W _ ⟨_,run_beginRound i (by rw[s]),?_⟩)⟩;obtain⟨W2,J⟩:∃W2,W2=W.putObj l (.loop { f .ready none with state:=.busy }):=⟨_,rfl⟩;have g7:W2.heap[l]? = some (.loop { f .ready none with state:=.busy }):=by rw[J];exact World.putObj_heap_same c3
  have g8:W2.heap[d]? = some (.deferred (some [])):=by rw[J];exact(World.putObj_heap_other T).trans H
  have gR:R r x W2:=by rw[J];exact hR r x W l _ _ (by omega) trivial b5 i trivial
  have gI:I r W2:=by rw[J];exact V r W l _ _ (by omega) trivial G i trivial
  rw[<-J];refine wpIn_mono (b8 l r x W2 gI gR) ?_
  have L:∀(j:Option Code) (e:World),BR W2 e->
    (Instr.endRound l j).run P e = .ok (.bool j.isNone) (e.putObj l (.loop (f (if j.isNone then .ready else .done) j)))/\
    (e.putObj l (.loop (f (if j.isNone then .ready else .done) j))).heap[l]? = some (.loop (f (if j.isNone then .ready else .done) j))/\
    (e.putObj l (.loop (f (if j.isNone then .ready else .done) j))).heap[d]? = some (.deferred (some []))/\e.heap[l]? = some (.loop { f .ready none with state:=.busy }):=by
   intro j e k1;have Z:=k1.objs l _ g7 trivial;have c2:l < e.heap.size:=(wD.1 Z).1;have u:=run_endRound (P:=P) j Z;exact⟨by rw[s] at u|-;exact u,World.putObj_heap_same c2,(World.putObj_heap_other T).trans (k1.objs d _ g8 trivial),Z⟩
  rintro a1 a3 e q;cases a1 with
  | normal=>
   obtain⟨y,z,A,C⟩:=L none e q.1;exact⟨_,_,y,.inl ⟨rfl,V _ e l _ _ (by omega) trivial q.2 C trivial,z,A⟩⟩
  | ret=>
   obtain⟨y,z,A,C⟩:=L (some .ret) e q.1;exact⟨_,_,y,.inr ⟨rfl,_,N _ _ e l _ _ (by omega) trivial q.2 C trivial,z,A⟩⟩
  | exit id=>
   obtain⟨y,z,A,C⟩:=L (some (.exit id)) e q.1;exact⟨_,_,y,.inr ⟨rfl,_,N _ _ e l _ _ (by omega) trivial q.2 C trivial,z,A⟩⟩
  | goto t=>
   obtain⟨y,z,A,C⟩:=L (some (.goto t)) e q.1;exact⟨_,_,y,.inr ⟨rfl,_,N _ _ e l _ _ (by omega) trivial q.2 C trivial,z,A⟩⟩
  | panic ch=>exact q.elim
  | outgrown=>exact q.elim
 ·refine⟨?_,c1,b9⟩;rw[<-O];exact X _ _ _ (X _ _ _ h0 ((wB _ w).alloc (wC _) _)) ((wB _ _).alloc (wC _) _)
 ·-- behind the iterator
  rintro a1 W2 ⟨⟨v,rfl⟩,(⟨xs,hS,G,i,H⟩|⟨r,c,G,i,H⟩)⟩
  ·have u:=run_endLoop (P:=P) i (by rw[s];simp);rw[s] at u;exact⟨none,_,u,b' d xs _ hS (V _ W2 l _ _ (by omega) trivial G i trivial) (by omega) ((World.putObj_heap_other T).trans H)⟩
  ·have u:=run_endLoop (P:=P) i (by rw[s];simp);rw[s] at u;exact⟨some c,_,u,c7 d c r _ (N c _ W2 l _ _ (by omega) trivial G i trivial) (by omega) ((World.putObj_heap_other T).trans H)⟩
theorem nX {w:World}{b:Nat}{x y:Int}(j:w.cell? ⟨b,0,none⟩=some (.int .i64 x)) (l:w.cell? ⟨b,1,none⟩=some (.int .i64 y)):Calls Tryz.prog 176 #[.slice (some ⟨b,0,none⟩) 2 2] w fun e w'=>e = .returned (.int .i64 (if x=0 then y else x))/\w'=w:=by
 by_cases h:x=0
 ·subst h;by_cases c:y=0
  ·subst c;rw[if_pos rfl];go_enter Tryz.func176, Tryz.ntmps176
   go_wp2_with fail
   go_loopw [8] (fun a wr=>∃i:Nat,a = .int .i64 i/\i<=2/\wr=w) (fun a _=>2 - (intOf a).toNat)
   case atStart=>exact⟨0,rfl,by omega,rfl⟩
   case round=>
    obtain⟨i,rfl,g,rfl⟩:=hrel;have d:i=0\/i=1\/i=2:=(by omega);rcases d with rfl|rfl|rfl
    ·go_wp2;go_roundw
     case rel=>exact⟨1,rfl,by omega,by first|rfl|trivial⟩
     case measure=>simp[intOf]
    ·go_wp2;go_roundw
     case rel=>exact⟨2,rfl,by omega,by first|rfl|trivial⟩
     case measure=>simp[intOf]
    ·go_wp2;go_ret;exact⟨rfl,rfl⟩
  ·have f:(y != 0)=true:=(by simpa using c);rw[if_pos rfl];replace c:=qH c;go_enter Tryz.func176, Tryz.ntmps176
   go_wp2_with fail
   go_loopw [8] (fun a wr=>∃i:Nat,a = .int .i64 i/\i<=1/\wr=w) (fun a _=>2 - (intOf a).toNat)
   case atStart=>exact⟨0,rfl,by omega,rfl⟩
   case round=>
    obtain⟨i,rfl,g,rfl⟩:=hrel;have d:i=0\/i=1:=(by omega);rcases d with rfl|rfl
    ·go_wp2;go_roundw
     case rel=>exact⟨1,rfl,by omega,by first|rfl|trivial⟩
     case measure=>simp[intOf]
    ·go_wp2;go_ret;exact⟨rfl,rfl⟩
 ·have f:(x != 0)=true:=by simpa using h
  rw[if_neg h];replace h:=qH h;go_enter Tryz.func176, Tryz.ntmps176
  go_wp2_with fail
  go_loopw [8] (fun a wr=>a = .int .i64 0/\wr=w) (fun _ _=>1)
  case atStart=>exact⟨rfl,rfl⟩
  case round=>
   obtain⟨rfl,rfl⟩:=hrel;go_wp2;go_ret;exact⟨rfl,rfl⟩
def EZ (x:List Int):Bool:=decide (0<=x.getD 0 0) && (decide (x.getD 0 0 < 8) && (decide (0<=x.getD 1 0) && decide (x.getD 1 0<=1048576)))
theorem TX (a b:Int):EZ [a,b]=(decide (0<=a) && (decide (a < 8) && (decide (0<=b) && decide (b<=1048576)))):=rfl
theorem oJ (a b:Int) (w:World):Calls Tryz.prog 110 #[.agg #[.int .i64 a,.int .i64 b]] w fun e w'=>e = .returned (.bool (EZ [a,b]))/\Below w.heap.size w w':=by
 rw[TX];obtain⟨l,W⟩:=AF (w.alloc (.cells #[.int .i64 a,.int .i64 b] 83));have i:Below w.heap.size w l:=by rw[W];exact(wB _ w).alloc (wC _) _
 have A:l.heap[w.heap.size]? = some (.cells #[.int .i64 a,.int .i64 b] 83):=by rw[W];exact wE _ _
 obtain⟨z,p⟩:=BA A;rw[W] at z p;clear A;by_cases h:0<=a
 ·by_cases d:a < 8
  ·by_cases g:0<=b
   ·have c:=vZ h;have f:=vZ d;have j:=vZ g;obtain⟨B,o⟩:=AB (decide (b<=1048576));rw[c,f,j,o];clear h d g;go_enter Tryz.func110, Tryz.ntmps110
    go_wp2;go_ret;rw[<-W];exact⟨by simp,i⟩
   ·have c:=vZ h;have f:=vZ d;have j:=vY g;rw[c,f,j];clear h d g;go_enter Tryz.func110, Tryz.ntmps110
    go_wp2;go_ret;rw[<-W];exact⟨rfl,i⟩
  ·have c:=vZ h;have f:=vY d;rw[c,f];clear h d;go_enter Tryz.func110, Tryz.ntmps110
   go_wp2;go_ret;rw[<-W];exact⟨rfl,i⟩
 ·have c:=vY h;rw[c];clear h;go_enter Tryz.func110, Tryz.ntmps110
  go_wp2;go_ret;rw[<-W];exact⟨rfl,i⟩
def aY:List Oper:=[⟨some 5,.fieldAddr 83 (.tmp 2) 0,0,"simplex.go:14",#[],none⟩,⟨some 6,.load 3 (.tmp 5),3,"simplex.go:14",#[⟨0,.data⟩],none⟩,⟨some 7,.fieldAddr 83 (.tmp 3) 0,0,"simplex.go:14",#[],none⟩,⟨some 8,.load 3 (.tmp 7),3,"simplex.go:14",#[⟨2,.data⟩],none⟩,⟨some 9,.call { callee:=.value (.func 177),args:=#[.tmp 6,.tmp 8],argTypes:=#[3,3] },3,"simplex.go:14",#[⟨1,.data⟩,⟨3,.data⟩],none⟩,⟨some 10,.fieldAddr 83 (.tmp 2) 1,0,"simplex.go:14",#[],none⟩,⟨some 11,.load 3 (.tmp 10),3,"simplex.go:14",#[⟨5,.data⟩],none⟩,⟨some 12,.fieldAddr 83 (.tmp 3) 1,0,"simplex.go:14",#[],none⟩,⟨some 13,.load 3 (.tmp 12),3,"simplex.go:14",#[⟨7,.data⟩],none⟩,⟨some 14,.call { callee:=.value (.func 177),args:=#[.tmp 11,.tmp 13],argTypes:=#[3,3] },3,"simplex.go:14",#[⟨6,.data⟩,⟨8,.data⟩,⟨4,.chain⟩],none⟩,⟨some 15,.buildSlice 48 2 #[(0,.tmp 9),(1,.tmp 14)],48,"simplex.go:14",#[⟨4,.data⟩,⟨9,.data⟩],none⟩,⟨some 16,.call { callee:=.value (.func 176),args:=#[.tmp 15],argTypes:=#[48] },3,"simplex.go:14",#[⟨10,.data⟩,⟨9,.chain⟩],none⟩,⟨some 4,.assign (.tmp 16),3,"simplex.go:14",#[⟨11,.data⟩,⟨11,.chain⟩,⟨0,.phase⟩,⟨1,.phase⟩,⟨2,.phase⟩,⟨3,.phase⟩,⟨4,.phase⟩,⟨5,.phase⟩,⟨6,.phase⟩,⟨7,.phase⟩,⟨8,.phase⟩,⟨9,.phase⟩,⟨10,.phase⟩,⟨11,.phase⟩],none⟩]
theorem rO {w:World}{s t U V X Y Z x9 H I J L N O T:Value}{Q:Exit->Act->World->Prop}{b2 r:Nat}{a b c d:Int}
  (p0:w.cell? ⟨b2,0,none⟩=some (.int .i64 a)) (p1:w.cell? ⟨b2,1,none⟩=some (.int .i64 b)) (q0:w.cell? ⟨r,0,none⟩=some (.int .i64 c)) (q1:w.cell? ⟨r,1,none⟩=some (.int .i64 d))
  (a2:∀(u:Value) (W:World),(Below w.heap.size w W/\w.drawn<=W.drawn)->(∃g,u = .slice (some ⟨g,0,none⟩) 2 2/\W.heap[g]? = some (.cells #[.int .i64 (AU a c),.int .i64 (AU b d)] 3))->Q .normal ⟨#[s,t,.pointer (some ⟨b2,0,none⟩),.pointer (some ⟨r,0,none⟩),.int .i64 (if AU a c=0 then AU b d else AU a c),.pointer (some ⟨b2,0,none⟩),.int .i64 a,.pointer (some ⟨r,0,none⟩),.int .i64 c,.int .i64 (AU a c),.pointer (some ⟨b2,1,none⟩),.int .i64 b,.pointer (some ⟨r,1,none⟩),.int .i64 d,.int .i64 (AU b d),u,.int .i64 (if AU a c=0 then AU b d else AU a c)],[]⟩ W) :
  (Code.region 1 aY.toArray true).wp Tryz.prog Q ⟨#[s,t,.pointer (some ⟨b2,0,none⟩),.pointer (some ⟨r,0,none⟩),U,V,X,Y,Z,x9,H,I,J,L,N,O,T],[]⟩ w:=by
 refine GB (l:=aY) (F:=(fun y=>⟨#[s,t,.pointer (some ⟨b2,0,none⟩),.pointer (some ⟨r,0,none⟩),y 12,y 0,y 1,y 2,y 3,y 4,y 5,y 6,y 7,y 8,y 9,y 10,y 11],[]⟩)) (Φ:=[AI (.pointer (some ⟨b2,0,none⟩)),AI (.int .i64 a),AI (.pointer (some ⟨r,0,none⟩)),AI (.int .i64 c),AI (.int .i64 (AU a c)),AI (.pointer (some ⟨b2,1,none⟩)),AI (.int .i64 b),AI (.pointer (some ⟨r,1,none⟩)),AI (.int .i64 d),AI (.int .i64 (AU b d)),fun W v=>∃g,v = .slice (some ⟨g,0,none⟩) 2 2/\W.heap[g]? = some (.cells #[.int .i64 (AU a c),.int .i64 (AU b d)] 3),AI (.int .i64 (if AU a c=0 then AU b d else AU a c)),AI (.int .i64 (if AU a c=0 then AU b d else AU a c))]) (R:=(fun W z=>Below W.heap.size W z)) (G:=(fun _ _ W=>Below w.heap.size w W/\w.drawn<=W.drawn)) ⟨?s0,?s1,?s2,?s3,?s4,?s5,?s6,?s7,?s8,?s9,?s10,?s11,?s12,trivial⟩ (fun a3=>([V,X,Y,Z,x9,H,I,J,L,N,O,T,U]:List Value).getD a3 undef) (by kernel_rfl) (by kernel_rfl) ⟨sE,sE,sE,sE,sE,sE,sE,sE,sE,sE,fun W z v ⟨g,e,h⟩ a8=>⟨g,e,AN a8 h⟩,sE,sE,trivial⟩ ?g0 ?gx ?fin
 case s0|s2|s5|s7=>
  refine .q0 (CE rfl) (fun _=>wB _ _) (fun _ _ _ h=>h) (fun _=>rfl) fun y W K j=>?_;go_simp;exact j
 case s1=>
  refine AL.mk rfl (AD 0 fun y0=>fun y D W K _ _ o i j=>?_);obtain rfl:=(o.get 0 rfl).2;dsimp [AJ]
  obtain⟨f,p⟩:=i;have c:=AC f p0;go_simp;exact j _ _ (wB _ _) ⟨f,p⟩ rfl
 case s3=>
  refine AL.mk rfl (AD 2 fun y2=>fun y D W K _ _ o i j=>?_);obtain rfl:=(o.get 2 rfl).2;dsimp [AJ]
  obtain⟨f,p⟩:=i;have c:=AC f q0;go_simp;exact j _ _ (wB _ _) ⟨f,p⟩ rfl
 case s4=>
  refine AL.mk rfl (AD 1 fun y1=>AD 3 fun y3=>fun y D W K _ _ o i j=>?_);obtain rfl:=(o.get 1 rfl).2;obtain rfl:=(o.get 3 rfl).2;dsimp [AJ]
  obtain⟨f,p⟩:=i;go_simp;refine(MW a c W).mono ?_;rintro e A ⟨rfl,rfl⟩;exact j _ _ (wB _ _) ⟨f,p⟩ rfl
 case s6=>
  refine AL.mk rfl (AD 5 fun y5=>fun y D W K _ _ o i j=>?_);obtain rfl:=(o.get 5 rfl).2;dsimp [AJ]
  obtain⟨f,p⟩:=i;have c:=AC f p1;go_simp;exact j _ _ (wB _ _) ⟨f,p⟩ rfl
 case s8=>
  refine AL.mk rfl (AD 7 fun y7=>fun y D W K _ _ o i j=>?_);obtain rfl:=(o.get 7 rfl).2;dsimp [AJ]
  obtain⟨f,p⟩:=i;have c:=AC f q1;go_simp;exact j _ _ (wB _ _) ⟨f,p⟩ rfl
 case s9=>
  refine AL.mk rfl (AD 6 fun y6=>AD 8 fun y8=>fun y D W K _ _ o i j=>?_);obtain rfl:=(o.get 6 rfl).2;obtain rfl:=(o.get 8 rfl).2;dsimp [AJ]
  obtain⟨f,p⟩:=i;go_simp;refine(MW b d W).mono ?_;rintro e A ⟨rfl,rfl⟩;exact j _ _ (wB _ _) ⟨f,p⟩ rfl
 case s10=>
  refine AL.mk rfl (AD 4 fun y4=>AD 9 fun y9=>fun y D W K _ _ o i j=>?_);obtain rfl:=(o.get 4 rfl).2;obtain rfl:=(o.get 9 rfl).2;dsimp [AJ]
  obtain⟨f,p⟩:=i;go_simp;exact j _ _ ((wB _ W).alloc (wC _) _) ⟨btt f ((wB _ W).alloc (wC _) _),p⟩ ⟨_,rfl,wE W _⟩
 case s11=>
  refine AL.mk rfl (AD 10 fun u=>fun y D W K _ _ o i j=>?_);have ⟨b1,C⟩:=o.get 10 rfl;dsimp [AJ]
  obtain⟨g,C,a1⟩:=(o.get 10 rfl).2;subst C;obtain⟨f,p⟩:=i;obtain⟨z0,z1⟩:=BA a1;go_simp;refine(nX z0 z1).mono ?_;rintro e A ⟨rfl,rfl⟩;exact j _ _ (wB _ _) ⟨f,p⟩ rfl
 case s12=>
  refine .q1 (CE rfl) (fun _=>wB _ _) (fun _ _ _ h=>h) (fun _=>rfl) rfl (fun _ _ h=>h) fun y W K j=>?_;dsimp [AJ]
  go_simp;exact j
 case g0=>exact⟨wH (wB _ w) 1,Nat.le_add_right _ _⟩
 case gx=>exact fun D D' y W h i=>i
 case fin=>
  intro y W i q;try dsimp only
  rw[(AG q 0:y 0=_),(AG q 1:y 1=_),(AG q 2:y 2=_),(AG q 3:y 3=_),(AG q 4:y 4=_),(AG q 5:y 5=_),(AG q 6:y 6=_),(AG q 7:y 7=_),(AG q 8:y 8=_),(AG q 9:y 9=_),(AG q 11:y 11=_),(AG q 12:y 12=_)];exact a2 (y 10) W i (AG q 10)
theorem BZ {x:List Int}(h:x.length=2):∃a b,x = [a,b]:=by
 match x,h with
 | [a,b],_=>exact⟨a,b,rfl⟩
theorem CI.all2 {w:World}{b o:Nat}{a c:Int}(h:CI w b o [a,c]):w.cell? ⟨b,o,none⟩=some (.int .i64 a)/\w.cell? ⟨b,o+1,none⟩=some (.int .i64 c):=
 ⟨h 0 (by simp),h 1 (by simp)⟩
theorem jB (d:Nat) (a b c e:Int) (w:World):(Op.equalIn (d+2) 83 (.agg #[.int .i64 a,.int .i64 b]) (.agg #[.int .i64 c,.int .i64 e])).run Tryz.prog w = .ok (BI [a,b] [c,e]) w:=by
 have u3:=Tryz.underlying3;have f:=Tryz.isAgg3;have z:=Tryz.sizeOf3;have h : Tryz.prog.underlying 83=some (.struct (Tryz.prog.fieldsOf 83)):=by kernel_rfl
 have p : Tryz.prog.stoodInHeld 83=false:=by kernel_rfl
 rw[show d+2=(d+1)+1 from rfl,run_equalIn_agg w (d+1) 83 _ _ h p];simp only[Program.fieldsOf,Tryz.underlying83];go_simp;by_cases g:a=c<;>by_cases i:b=e<;>simp_all [BI]
@[go_sem high] theorem vV (a b c d:Int) (w:World):(Op.equalIn 10000 83 (.agg #[.int .i64 a,.int .i64 b]) (.agg #[.int .i64 c,.int .i64 d])).run Tryz.prog w = .ok (BI [a,b] [c,d]) w:=jB 9998 a b c d w
theorem XC (a b c d:Int):AH [a,b] [c,d]=if AU a c=0 then AU b d else AU a c:=by
 by_cases h:AU a c=0
 ·rw[if_pos h,JA h];by_cases k:AU b d=0
  ·rw[JA k,k];rfl
  ·rw[GP k]
 ·rw[if_neg h,GP h]
theorem bF (a b c d:Int) (w:World):Calls Tryz.prog 111 #[.agg #[.int .i64 a,.int .i64 b],.agg #[.int .i64 c,.int .i64 d]] w fun e w'=>e = .returned (.int .i64 (AH [a,b] [c,d]))/\Below w.heap.size w w'/\w.drawn<=w'.drawn:=by
 obtain⟨W,h⟩:=AF ((w.alloc (.cells #[.int .i64 a,.int .i64 b] 83)).alloc (.cells #[.int .i64 c,.int .i64 d] 83));have i:Below w.heap.size w W:=by rw[h];exact((wB _ w).alloc (wC _) _).alloc (by simp) _
 have r:Hid (w.drawn=W.drawn):=by show _=_;rw[h];rfl
 have j:W.heap[w.heap.size]? = some (.cells #[.int .i64 a,.int .i64 b] 83):=by
  rw[h];exact(Below.heap_alloc _ _ _ (by simp)).trans (wE w _)
 have l:W.heap[w.heap.size+1]? = some (.cells #[.int .i64 c,.int .i64 d] 83):=by
  rw[h];have:=wE (w.alloc (.cells #[.int .i64 a,.int .i64 b] 83)) (.cells #[.int .i64 c,.int .i64 d] 83)
  rwa [World.size_alloc] at this
 have A:=qH (BA j);have g:=qH (BA l);clear j l;rw[XC];obtain⟨E,f⟩:∃E,(if AU a c=0 then AU b d else AU a c)=E:=⟨_,rfl⟩;have q:=qH f;rw[f];clear f;go_enter Tryz.func111, Tryz.ntmps111
 go_upto_region 1 with fail
 rw[<-h];replace h:=qH h;refine rO (a:=a) (b:=b) (c:=c) (d:=d) A.out.1 A.out.2 g.out.1 g.out.2 ?_;rintro y W2 ⟨o,p⟩ -;rw[q.out];have s:=i.size;go_wp2;go_ret;exact⟨rfl,i.trans (o.mono s),by rw[r.out];exact p⟩
def DW:List Int->Jb->Int
 | _,[]=>0
 | p,x::r=>if EZ x=false then 2 else if 0<=AH p x then 14 else DW x r
def CX (s:Jb):Int:=
 if s.length=0 then 16 else if 8 < s.length then 5 else
 match s with
 | []=>0
 | x::r=>if EZ x=false then 2 else DW x r
theorem NW {w:World}{v:Value}{s:Jb}(h:KS 2 w v s):Calls Tryz.prog 61 #[v] w fun e w'=>e = .returned (.int .i64 (CX s))/\Below w.heap.size w w':=by
 have b2 : Tryz.prog.follows .mixedOrders=true:=by kernel_rfl
 obtain⟨va,vc,vb,vo,rfl,ha,D,-⟩:=h;by_cases o:s.length=0
 ·have j:CX s=16:=by unfold CX;rw[if_pos o]
  rw[j,o];clear j D;go_enter Tryz.func61, Tryz.ntmps61
  go_wp2;go_ret;exact⟨rfl,wB _ w⟩
 by_cases I:8 < s.length
 ·have j:CX s=5:=by unfold CX;rw[if_neg o,if_pos I]
  have d1:((s.length:Int) == 0)=false:=by simpa using o
  have d2:decide ((8:Int) < (s.length:Int))=true:=vZ (by omega);rw[j];clear j D;go_enter Tryz.func61, Tryz.ntmps61
  go_wp2;go_ret;exact⟨rfl,wB _ w⟩
 obtain rfl:=ha (by omega);obtain⟨n,u⟩:=AB (s.length);have d1:((n:Int) == 0)=false:=by simp;omega
 have d2:decide ((8:Int) < (n:Int))=false:=vY (by omega);obtain⟨E,j⟩:=AB (CX s)
 have b4:Hid ((if EZ (s.getD 0 [])=false then (2:Int) else DW (s.getD 0 []) (s.drop 1))=E):=by
  show _=_;rw[<-j];unfold CX;rw[if_neg o,if_neg I];cases s with
  | nil=>exact absurd rfl o
  | cons x d9=>rfl
 have d0:Hid (∀i,i < n->DW (s.getD (i - 1) []) (s.drop i)=if EZ (s.getD i [])=false then 2 else if 0<=AH (s.getD (i - 1) []) (s.getD i []) then 14 else DW (s.getD i []) (s.drop (i+1))):=fun i R=>by
  have e:s.getD i []=s[i]'(by rw[u];exact R):=AK (by rw[u];exact R) [];rw[List.drop_eq_getElem_cons (by omega),DW,e]
 have c5:Hid (DW (s.getD (n - 1) []) (s.drop n)=0):=by
  show _=_;rw[List.drop_eq_nil_of_le (by omega),DW]
 have b0:=qH D;have b3:=qH u;rw[j,u];have c6:0 < n:=by omega
 have d7:n<=8:=by omega
 replace j:=qH j;clear D u o I;go_enter Tryz.func61, Tryz.ntmps61
 go_wp2_with fail
 go_loopw [15] (fun X wr=>∃i:Nat,X = .int .i64 i/\i<=n/\Hid (0 < i->DW (s.getD (i - 1) []) (s.drop i)=E)/\Below w.heap.size w wr) (fun X _=>n - (intOf X).toNat)
 case atStart=>exact⟨0,rfl,by omega,fun h=>absurd h (Nat.lt_irrefl _),wB _ w⟩
 case round=>
  obtain⟨i,rfl,R,t,A⟩:=hrel;by_cases b1:i < n
  ·have d6:(i:Int) < (n:Int):=(by omega);obtain⟨x2,xi⟩:=b0.out i (by rw[b3.out];exact b1);obtain⟨x,l⟩:=AB (s.getD i []);rw[l] at x2 xi;have d:=d0.out i b1;rw[l] at d;obtain⟨a,b,rfl⟩:=BZ x2;obtain⟨F,G⟩:=xi.all2;replace F:=AC A F;replace G:=AC A G;clear xi x2;obtain⟨W2,f⟩:=AF (wr.alloc (.cells #[.int .i64 a,.int .i64 b] 83));have c4:Below wr.heap.size wr W2:=(by rw[f];exact(wB _ _).alloc (wC _) _);have Y:W2.heap[wr.heap.size]? = some (.cells #[.int .i64 a,.int .i64 b] 83):=(by rw[f];exact wE _ _);have b6:=qH (fun W (y:Below W2.heap.size W2 W)=>BA (AN y Y));obtain⟨z0,z1⟩:=BA Y;rw[f] at z0 z1;have L:=btt A c4;clear Y;obtain⟨B,p⟩:=AB (EZ [a,b]);have H:=fun W=>oJ a b W;rw[p] at H d;replace H:=qH H;cases B
   ·have b':Hid (E=2):=by
     show _=_;rw[if_pos rfl] at d;rcases Nat.eq_zero_or_pos i with h|h
     ·subst h;have:=b4.out
      rw[l,p,if_pos rfl] at this;exact this.symm
     ·exact(t.out h).symm.trans d
    clear l p d;go_wp2_with fail
    rw[<-f];replace f:=qH f;refine(H.out W2).mono ?_;rintro e w3 ⟨rfl,q⟩;go_wp2;go_ret;exact⟨by rw[b'.out];rfl,btt L q⟩
   ·rw[if_neg (by decide)] at d;rcases Nat.eq_zero_or_pos i with h|h
    ·have U:Hid (0 < i+1->DW (s.getD (i+1 - 1) []) (s.drop (i+1))=E):=fun _=>by
      have:=b4.out
      subst h;rw[l,p,if_neg (by decide)] at this;rw[show 0+1 - 1=0 from rfl,l];exact this
     have c':decide ((0:Int) < (i:Int))=false:=vY (by omega);have c9 : ¬0 < i:=(by omega);replace h:=qH h;clear l p d;go_wp2_with fail
     rw[<-f];replace f:=qH f;refine(H.out W2).mono ?_;rintro e w3 ⟨rfl,q⟩;go_wp2_with fail
     refine CW b2 (by kernel_rfl) ?_
     repeat (refine WQ.step fun K c=>?_;go_simp;first|(refine c _ ?_;clear c K)|(apply Exists.intro;refine⟨fun r g=>?_,c _ ?_⟩;(·(first|with_reducible rfl|(go_simp;first|done|with_reducible rfl|with_reducible exact⟨rfl,rfl⟩)));clear c K))
     refine WQ.nil ?_;intro w4 z;go_wp2_with fail
     go_roundw
     case rel=>exact⟨i+1,by go_num,by omega,U,btt (btt L q) z⟩
     case measure=>simp[intOf];omega
    ·obtain⟨y2,yi⟩:=b0.out (i - 1) (by rw[b3.out];omega);obtain⟨e3,V⟩:=AB (s.getD (i - 1) []);rw[V] at y2 yi d;obtain⟨a8,a9,rfl⟩:=BZ y2;have Q:=t.out h;rw[V] at Q;rw[Q] at d;obtain⟨Z,q1⟩:=yi.all2;have a7:=qH (fun W (y:Below w.heap.size w W)=>And.intro (AC y Z) (AC y q1));have O:=fun W=>bF a8 a9 a b W;obtain⟨b7,hZ⟩:=AB (AH [a8,a9] [a,b]);rw[hZ] at O d;replace O:=qH O;have d3:IntKind.i64.wrap ((i:Int) - 1)=((i - 1:Nat):Int):=(by rw[show(i:Int) - 1=((i - 1:Nat):Int) by omega];exact IntWalk.i64_in _ (by omega));have c':decide ((0:Int) < (i:Int))=true:=vZ (by omega);have c9:0 < i:=h;have c7:((i - 1:Nat):Int) < (n:Int):=(by omega);have c8:(0:Int)<=((i - 1:Nat):Int):=Int.natCast_nonneg _;obtain⟨d8,T⟩:=AB (i - 1);rw[T] at a7 d3 c7 c8;replace T:=qH T;obtain⟨C,g⟩:=AB (decide (0<=b7))
     have U:Hid (C=false->0 < i+1->DW (s.getD (i+1 - 1) []) (s.drop (i+1))=E):=fun J _=>by
      rw[Nat.add_sub_cancel,l,d,if_neg (of_decide_eq_false (g.trans J))]
     have c0:Hid (C=true->E=14):=fun J=>by
      rw[d,if_pos (of_decide_eq_true (g.trans J))]
     have d5:=qH h;clear l p d hZ V Q Z q1 yi y2 t h;go_wp2_with fail
     rw[<-f];replace f:=qH f;refine(H.out W2).mono ?_;rintro e w3 ⟨rfl,q⟩;go_wp2_with fail
     refine CW b2 (by kernel_rfl) ?_;have N:=btt L q;clear z0 z1 F G
     repeat (refine WQ.step fun K c=>?_;go_simp;first|(refine c _ ?_;clear c K)|(apply Exists.intro;refine⟨fun r g=>?_,c _ ?_⟩;(·(first|with_reducible rfl|(obtain⟨Z,q1⟩:=a7.out r (btt N g);obtain⟨z0,z1⟩:=b6.out r (btt q g);go_simp;first|done|with_reducible rfl|with_reducible exact⟨rfl,rfl⟩)));clear c K))
     (refine WQ.step fun K c=>?_;go_simp;first|(refine c _ ?_;clear c K)|(apply Exists.intro;refine⟨fun r g=>?_,c _ ?_⟩;(·(refine(O.out r).mono ?_;rintro e w' ⟨rfl,c3,-⟩;exact⟨rfl,btt g c3⟩));clear c K))
     repeat (refine WQ.step fun K c=>?_;go_simp;first|(refine c _ ?_;clear c K)|(apply Exists.intro;refine⟨fun r g=>?_,c _ ?_⟩;(·(first|with_reducible rfl|(go_simp;first|done|with_reducible rfl|with_reducible exact⟨rfl,rfl⟩)));clear c K))
     refine WQ.nil ?_;intro w4 z;clear g;cases C
     ·go_wp2_with fail
      go_roundw
      case rel=>exact⟨i+1,by go_num,by omega,U.out (by first|rfl|trivial),btt N z⟩
      case measure=>simp[intOf];omega
     ·go_wp2;go_ret;exact⟨by rw[c0.out (by first|rfl|trivial)];rfl,btt N z⟩
  ·obtain rfl:i=n:=(by omega);have c1:Hid (E=0):=(by show _=_;rw[<-t.out c6];exact c5.out);clear t;go_wp2;go_ret;exact⟨by rw[c1.out];rfl,A⟩
end Go.Proofs.YtcnedkkcgdkioaaGreat
namespace Go.Proofs.YtcnedkkcgdkioaaGreat
open Go.RowKit Go.ChangeMaps Go.MapKept Go.WideMaps
section
variable {α:Type} {E:TypeId} {k:Nat} {El:World->List Value->α->Prop} {B n:Nat} {v:Value} {xs:List α}
theorem VE {P:Program}{T:TypeId}{z:Value}{bytes:Nat}(t:EA P T E z k bytes) (F:bytes<=128) (J:0 < k) (D:CP E El) {w:World}{cs:List Value}{x:α}{p:Array Oper}{r:List Oper}{o:Oper}{a:Act}{Q:Exit->Act->World->Prop}(I:o.guard=none) (s y:Operand)
  (O:o.op = .call { callee:=.builtin .append,args:=#[s,y],argTypes:=#[T,T] }) (hs:a.eval s=v) (R:AA E k El w B v n xs) (d:Addr) (c:Nat) (U:a.eval y = .slice (some d) 1 c) (H:cs.length=k)
  (N:∀j u,cs[j]? = some u->w.cell? (d.add j)=some u) (G:∀u∈cs,u.oneCell'=true) (A:El w cs x) (L:n<=1000000000000) (q:B<=w.heap.size)
  (h:∀v' w',AA E k El w' B v' (n+1) (xs ++ [x])->w.grownBy w' v.ownBlock->IW w v v'->Below B w w'->AE E w w'->wpList P p Q r (a.put o.dst v') w'):wpList P p Q (o::r) a w:=
 wpList_plain I fun _ C=>KF t F J D s y O hs R d c U H N G A L q fun v' w' e f g i l=>C _ _ (h v' w' e f g i l)
end
theorem JK.ne {u v:Value}(h:JK u v):u.ownBlock=none\/u.ownBlock ≠ v.ownBlock:=by
 cases c:u.ownBlock with
 | none=>exact .inl rfl
 | some a=>exact .inr fun e=>h a a c e.symm rfl
theorem OI.kept {w w':World}{row:Option Nat}{B:Nat}{v:Value}{n:Nat}{xs:List Int}(h:OI w B v n xs) (g:w.grownBy w' row) (e:v.ownBlock=none\/v.ownBlock ≠ row):OI w' B v n xs:=World.ownsRow.kept h g e
theorem dD {w:World}{b k:Nat}(o:Obj) (h:k ≠ b):(setBlock w b o).heap[k]? = w.heap[k]?:=by
 simp only[setBlock];rw[Array.getElem?_setIfInBounds_ne (by omega)]
theorem QG {E:TypeId}{w:World}{b:Nat}{s:Array MapEntry}{c:Nat}(h:w.heap[b]? = some (.map s c)) (o:Obj):AE E w (setBlock w b o):=fun k d t a _=>by
 refine dD o fun e=>?_;subst e;rw[a] at h;cases h
section
variable {κ:Type}
def MS (kv:κ->Value) (w:World) (b:Nat) (m:List (κ × Value)):Prop:=
 ∃s c,w.heap[b]? = some (.map s c)/\s.toList.map (fun e=>(e.key,e.val))=m.map (fun p=>(kv p.1,p.2))/\(s.toList.map (·.born)).Nodup/\∀e∈s.toList,e.born < c
variable {P:Program} {K E M:TypeId} {kv:κ->Value} {S:κ->Prop} {m:List (κ × Value)} {x:κ} {w:World} {b:Nat}
theorem MS.mx (h:MS kv w b m):MX kv (id:Value->Value) w b m:=by
 obtain⟨e,c,a,d,_⟩:=h;exact⟨e,c,a,d⟩
theorem MS.lt (h:MS kv w b m):b < w.heap.size:=h.mx.lt
theorem MS.keep {w':World}(h:MS kv w b m) (f:w'.heap[b]? = w.heap[b]?):MS kv w' b m:=by
 obtain⟨e,c,a,d⟩:=h;exact⟨e,c,f.trans a,d⟩
theorem MS.made (w:World):MS kv (w.alloc (.map #[] 0)) w.heap.size []:=⟨#[],0,wE w _,rfl,by simp,by simp⟩
theorem MS.entry {z:Value}(X:KI P K kv S) (Z:P.underlying M=some (.map K E)) (hz:∀u:World,(zeroValue E).run P u = .ok z u) (h:MS kv w b m) (hm:∀p∈m,S p.1) (hx:S x) :
  ∃(V:Value) (U:Nat) (J:Array MapEntry) (I:Nat),(Instr.mapEntry M (.map (some b)) (kv x)).run P w = .ok (.tuple #[V,goInt U]) (setBlock w b (.map J I))/\
   ((x ∉ m.map Prod.fst/\V=z/\∀(d:World) (val:Value),d.heap[b]? = some (.map J I)->∃t q,(Instr.entryStore M (.map (some b)) (goInt U) val).run P d = .ok () (setBlock d b (.map t q))/\MS kv (setBlock d b (.map t q)) b (m ++ [(x,val)]))\/
    (∃j,m[j]? = some (x,V)/\∀(d:World) (val:Value),d.heap[b]? = some (.map J I)->∃t q,(Instr.entryStore M (.map (some b)) (goInt U) val).run P d = .ok () (setBlock d b (.map t q))/\MS kv (setBlock d b (.map t q)) b (m.set j (x,val)))):=by
 obtain⟨s,o,F,G,H,D⟩:=h;obtain⟨lx,a0⟩:=X.has x hx;have i:=X.law.check w false a0;have a6:=MX.find (vv:=(id:Value->Value)) X hm hx G w;rcases a6 with⟨W,L⟩|⟨j,v,W,L,Y⟩
 ·refine⟨z,o,s.push ⟨kv x,z,o⟩,o+1,?_,.inl ⟨W,rfl,fun d val g=>⟨s.push ⟨kv x,val,o⟩,o+1,?_,_,_,heap_setBlock_same g _,?_,?_,?_⟩⟩⟩
  ·simp[Instr.mapEntry,run_underlying Z,MapKept.run_getObj_map F,i,L,hz,MapKept.run_setObj_map _ F,Result.andThen,setBlock]
  ·have O:(s.push ⟨kv x,z,o⟩).findIdx? (fun e=>((e.born:Nat):Int) == ((o:Nat):Int))=some s.size:=by
    rw[Go.WideElems.findIdx_arr]
    exact Go.WideElems.findIdx_born (l:=(s.push ⟨kv x,z,o⟩).toList) (j:=s.size) (e0:=⟨kv x,z,o⟩) (by
     simp only[Array.toList_push,List.map_append,List.map_cons,List.map_nil];refine List.nodup_append.2 ⟨H,by simp,fun a2 N a3 i e1=>?_⟩;simp only[List.mem_singleton] at i;obtain⟨y,T,rfl⟩:=List.mem_map.1 N;have:=D y T
     omega) (by simp)
   have Q:(s.push ⟨kv x,z,o⟩).modify s.size (fun e=>{ e with val:=val })=s.push ⟨kv x,val,o⟩:=by
    apply Array.ext'
    rw[Array.toList_modify,Array.toList_push,Array.toList_push,<-Array.length_toList,Go.WideElems.modify_last]
   simp[Instr.entryStore,MapKept.run_getObj_map g,asInt,asIntOf,goInt,O,Q,MapKept.run_setObj_map _ g,Result.andThen,setBlock]
  ·rw[Array.toList_push,List.map_append,G,List.map_append];rfl
  ·rw[Array.toList_push,List.map_append];refine List.nodup_append.2 ⟨H,by simp,fun a2 N a3 i e1=>?_⟩;simp only[List.map_cons,List.map_nil,List.mem_singleton] at i;obtain⟨y,T,rfl⟩:=List.mem_map.1 N;have:=D y T
   omega
  ·intro e c;rw[Array.toList_push] at c;rcases List.mem_append.1 c with c|c
   ·have:=D e c;omega
   ·obtain rfl:=List.mem_singleton.1 c;exact Nat.lt_succ_self _
 ·have C:(s.toList.map (fun e:MapEntry=>(e.key,e.val)))[j]? = some (kv x,v):=by rw[G,List.getElem?_map,Y];rfl
  rw[List.getElem?_map] at C
  obtain⟨a,f,A⟩:∃a,s.toList[j]? = some a/\(a.key,a.val)=(kv x,v):=by
   cases c:s.toList[j]? with
   | none=>rw[c] at C;cases C
   | some a=>rw[c] at C;exact⟨a,rfl,Option.some.inj C⟩
  injection A with A h6;have hj:s[j]? = some a:=by simpa using f
  have a9:s.modify j (fun e=>{ e with key:=kv x })=s:=by
   apply Array.ext'
   rw[Array.toList_modify,modify_eq_set _ _ _ _ f];have:({ a with key:=kv x }:MapEntry)=a:=by rw[<-A]
   rw[this];exact Go.WideElems.set_self _ _ _ f
  have R:∀val,(s.modify j (fun r=>{ r with key:=kv x,val:=val })).toList=s.toList.set j { a with key:=kv x,val:=val }:=fun val=>by
   rw[Array.toList_modify,modify_eq_set _ _ _ _ f]
  refine⟨v,a.born,s,o,?_,.inr ⟨j,Y,fun d val g=>⟨s.modify j (fun r=>{ r with key:=kv x,val:=val }),o,?_,_,_,heap_setBlock_same g _,?_,?_,?_⟩⟩⟩
  ·have a5:(Instr.findKey K (kv x) s.toList).run P w = .ok (some (j,v)) w:=L;simp[Instr.mapEntry,run_underlying Z,MapKept.run_getObj_map F,i,a5,hj,A,X.law.stays w a0,a9,MapKept.run_setObj_map _ F,Result.andThen,setBlock]
  ·have O:s.findIdx? (fun e=>((e.born:Nat):Int) == ((a.born:Nat):Int))=some j:=by
    rw[Go.WideElems.findIdx_arr];exact Go.WideElems.findIdx_born H f
   have Q:s.modify j (fun e=>{ e with val:=val })=s.modify j (fun r=>{ r with key:=kv x,val:=val }):=by
    apply Array.ext'
    rw[Array.toList_modify,Array.toList_modify,modify_eq_set _ _ _ _ f,modify_eq_set _ _ _ _ f,<-A]
   simp[Instr.entryStore,MapKept.run_getObj_map g,asInt,asIntOf,goInt,O,Q,MapKept.run_setObj_map _ g,Result.andThen,setBlock]
  ·rw[R,List.map_set,G,List.map_set]
  ·rw[R,List.map_set];have:(s.toList.map (·.born)).set j a.born=s.toList.map (·.born):=Go.WideElems.set_self _ _ _ (by rw[List.getElem?_map,f];rfl)
   rw[this];exact H
  ·intro e c;rw[R] at c;rcases List.mem_or_eq_of_mem_set c with c|rfl
   ·exact D e c
   ·exact D a (List.mem_of_getElem? f)
end
end Go.Proofs.YtcnedkkcgdkioaaGreat
