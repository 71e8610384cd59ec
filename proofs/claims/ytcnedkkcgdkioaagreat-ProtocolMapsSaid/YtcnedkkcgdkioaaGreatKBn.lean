/- Texts of this claim, put together: TM TN TO. -/
import Derived.Test.YtcnedkkcgdkioaaGreatKBm

set_option maxRecDepth 100000
set_option maxHeartbeats 12800000
namespace Go.Proofs.YtcnedkkcgdkioaaGreat
open Go.RowKit Go.ChangeMaps Go.MapKept Go.WideMaps
theorem ZQ {a:Type} [DecidableEq a] {l:List a}{x:a}(h:x ∉ l):ixOf (l ++ [x]) x=l.length:=by
 simp[ixOf,List.idxOf_append,h]
def BX (w:World) (B bb mb:Nat) (n:Int) (vs:Jb):Prop:=
 ∃v,w.heap[bb]? = some (.cells #[.int .i64 n,v,.map (some mb)] 140)/\AA 114 8 EI w B v vs.length vs/\IM EG w mb vs/\vs.Nodup/\(∀x∈vs,MM x)/\B<=bb/\B<=mb
structure BH (bb:Nat) (w w':World):Prop where
 cells:∀(k:Nat) (cs:Array Value) (t:TypeId),w.heap[k]? = some (.cells cs t)->t ≠ 114->k ≠ bb->w'.heap[k]? = w.heap[k]?
 lo:BR w w'
instance {bb:Nat} {w w':World}:CoeFun (BH bb w w') (fun _=>∀(k:Nat) (cs:Array Value) (t:TypeId),w.heap[k]? = some (.cells cs t)->t ≠ 114->k ≠ bb->w'.heap[k]? = w.heap[k]?):=⟨BH.cells⟩
theorem BH.trans {bb:Nat}{a b c:World}(h:BH bb a b) (g:BH bb b c):BH bb a c:=⟨fun k s t e f n=>by
 have d:=h k s t e f n;rw[e] at d;exact(g k s t d f n).trans (d.trans e.symm),h.lo.trans g.lo⟩
theorem BH.below {bb:Nat}{a b:World}(h:Below a.heap.size a b):BH bb a b:=⟨fun k _ _ c _ _=>h.block k (wD.1 c).1,BR.below h⟩
theorem BH.ofX {bb:Nat}{a b:World}(h:AE 114 a b) (l:BR a b):BH bb a b:=⟨fun k c t d e _=>h k c t d e,l⟩
theorem BH.setCell {bb j:Nat}{a:World}{v:Value}{cs:Array Value}{t:TypeId}(h:a.heap[bb]? = some (.cells cs t)):BH bb a (a.setCell ⟨bb,j,none⟩ v):=⟨fun k _ _ _ _ n=>Below.heap_setCell a ⟨bb,j,none⟩ v k n,BR.setCell (p:=⟨bb,j,none⟩) h v⟩
theorem QY {w:World}{b k:Nat}(o:Obj) (h:k ≠ b):(setBlock w b o).heap[k]? = w.heap[k]?:=by
 simp only[setBlock];rw[Array.getElem?_setIfInBounds_ne (by omega)]
theorem tD {w0 w:World}{B b:Nat}(h:Below B w0 w) (a:B<=b) (o:Obj):Below B w0 (setBlock w b o):=
 h.trans ⟨rfl,rfl,rfl,by simp[setBlock],fun k c=>QY o (by omega)⟩
theorem mW {w:World}{b:Nat}{vs:Jb}(h:IM EG w b vs) (o:Obj):BR w (setBlock w b o):=⟨by simp[setBlock],fun k p a f=>by
 obtain⟨s,c,d,_⟩:=h;refine(QY o fun e=>?_).trans a;subst e;rw[d] at a;injection a with a;subst a;exact f⟩
theorem mX {E:TypeId}{w:World}{b:Nat}{vs:Jb}(h:IM EG w b vs) (o:Obj):AE E w (setBlock w b o):=fun k s t d _=>by
 obtain⟨f,c,a,_⟩:=h;refine QY o fun e=>?_;subst e;rw[d] at a;cases a
theorem BX.keep {w w':World}{B bb mb:Nat}{n:Int}{vs:Jb}(h:BX w B bb mb n vs) (b:Below w.heap.size w w'):BX w' B bb mb n vs:=by
 obtain⟨v,c,d,a,e,f,g,i⟩:=h;exact⟨v,AN b c,d.keep (EI.stab _) b,a.keep (b.block _ a.lt),e,f,g,i⟩
theorem VQ {w:World}{B bb mb:Nat}{n:Int}{vs:Jb}{x:List Int}(h:BX w B bb mb n vs) (U:B<=w.heap.size) (hx:MM x) (hl:vs.length<=100000) :
  Calls Tryz.prog 135 #[.pointer (some ⟨bb,0,none⟩),EG x] w fun e w'=>e = .returned (.int .i64 (ixOf (BO vs x) x:Nat))/\BX w' B bb mb n (BO vs x)/\BH bb w w'/\Below B w w'/\∀k,k < w.heap.size->k ≠ bb->k ≠ mb->(∀v,w.heap[bb]? = some (.cells #[.int .i64 n,v,.map (some mb)] 140)->v.ownBlock ≠ some k)->w'.heap[k]? = w.heap[k]?:=by
 have b4 : Tryz.prog.follows .mixedOrders=true:=by kernel_rfl
 obtain⟨c,f,i,j,l,m,o,q,rfl⟩:=CT hx.1;obtain⟨a,s⟩:=AF (w.alloc (.cells #[.int .i64 c,.int .i64 f,.int .i64 i,.int .i64 j,.int .i64 l,.int .i64 m,.int .i64 o,.int .i64 q] 114));have Y:Below w.heap.size w a:=by rw[s];exact(wB _ w).alloc (wC _) _
 have kv:a.heap[w.heap.size]? = some (.cells #[.int .i64 c,.int .i64 f,.int .i64 i,.int .i64 j,.int .i64 l,.int .i64 m,.int .i64 o,.int .i64 q] 114):=by rw[s];exact wE _ _
 have hU:=qH (fun W (b:Below a.heap.size a W)=>(h.keep Y).keep b);have f9:=qH (fun W (b:Below a.heap.size a W)=>AN b kv);have h2:B<=a.heap.size:=wI U Y.size;obtain⟨v,k0,ho,I,a1,S,d1,d2⟩:=h.keep Y;obtain⟨va,vc,hv⟩:=ho.shape;subst hv;have b3:=qH (fun W (b:Below a.heap.size a W)=>IM.look ZR eD vO (I.keep (b.block _ I.lt)) a1 S hx);have HK:=qH (fun W (b:Below a.heap.size a W)=>And.intro (box3' (AN b k0)) (box8' (AN b kv)));have f':bb < w.heap.size:=by obtain⟨_,r,_⟩:=h;exact(wD.1 r).1
 clear h Y k0 ho;by_cases A : [c,f,i,j,l,m,o,q]∈vs
 ·have J:BO vs [c,f,i,j,l,m,o,q]=vs:=if_pos A;rw[J]
  have O:=qH (fun W (b:Below a.heap.size a W)=>by
   rcases b3.out W b with⟨r,_⟩|⟨_,_,M⟩
   ·exact absurd A r
   ·exact M)
  obtain⟨h9,hq⟩:=AB (ixOf vs [c,f,i,j,l,m,o,q]);simp only[EG,List.map_cons,List.map_nil,hq] at O|-;have g0:=qH (fun W (b:Below a.heap.size a W)=>And.intro (hU.out W b) (show Below w.heap.size w W from btt (by rw[s];exact(wB _ w).alloc (wC _) _) b));clear A J hq I a1 S;go_enter Tryz.func135, Tryz.ntmps135
  go_wp2_with fail
  rw[<-s];replace s:=qH s;refine CW b4 (by kernel_rfl) ?_
  repeat (refine WQ.step fun K t=>?_;go_simp;first|(refine t _ ?_;clear t K)|(apply Exists.intro;refine⟨fun R N=>?_,t _ ?_⟩;(·(first|with_reducible rfl|(obtain⟨⟨y0,y1,y2⟩,p0,p1,p2,p3,p4,p5,p6,p7⟩:=HK.out R N;have g2:=O.out R N;go_simp;first|done|with_reducible rfl|with_reducible exact⟨rfl,rfl⟩)));clear t K))
  refine WQ.nil ?_;intro u Z;obtain⟨f1,f2⟩:=g0.out u Z;replace f1:=qH f1;go_wp2_with fail
  go_ret;exact⟨rfl,f1.out,BH.below f2,f2.mono U,fun k C _ _ _=>f2.block k C⟩
 ·have J:BO vs [c,f,i,j,l,m,o,q]=vs ++ [[c,f,i,j,l,m,o,q]]:=if_neg A;rw[J];have d9:ixOf (vs ++ [[c,f,i,j,l,m,o,q]]) [c,f,i,j,l,m,o,q]=vs.length:=ZQ A;rw[d9]
  have O:=qH (fun W (b:Below a.heap.size a W)=>by
   rcases b3.out W b with⟨_,_,M⟩|⟨r,_⟩
   ·exact M
   ·exact absurd r A)
  simp only[EG,List.map_cons,List.map_nil] at O|-;have a2:=oZ (v:=[c,f,i,j,l,m,o,q]) a1
  have V:∀c6∈BO vs [c,f,i,j,l,m,o,q],MM c6:=fun c6 hy=>by
   rcases QS.1 hy with r|rfl
   ·exact S c6 r
   ·exact hx
  rw[J] at a2 V;have a0:Below w.heap.size w a:=by rw[s];exact(wB _ w).alloc (wC _) _
  have e0:=qH (fun W (b:Below a.heap.size a W)=>IM.put ZR eD (I.keep (b.block _ I.lt)) S hx A);simp only[EG,List.map_cons,List.map_nil] at e0;have g4:=I.lt;replace a2:=qH a2;replace V:=qH V;replace I:=qH I;have h5:(vs.length:Int)<=100000:=by omega
  clear J a1 S d9 A b3;go_enter Tryz.func135, Tryz.ntmps135
  go_wp2_with fail
  rw[<-s];replace s:=qH s;refine CW b4 (by kernel_rfl) ?_
  repeat (refine WQ.step fun K t=>?_;go_simp;first|(refine t _ ?_;clear t K)|(apply Exists.intro;refine⟨fun R N=>?_,t _ ?_⟩;(·(first|with_reducible rfl|(obtain⟨⟨y0,y1,y2⟩,p0,p1,p2,p3,p4,p5,p6,p7⟩:=HK.out R N;have g2:=O.out R N;go_simp;first|done|with_reducible rfl|with_reducible exact⟨rfl,rfl⟩)));clear t K))
  refine WQ.nil ?_;intro u Z;obtain⟨⟨y0,y1,y2⟩,p0,p1,p2,p3,p4,p5,p6,p7⟩:=HK.out u Z;go_wp2_with fail
  refine vL 6 b4 (by kernel_rfl) (by kernel_rfl) ?_ ?_
  ·rintro⟨h1,wx,h⟩
   first
    | exact h
    | (obtain⟨_,h,_⟩:=h;cases h;done)
    | (obtain⟨_,_,h,_⟩:=h;cases h;done)
    | (obtain⟨h,_⟩:=h;cases h;done)
  ·intro h7;simp only[List.take_succ_cons,List.take_zero,List.drop_succ_cons,List.drop_zero]
   repeat (quiet_step (fail))
   refine wpQuiet_nil ?_;intro d;have z:Below a.heap.size a (u.drewN d):=wH Z d;obtain⟨Q,hp,F⟩:=e0.out _ z;obtain⟨v5,k5,o5,_,_,_,_,_⟩:=hU.out _ z;have e6:=f9.out _ z;obtain⟨D,y⟩:=AF (setBlock (u.drewN d) mb Q);have d8:=I.out.keep (w':=u.drewN d) (z.block _ g4);have X:∀c',AE c' (u.drewN d) D:=fun c'=>by rw[y];exact mX d8 Q
   have a4:=(X 114 bb _ _ k5 (by decide)).trans k5;have g8:=(X 140 w.heap.size _ _ e6 (by decide)).trans e6;have b8:=o5.other (E':=140) (EI.stab _) (by decide) (X _);have h6:D.heap.size=(u.drewN d).heap.size:=(by rw[y];simp[setBlock]);have a9:Below B w D:=(by rw[y];exact tD ((btt a0 z).mono U) d2 Q);have f8:BH bb w D:=(BH.below (btt a0 z)).trans (BH.ofX (X _) (by rw[y];exact mW d8 Q));rw[<-y] at hp F;have g3:mb < D.heap.size:=F.lt
   have g5:∀g,v5.ownBlock=some g->g ≠ mb:=fun g hg e=>by
    obtain⟨ws,r,_⟩:=b8;obtain⟨cs,H⟩:=EY r g hg;obtain⟨es,e8,P,_⟩:=F;rw[e] at H;rw[H] at P;cases P
   have f7:B<=D.heap.size:=wI U a9.size;have g':=qH b8;replace X:=qH X;replace F:=qH F;replace y:=qH y;clear y0 y1 y2 p0 p1 p2 p3 p4 p5 p6 p7;go_wp2_with fail
   go_upto_region 5 with fail
   refine rE a4 g8 b8 (by omega) f7 ?_;rintro y6 L i2 E ⟨-,-,-,G4⟩ - - -;obtain⟨T,⟨d4,d7,b6,b2⟩,G⟩:=G4 rfl;clear G4;have a5:=(b6 bb _ _ a4 (by decide)).trans a4;have e4:E.heap[bb]? = some (.cells #[.int .i64 n,L,.map (some mb)] 140):=(by rw[G];exact heap_setCell_same T bb 1 _ _ L a5);have e2:AE 140 T E:=(by rw[G];exact AE.setCell (p:=⟨bb,1,none⟩) a5 L);have d5:=d4.other (E':=140) (EI.stab _) (by decide) e2
   have d3:IM EG E mb (vs ++ [[c,f,i,j,l,m,o,q]]):=F.out.keep (by
    rw[G];refine(Below.heap_setCell T ⟨bb,1,none⟩ L mb fun e=>?_).trans (b2 mb g3 fun e=>g5 mb e rfl);have e:mb=bb:=e;obtain⟨es,e8,P,_⟩:=F.out;rw[e,a4] at P;cases P)
   have f6:Below B w E:=by rw[G];exact Below.setCell (p:=⟨bb,1,none⟩) (a9.trans d7) d1 _
   have b0:BH bb w E:=by
    rw[G];refine(f8.trans (BH.ofX b6 ⟨d7.size,fun k h8 C hp=>?_⟩)).trans (BH.setCell a5);refine(b2 k (wD.1 C).1 fun e=>?_).trans C;obtain⟨ws,r,_⟩:=g'.out;obtain⟨cs,H⟩:=EY r k e;rw[C] at H;injection H with H;subst H;exact hp
   have b1:BX E B bb mb n (vs ++ [[c,f,i,j,l,m,o,q]]):=⟨L,e4,by rw[List.length_append];exact d5,d3,a2.out,V.out,d1,d2⟩
   have a':∀k,k < w.heap.size->k ≠ bb->k ≠ mb->(∀v,w.heap[bb]? = some (.cells #[.int .i64 n,v,.map (some mb)] 140)->v.ownBlock ≠ some k)->E.heap[k]? = w.heap[k]?:=fun k C r M h3=>by
    have e1:(u.drewN d).heap[bb]? = w.heap[bb]?:=(btt a0 z).block bb f';have f0:=h3 v5 (e1.symm.trans k5);have e3:D.heap[k]? = w.heap[k]?:=(by rw[y.out];exact(QY Q M).trans ((btt a0 z).block k C));rw[G];exact(Below.heap_setCell T ⟨bb,1,none⟩ L k r).trans ((b2 k (Nat.lt_of_lt_of_le C a9.size) f0).trans e3)
   replace a':=qH a';replace b1:=qH b1;replace b0:=qH b0;clear e2 b6 d5 d4 d3 X G a5 e4;go_wp2_with fail
   go_ret;exact⟨rfl,b1.out,b0.out,f6,a'.out⟩
end Go.Proofs.YtcnedkkcgdkioaaGreat
namespace Go.Proofs.YtcnedkkcgdkioaaGreat
open Go.RowKit
theorem jA (d:Nat) (p k x a b c e f m k' n g h i j l:Int) (w:World):(Op.equalIn (d+3) 114 (.agg #[.int .i64 p,.int .i64 k,.int .i64 x,.int .i64 a,.int .i64 b,.int .i64 c,.int .i64 e,.int .i64 f]) (.agg #[.int .i64 m,.int .i64 k',.int .i64 n,.int .i64 g,.int .i64 h,.int .i64 i,.int .i64 j,.int .i64 l])).run Tryz.prog w = .ok (BI [p,k,x,a,b,c,e,f] [m,k',n,g,h,i,j,l]) w:=by
 have u3:=Tryz.underlying3;have q:=Tryz.isAgg3;have z:=Tryz.sizeOf3;have r:=Tryz.isAgg112;have y:=Tryz.sizeOf112;have S : Tryz.prog.underlying 114=some (.struct (Tryz.prog.fieldsOf 114)):=by kernel_rfl
 have o : Tryz.prog.stoodInHeld 114=false:=by kernel_rfl
 have A:=XV d a b c e f g h i j l;rw[show d+3=(d+2)+1 from rfl,run_equalIn_agg w (d+2) 114 _ _ S o];simp only[Program.fieldsOf,Tryz.underlying114];go_simp;by_cases s:p=m<;>by_cases t:k=k'<;>by_cases u:x=n<;>by_cases v : [a,b,c,e,f] = [g,h,i,j,l]<;>simp_all [BI]
@[go_sem high] theorem vU (p k x a b c e f l k' m d g h i j:Int) (w:World):(Op.equalIn 10000 114 (.agg #[.int .i64 p,.int .i64 k,.int .i64 x,.int .i64 a,.int .i64 b,.int .i64 c,.int .i64 e,.int .i64 f]) (.agg #[.int .i64 l,.int .i64 k',.int .i64 m,.int .i64 d,.int .i64 g,.int .i64 h,.int .i64 i,.int .i64 j])).run Tryz.prog w = .ok (BI [p,k,x,a,b,c,e,f] [l,k',m,d,g,h,i,j]) w:=jA 9997 p k x a b c e f l k' m d g h i j w
theorem mG {vs:Jb}{i:Nat}{x:List Int}(h:i < vs.length) (n:x ∉ vs.take i) (b:vs.getD i []=x):ixOf vs x=i:=by
 have a:vs=vs.take i++(x::vs.drop (i+1)):=by
  conv=>lhs;rw[<-List.take_append_drop i vs]
  rw[OD h b]
 rw[a];simp[ixOf,List.idxOf_append,n]
 omega
theorem KS.at8 {w:World}{a:Option Addr}{c:Nat}{l:Jb}(h:KS 8 w (.slice a l.length c) l) (d:0 < l.length):∃b o,a=some ⟨b,o,none⟩/\CK 8 w b o l:=by
 obtain⟨g,i,b,o,v,e,f,_⟩:=h;injection v with e1 _ _;exact⟨b,o,e1.trans (e d),f⟩
theorem qD {w:World}{tn:Int}{v:Option Addr}{r:Nat}{vs:Jb}{x:List Int}(V:KS 8 w (.slice v vs.length r) vs) (Q:x.length=8) :
  Calls Tryz.prog 216 #[.agg #[.int .i64 tn,.slice v vs.length r],EG x] w fun e w'=>e = .returned (.int .i64 (if x∈vs then (ixOf vs x:Int) else -1))/\Below w.heap.size w w':=by
 obtain⟨a,c,d,f,g,j,k,l,rfl⟩:=CT Q;obtain⟨W,o⟩:=AF ((w.alloc (.cells #[.int .i64 tn,.slice v vs.length r] 32)).alloc (.cells #[.int .i64 a,.int .i64 c,.int .i64 d,.int .i64 f,.int .i64 g,.int .i64 j,.int .i64 k,.int .i64 l] 114));have O:Below w.heap.size w W:=by rw[o];exact((wB _ w).alloc (wC _) _).alloc (by simp) _
 have T:W.heap[w.heap.size]? = some (.cells #[.int .i64 tn,.slice v vs.length r] 32):=by rw[o];exact(Below.heap_alloc _ _ _ (by simp)).trans (World.alloc_heap_new w _)
 have X:W.heap[w.heap.size+1]? = some (.cells #[.int .i64 a,.int .i64 c,.int .i64 d,.int .i64 f,.int .i64 g,.int .i64 j,.int .i64 k,.int .i64 l] 114):=by
  rw[o];have:=World.alloc_heap_new (w.alloc (.cells #[.int .i64 tn,.slice v vs.length r] 32)) (.cells #[.int .i64 a,.int .i64 c,.int .i64 d,.int .i64 f,.int .i64 g,.int .i64 j,.int .i64 k,.int .i64 l] 114)
  rwa [World.size_alloc] at this
 obtain⟨g0,g1⟩:=GJ T;obtain⟨p0,p1,p2,p3,p4,p5,p6,p7⟩:=box8' X;have S:=qH (V.keep O);have a8:vs.length<=2199023255552:=by obtain⟨_,_,_,_,_,_,_,h⟩:=V;exact h
 have N:Hid ([a,c,d,f,g,j,k,l] ∉ vs.take 0):=by show ¬_;simp
 obtain⟨E,q⟩:=AB ((if [a,c,d,f,g,j,k,l]∈vs then (ixOf vs [a,c,d,f,g,j,k,l]:Int) else -1));rw[q];replace q:=qH q;simp only[EG,List.map_cons,List.map_nil];clear Q T X V;go_enter Tryz.func216, Tryz.ntmps216
 go_wp2_with fail
 rw[<-o];replace o:=qH o;go_loopw [5] (fun M wr=>∃i:Nat,M = .int .i64 i/\i<=vs.length/\Hid ([a,c,d,f,g,j,k,l] ∉ vs.take i)/\Qt W wr) (fun M _=>vs.length - (intOf M).toNat)
 case atStart=>exact⟨0,rfl,by omega,N,Qt.refl W⟩
 case round=>
  clear N;obtain⟨i,rfl,hi,p,n,rfl⟩:=hrel;have G:Below w.heap.size w (W.drewN n):=wH O n;by_cases t:i < vs.length
  ·obtain⟨b,a',rfl,P⟩:=S.out.at8 (by omega);obtain⟨K,L⟩:=P i t;obtain⟨b8,y⟩:=AB (vs.getD i []);rw[y] at K L;obtain⟨s,u,z,A,B,C,D,F,rfl⟩:=CT K;obtain⟨Y,Z,c2,c3,c4,c5,c6,c7⟩:=L.all8;have H : [s,u,z,A,B,C,D,F]∈vs:=(by rw[<-y,AK t];exact wG t);have J:vs.take (i+1)=vs.take i ++ [[s,u,z,A,B,C,D,F]]:=(by rw[BY t [],y]);clear P L K;by_cases m : [s,u,z,A,B,C,D,F] = [a,c,d,f,g,j,k,l]
   ·have R:BI [s,u,z,A,B,C,D,F] [a,c,d,f,g,j,k,l]=true:=FN.2 m
    have I:Hid ((i:Int)=E):=by
     show _=_;rw[<-q.out,if_pos (by rw[<-m];exact H),mG t p.out (y.trans m)]
    clear m p H J y;go_wp2_with fail
    go_quiet (fail)
    go_wp2_with fail
    go_ret;exact⟨AM I.out,by first|exact wH G _|exact G⟩
   ·have R:BI [s,u,z,A,B,C,D,F] [a,c,d,f,g,j,k,l]=false:=FL.2 m
    have U:Hid ([a,c,d,f,g,j,k,l] ∉ vs.take (i+1)):=by
     show ¬_;rw[J,List.mem_append,List.mem_singleton];exact fun h=>h.elim p.out fun h=>m h.symm
    clear m p H J y;go_wp2_with fail
    go_quiet (fail)
    go_wp2_with fail
    go_roundw
    case rel=>exact⟨i+1,by go_num,t,U,by first|exact(Qt.mk' W n).step nq|exact Qt.mk' W _⟩
    case measure=>simp[intOf];omega
  ·have I:Hid ((-1:Int)=E):=by
    show _=_;have:=p.out
    rw[List.take_of_length_le (by omega)] at this;rw[<-q.out,if_neg this]
   clear p;go_wp2_with fail
   go_ret;exact⟨AM I.out,G⟩
def QC (p x:Int) (k:Nat):Array Value:=
 match k with
 | 0=>#[.int .i64 p,.int .i64 0,.int .i64 x,.int .i64 0,.int .i64 0,.int .i64 0,.int .i64 0,.int .i64 0]
 | 1=>#[.int .i64 p,.int .i64 0,.int .i64 x,.int .i64 (-1),.int .i64 0,.int .i64 0,.int .i64 0,.int .i64 0]
 | 2=>#[.int .i64 p,.int .i64 0,.int .i64 x,.int .i64 (-1),.int .i64 (-1),.int .i64 0,.int .i64 0,.int .i64 0]
 | 3=>#[.int .i64 p,.int .i64 0,.int .i64 x,.int .i64 (-1),.int .i64 (-1),.int .i64 (-1),.int .i64 0,.int .i64 0]
 | 4=>#[.int .i64 p,.int .i64 0,.int .i64 x,.int .i64 (-1),.int .i64 (-1),.int .i64 (-1),.int .i64 (-1),.int .i64 0]
 | _=>#[.int .i64 p,.int .i64 0,.int .i64 x,.int .i64 (-1),.int .i64 (-1),.int .i64 (-1),.int .i64 (-1),.int .i64 (-1)]
theorem kJ {p x:Int}{k:Nat}(h:k < 5):(QC p x k).setIfInBounds (3+k) (.int .i64 (-1))=QC p x (k+1):=by
 rcases(show k=0\/k=1\/k=2\/k=3\/k=4 by omega) with rfl|rfl|rfl|rfl|rfl<;>rfl
theorem jZ {p x:Int}{W:World}{b:Nat}{t:TypeId}{k:Nat}(h:k < 5) (a:W.heap[b]? = some (.cells (QC p x k) t)):∃v,W.cell? ⟨b,3+k,none⟩=some v:=by
 rcases(show k=0\/k=1\/k=2\/k=3\/k=4 by omega) with rfl|rfl|rfl|rfl|rfl
 all_goals exact⟨_,by rw[cell_of_row _ _ _ _ _ _ a];rfl⟩
theorem uN {w wr:World}{b b1 k:Nat}{v:Value}{c a:Array Value}{t:TypeId}(h:wr.heap[b]? = some (.cells c t)) (d:wr.heap[b1]? = some (.cells a t)) (n:b ≠ b1) (B:w.heap.size<=b1) (e:Below w.heap.size w wr) :
  (wr.setCell ⟨b1,k,none⟩ v).heap[b]? = some (.cells c t)/\(wr.setCell ⟨b1,k,none⟩ v).heap[b1]? = some (.cells (a.setIfInBounds k v) t)/\Below w.heap.size w (wr.setCell ⟨b1,k,none⟩ v):=dG h d n B e
def KA (p x:Int):List Int:=[p,0,x,-1,-1,-1,-1,-1]
theorem pW (w:World) (p x:Int):Calls Tryz.prog 186 #[.int .i64 p,.int .i64 x] w fun e w'=>e = .returned (EG (KA p x))/\Below w.heap.size w w':=by
 obtain⟨f,W⟩:=AF ((w.alloc (.cells #[.int .i64 0,.int .i64 0,.int .i64 0,.int .i64 0,.int .i64 0,.int .i64 0,.int .i64 0,.int .i64 0] 114)).alloc (.cells #[.int .i64 p,.int .i64 0,.int .i64 x,.int .i64 0,.int .i64 0,.int .i64 0,.int .i64 0,.int .i64 0] 114));have n:Below w.heap.size w f:=by rw[W];exact((wB _ w).alloc (wC _) _).alloc (by simp) _
 have o:f.heap[w.heap.size]? = some (.cells #[.int .i64 0,.int .i64 0,.int .i64 0,.int .i64 0,.int .i64 0,.int .i64 0,.int .i64 0,.int .i64 0] 114):=by rw[W];exact(Below.heap_alloc _ _ _ (by simp)).trans (World.alloc_heap_new w _)
 have q:f.heap[w.heap.size+1]? = some (.cells #[.int .i64 p,.int .i64 0,.int .i64 x,.int .i64 0,.int .i64 0,.int .i64 0,.int .i64 0,.int .i64 0] 114):=by
  rw[W];have:=World.alloc_heap_new (w.alloc (.cells #[.int .i64 0,.int .i64 0,.int .i64 0,.int .i64 0,.int .i64 0,.int .i64 0,.int .i64 0,.int .i64 0] 114)) (.cells #[.int .i64 p,.int .i64 0,.int .i64 x,.int .i64 0,.int .i64 0,.int .i64 0,.int .i64 0,.int .i64 0] 114)
  rwa [World.size_alloc] at this
 go_enter Tryz.func186, Tryz.ntmps186
 go_wp2_with fail
 rw[<-W];replace W:=qH W;go_loopw [6] (fun i wr=>∃a:Nat,i = .int .i64 a/\a<=5/\wr.heap[w.heap.size]? = some (.cells #[.int .i64 0,.int .i64 0,.int .i64 0,.int .i64 0,.int .i64 0,.int .i64 0,.int .i64 0,.int .i64 0] 114)/\wr.heap[w.heap.size+1]? = some (.cells (QC p x a) 114)/\Below w.heap.size w wr) (fun i _=>5 - (intOf i).toNat)
 case atStart=>exact⟨0,rfl,by omega,o,q,n⟩
 case round=>
  clear o q n;obtain⟨a,rfl,P,h,b,r⟩:=hrel;by_cases l:a < 5
  ·have R:(a:Int) < 5:=(by omega);have Q:(0:Int)<=(a:Int):=Int.natCast_nonneg _;obtain⟨g,s,j⟩:=uN (k:=3+a) (v:=.int .i64 (-1)) h b (by omega) (by omega) r;rw[kJ l] at s;obtain⟨v9,O⟩:=jZ l b;have F:=BG b;replace g:=qH g;replace s:=qH s;replace j:=qH j;clear h b r;go_wp2_with fail
   go_roundw
   case rel=>exact⟨a+1,by go_num,l,g.out,s.out,j.out⟩
   case measure=>simp[intOf];omega
  ·obtain rfl:a=5:=(by omega);have m:wr.heap[w.heap.size+1]? = some (.cells #[.int .i64 p,.int .i64 0,.int .i64 x,.int .i64 (-1),.int .i64 (-1),.int .i64 (-1),.int .i64 (-1),.int .i64 (-1)] 114):=b;obtain⟨S,T,U,V,X,Y,Z,p7⟩:=box8' m;obtain⟨q0,q1,q2,q3,q4,q5,q6,q7⟩:=box8' h;have F:=BG h;have u:=heap_setCell_same wr w.heap.size 0 _ _ (.int .i64 p) h;have y:=heap_setCell_same _ w.heap.size 1 _ _ (.int .i64 0) u;have z:=heap_setCell_same _ w.heap.size 2 _ _ (.int .i64 x) y;have A:=heap_setCell_same _ w.heap.size 3 _ _ (.int .i64 (-1)) z;have B:=heap_setCell_same _ w.heap.size 4 _ _ (.int .i64 (-1)) A;have C:=heap_setCell_same _ w.heap.size 5 _ _ (.int .i64 (-1)) B;have D:=heap_setCell_same _ w.heap.size 6 _ _ (.int .i64 (-1)) C;have t:=heap_setCell_same _ w.heap.size 7 _ _ (.int .i64 (-1)) D;have d:=(Below.setCell (p:=⟨w.heap.size,7,none⟩) (Below.setCell (p:=⟨w.heap.size,6,none⟩) (Below.setCell (p:=⟨w.heap.size,5,none⟩) (Below.setCell (p:=⟨w.heap.size,4,none⟩) (Below.setCell (p:=⟨w.heap.size,3,none⟩) (Below.setCell (p:=⟨w.heap.size,2,none⟩) (Below.setCell (p:=⟨w.heap.size,1,none⟩) (Below.setCell (p:=⟨w.heap.size,0,none⟩) r (wC _) (.int .i64 p)) (wC _) (.int .i64 0)) (wC _) (.int .i64 x)) (wC _) (.int .i64 (-1))) (wC _) (.int .i64 (-1))) (wC _) (.int .i64 (-1))) (wC _) (.int .i64 (-1))) (wC _) (.int .i64 (-1)));obtain⟨E,c⟩:=AF (((((((((wr.setCell ⟨w.heap.size,0,none⟩ (.int .i64 p)).setCell ⟨w.heap.size,1,none⟩ (.int .i64 0)).setCell ⟨w.heap.size,2,none⟩ (.int .i64 x)).setCell ⟨w.heap.size,3,none⟩ (.int .i64 (-1))).setCell ⟨w.heap.size,4,none⟩ (.int .i64 (-1))).setCell ⟨w.heap.size,5,none⟩ (.int .i64 (-1))).setCell ⟨w.heap.size,6,none⟩ (.int .i64 (-1))).setCell ⟨w.heap.size,7,none⟩ (.int .i64 (-1))));rw[<-c] at t d;replace t:E.heap[w.heap.size]? = some (.cells #[.int .i64 p,.int .i64 0,.int .i64 x,.int .i64 (-1),.int .i64 (-1),.int .i64 (-1),.int .i64 (-1),.int .i64 (-1)] 114):=t;obtain⟨G,H,I,J,K,L,M,N⟩:=box8' t;replace d:=qH d;replace c:=qH c;clear h b m u y z A B C D t r;go_wp2;rw[<-c.out];refine bodyPost_ret (v:=.agg #[.int .i64 p,.int .i64 0,.int .i64 x,.int .i64 (-1),.int .i64 (-1),.int .i64 (-1),.int .i64 (-1),.int .i64 (-1)]) (by simp[results,Tryz.results186,go_sem,G,H,I,J,K,L,M,N]) rfl ?_;exact⟨rfl,d.out⟩
theorem OE:EA Tryz.prog 48 3 (.int .i64 0) 1 8:=⟨by kernel_rfl,by kernel_rfl,rfl⟩
theorem PX:EA Tryz.prog 25 180 (.slice none 0 0) 1 24:=⟨by kernel_rfl,by kernel_rfl,rfl⟩
theorem PW:EA Tryz.prog 22 95 (.agg #[.slice none 0 0,.slice none 0 0,.slice none 0 0]) 3 72:=⟨by kernel_rfl,by kernel_rfl,rfl⟩
theorem SP:EA Tryz.prog 78 48 (.slice none 0 0) 1 24:=⟨by kernel_rfl,by kernel_rfl,rfl⟩
theorem fY {w:World}(a:Addr) (n c:Nat) (s:List Value) (l:s.length=n * 1) (t:n<=1000000) (h:∀j u,s[j]? = some u->w.cell? (a.add j)=some u) (b:∀u∈s,u.oneCell'=true) :
  Calls Tryz.prog 130 #[.slice (some a) n c] w fun e w'=>∃v',e = .returned v'/\w'.ownsRow w.heap.size 3 1 v' n s/\Below w.heap.size w w':=by
 have x:=fun(w:World)=>Lib.run_eql_slice_nil (P:=Tryz.prog) w 48 3 (some a) n c 0 0 OE.1;obtain⟨r,i,z,p,q⟩:=info_parts OE.2.1;have A:Hid (∀j u,s[j]? = some u->w.cell? (a.add j)=some u):=h;clear h;have m:n * 8<=140737488355328:=by omega
 go_enter Tryz.func130, Tryz.ntmps130
 go_wp2_with (at_builtin;refine wpList_append_own _ rfl _ _ 48 rfl w.heap.size 3 r _ 1 8 OE.1 i z p q OE.2.2 (by decide) _ _ _ rfl (World.ownsRow_made w #[] 0 (wC _) (Nat.zero_le _) (by simp)) a n c s rfl ?qc1 ?qc2 ?qc3 ?qc4 ?qc5 ?qc6 ?_)
 case qc1=>exact l
 case qc2=>
  intro j u d;exact Lib.cell?_alloc_some _ (A.out j u d)
 case qc3=>exact b
 case qc4=>unfold maxLen;omega
 case qc5=>rw[Nat.zero_add];exact m
 case qc6=>simp
 intro v' y o g v;go_wp2;go_ret;refine⟨v',rfl,by simpa using o,?_⟩;exact((wB _ w).alloc (wC _) _).grown g (by simp) (by intro k f;simp[Value.ownBlock] at f;omega)
theorem fZ {w:World}(n c:Nat):Calls Tryz.prog 130 #[.slice none n c] w fun e w'=>e = .returned (.slice none 0 0)/\w'=w:=by
 have q:=fun(w:World)=>Lib.run_eql_slice_nil (P:=Tryz.prog) w 48 3 none n c 0 0 OE.1;go_enter Tryz.func130, Tryz.ntmps130
 go_wp2;go_ret;exact⟨rfl,rfl⟩
theorem gA {w:World}(a:Addr) (n c:Nat) (s:List Value) (l:s.length=n * 1) (t:n<=1000000) (h:∀j u,s[j]? = some u->w.cell? (a.add j)=some u) (b:∀u∈s,u.oneCell'=true) :
  Calls Tryz.prog 132 #[.slice (some a) n c] w fun e w'=>∃v',e = .returned v'/\w'.ownsRow w.heap.size 180 1 v' n s/\Below w.heap.size w w':=by
 have x:=fun(w:World)=>Lib.run_eql_slice_nil (P:=Tryz.prog) w 25 180 (some a) n c 0 0 PX.1;obtain⟨r,i,z,p,q⟩:=info_parts PX.2.1;have A:Hid (∀j u,s[j]? = some u->w.cell? (a.add j)=some u):=h;clear h;have m:n * 24<=140737488355328:=by omega
 go_enter Tryz.func132, Tryz.ntmps132
 go_wp2_with (at_builtin;refine wpList_append_own _ rfl _ _ 25 rfl w.heap.size 180 r _ 1 24 PX.1 i z p q PX.2.2 (by decide) _ _ _ rfl (World.ownsRow_made w #[] 0 (wC _) (Nat.zero_le _) (by simp)) a n c s rfl ?qc1 ?qc2 ?qc3 ?qc4 ?qc5 ?qc6 ?_)
 case qc1=>exact l
 case qc2=>
  intro j u d;exact Lib.cell?_alloc_some _ (A.out j u d)
 case qc3=>exact b
 case qc4=>unfold maxLen;omega
 case qc5=>rw[Nat.zero_add];exact m
 case qc6=>simp
 intro v' y o g v;go_wp2;go_ret;refine⟨v',rfl,by simpa using o,?_⟩;exact((wB _ w).alloc (wC _) _).grown g (by simp) (by intro k f;simp[Value.ownBlock] at f;omega)
theorem fX {w:World}(a:Addr) (n c:Nat) (s:List Value) (l:s.length=n * 3) (t:n<=1000000) (h:∀j u,s[j]? = some u->w.cell? (a.add j)=some u) (b:∀u∈s,u.oneCell'=true) :
  Calls Tryz.prog 129 #[.slice (some a) n c] w fun e w'=>∃v',e = .returned v'/\w'.ownsRow w.heap.size 95 3 v' n s/\Below w.heap.size w w':=by
 have x:=fun(w:World)=>Lib.run_eql_slice_nil (P:=Tryz.prog) w 22 95 (some a) n c 0 0 PW.1;obtain⟨r,i,z,p,q⟩:=info_parts PW.2.1;have A:Hid (∀j u,s[j]? = some u->w.cell? (a.add j)=some u):=h;clear h;have m:n * 72<=140737488355328:=by omega
 go_enter Tryz.func129, Tryz.ntmps129
 go_wp2_with (at_builtin;refine wpList_append_own _ rfl _ _ 22 rfl w.heap.size 95 r _ 3 72 PW.1 i z p q PW.2.2 (by decide) _ _ _ rfl (World.ownsRow_made w #[] 0 (wC _) (Nat.zero_le _) (by simp)) a n c s rfl ?qc1 ?qc2 ?qc3 ?qc4 ?qc5 ?qc6 ?_)
 case qc1=>exact l
 case qc2=>
  intro j u d;exact Lib.cell?_alloc_some _ (A.out j u d)
 case qc3=>exact b
 case qc4=>unfold maxLen;omega
 case qc5=>rw[Nat.zero_add];exact m
 case qc6=>simp
 intro v' y o g v;go_wp2;go_ret;refine⟨v',rfl,by simpa using o,?_⟩;exact((wB _ w).alloc (wC _) _).grown g (by simp) (by intro k f;simp[Value.ownBlock] at f;omega)
theorem WS {w:World}{v:Value}{xs:List Int}(h:AR w v xs) (q:xs.length<=1000000) :
  Calls Tryz.prog 130 #[v] w fun e w'=>∃u,e = .returned u/\OI w' w.heap.size u xs.length xs/\Below w.heap.size w w':=by
 obtain⟨a,c,b,s,rfl,g,p,_⟩:=h;cases a with
 | none=>
  have m:xs.length=0:=by
   rcases Nat.eq_zero_or_pos xs.length with d|d
   ·exact d
   ·cases g d
  obtain rfl:=List.length_eq_zero_iff.1 m;refine(fZ 0 c).mono ?_;rintro e w' ⟨rfl,rfl⟩;exact⟨_,rfl,OI.nil _ _,wB _ _⟩
 | some k=>
  refine(fY k xs.length c (xs.map (Value.int .i64)) (by rw[List.length_map,Nat.mul_one]) q ?_ ?_).mono ?_
  ·intro j u f;rw[List.getElem?_map] at f
   have l:j < xs.length:=by
    rcases Nat.lt_or_ge j xs.length with d|d
    ·exact d
    ·rw[List.getElem?_eq_none d] at f;cases f
   have:=g (by omega)
   injection this with this;subst this;rw[Addr.add_lit,p j l,<-f,List.getElem?_eq_getElem l,AK l];rfl
  ·intro u r;obtain⟨i,_,rfl⟩:=List.mem_map.1 r;rfl
  ·rintro e w' ⟨u,rfl,n,o⟩;exact⟨u,rfl,n,o⟩
def BD (w:World) (cs:List Value) (x:List Int):Prop:=∃u,cs = [u]/\OI w 0 u x.length x
theorem BD.stab {E:TypeId}(h:3 ≠ E):CP E BD:=fun _ _ _ _ ⟨u,a,b⟩ x=>⟨u,a,b.other h x⟩
theorem eI {w:World}{v:Value}{l:Jb}(h:BM w v l) (T:l.length<=100000) (f:∀x∈l,x.length<=1000000) :
  Calls Tryz.prog 131 #[v] w fun e w'=>∃u,e = .returned u/\AA 48 1 BD w' w.heap.size u l.length l/\Below w.heap.size w w':=by
 obtain⟨xa,xc,xb,xo,rfl,M,j,V⟩:=h;replace j:=qH j;replace f:=qH f;have r:AA 48 1 BD w w.heap.size (.slice none 0 0) 0 (l.take 0):=by rw[List.take_zero];exact AA.nil _ _
 go_enter Tryz.func131, Tryz.ntmps131
 go_wp2_with fail
 go_loopw [3,8] (fun N m wr=>∃i:Nat,m = .int .i64 i/\i<=l.length/\AA 48 1 BD wr w.heap.size N i (l.take i)/\Below w.heap.size w wr) (fun _ m _=>l.length - (intOf m).toNat)
 case atStart=>exact⟨0,rfl,by omega,r,wB _ _⟩
 case round=>
  clear r;obtain⟨i,rfl,S,o,b⟩:=hrel;by_cases t:i < l.length
  ·obtain rfl:=M (by omega);obtain⟨u,q,a⟩:=j.out i t;obtain⟨x,c⟩:=AB (l.getD i []);rw[c] at a;have Q:=AC b q;have z:x∈l:=(by rw[<-c,AK t];exact wG t);have H:=WS (a.keep b) (f.out x z);have k:l.take i ++ [x]=l.take (i+1):=(by rw[BY t [],c]);obtain⟨Z,uc,K⟩:=a.shape;subst K;obtain⟨X,Y,I⟩:=o.shape;subst I;have g:=qH o;replace H:=qH H;replace k:=qH k;clear a c z q o;go_wp2_with fail
   refine H.out.mono ?_;rintro e B ⟨u2,rfl,O,s⟩;have G:=g.out.keep (BD.stab (by decide)) s;obtain⟨p,n,J⟩:=O.shape;subst J;have y:=btt b s;have L:=y.size;obtain⟨P,W⟩:=AF (B.alloc (.cells #[.slice p x.length n] 48));have E:BD B [.slice p x.length n] x:=⟨_,rfl,O.base (Nat.zero_le _)⟩;have F:i<=1000000000000:=(by omega);have d:∀u∈(#[.slice p x.length n]:Array Value).toList,u.oneCell'=true:=fun u a=>by rw[List.mem_singleton.1 a];rfl
   replace E:=qH E;replace d:=qH d;clear W O;go_wp2_with (at_builtin;refine FH (x:=x) SP (by decide) (by decide) (BD.stab (by decide)) rfl _ _ rfl rfl G rfl rfl rfl d.out E.out F L ?_)
   intro v3 w3 A R C U;rw[k.out] at A;have D:=y.trans C;go_wp2;go_roundw
   case rel=>exact⟨i+1,by go_num,t,A,D⟩
   case measure=>simp[intOf];omega
  ·obtain rfl:i=l.length:=(by omega);rw[List.take_length] at o;have g:=qH o;clear o;go_wp2;go_ret;exact⟨_,rfl,g.out,b⟩
end Go.Proofs.YtcnedkkcgdkioaaGreat
