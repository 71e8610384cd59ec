/- Texts of this claim, put together: V6 V7 TU. -/
import Derived.Test.YtcnedkkcgdkioaaGreatKBr

set_option maxRecDepth 100000
set_option maxHeartbeats 12800000
namespace Go.Proofs.YtcnedkkcgdkioaaGreat
open Go.RowKit
def wF (ss:Jc) (m:Nat) (s:Jb):Jc:=s.flatMap fun v=>(wL ss m (CH v)).map (rdOf v::·)
theorem uU {ss:Jc}{m i:Nat}{s:Jb}(h:i < s.length) {v:List Int}(a:s.getD i []=v):wF ss m (s.take (i+1))=wF ss m (s.take i)++(wL ss m (CH v)).map (rdOf v::·):=by
 rw[BY h [],a,wF,List.flatMap_append];simp[wF]
theorem uT (ss:Jc) (m i:Nat) (s:Jb):(wF ss m (s.take i)).length<=(wF ss m s).length:=by
 have:wF ss m s=wF ss m (s.take i)++wF ss m (s.drop i):=by rw[wF,wF,wF,<-List.flatMap_append,List.take_append_drop]
 rw[this,List.length_append];omega
structure NR (w:World) (k:Nat) (n:Int) (sv fv:Value) (tf:TypeId) (g bo bk ba bf:Nat):Prop where
 k:w.heap[bk]? = some (.cells #[.int .i64 (k:Int)] 3)
 a:w.heap[ba]? = some (.cells #[.int .i64 n,sv] 27)
 f:w.heap[bf]? = some (.cells #[fv] tf)
 tf:tf ≠ 77
 kg:bk ≠ g
 ko:bk ≠ bo
 ag:ba ≠ g
 ao:ba ≠ bo
 fg:bf ≠ g
 fo:bf ≠ bo
 og:bo ≠ g
theorem NR.kw {w w':World}{k:Nat}{n:Int}{s f:Value}{tf:TypeId}{B g bo c b bf:Nat}(h:NR w k n s f tf g bo c b bf) (a:KW B g bo w w'):NR w' k n s f tf g bo c b bf:=
 ⟨a.box h.k h.kg h.ko (by decide),a.box h.a h.ag h.ao (by decide),a.box h.f h.fg h.fo h.tf,h.tf,h.kg,h.ko,h.ag,h.ao,h.fg,h.fo,h.og⟩
theorem AA.wd7 {E:TypeId}{w w':World}{B g l cap:Nat}{x:Jb}(h:AA E 7 EI w B (.slice (some ⟨g,0,none⟩) l cap) l x) (k:w'.heap[g]? = w.heap[g]?):AA E 7 EI w' B (.slice (some ⟨g,0,none⟩) l cap) l x:=
 h.sameB (fun j a=>by injection a with a;rw[<-a];exact k) fun _ _ h=>h
theorem uZ {n:Int}{ss:Jc}(hM:ES ss) {w0:World}{sv:Value}(A:BT 8 w0 sv ss) {k:Nat}(n4:k<=6) {B g bo bk ba bf cap:Nat}{tf:TypeId}(e3:w0.heap.size<=B) (m':k<=cap) (c':B<=g) :
  ∀(m:Nat) {w:World} {l s:Nat} {x:Jb} {out:Jc},l+m=k->s < ss.length->x.length=l->Below w0.heap.size w0 w->B<=w.heap.size->
  NR w k n sv (.func (.func 128) #[] #[.pointer (some ⟨bk,0,none⟩),.pointer (some ⟨bo,0,none⟩),.pointer (some ⟨ba,0,none⟩),.pointer (some ⟨bf,0,none⟩)]) tf g bo bk ba bf->
  AA 148 7 EI w B (.slice (some ⟨g,0,none⟩) l cap) l x->JQ w B g bo out->out.length+(wL ss m s).length<=1000000->
  Calls Tryz.prog 128 #[.int .i64 (s:Int),.slice (some ⟨g,0,none⟩) l cap,.pointer (some ⟨bk,0,none⟩),.pointer (some ⟨bo,0,none⟩),.pointer (some ⟨ba,0,none⟩),.pointer (some ⟨bf,0,none⟩)] w fun e w'=>
   e = .returned (.tuple #[])/\JQ w' B g bo (out++(wL ss m s).map (x ++ ·))/\AA 148 7 EI w' B (.slice (some ⟨g,0,none⟩) l cap) l x/\KW B g bo w w':=by
 intro m;induction m with
 | zero=>
  intro w l s x out h' hs a2 c3 b0 X C O J;obtain rfl:l=k:=by omega
  have ck:=wJ X.k;obtain⟨ov,T,Q,a1,e9⟩:=O;have n7:=a1.length;obtain⟨cb,m3⟩:=And.intro (wJ Q) (free_of_one Q);have b4:=C.ks (by omega);have b1:=WT (w:=w.drew) ((C.wd7 (w':=w.drew) rfl).ks (by omega)) (by omega);rw[a2] at b1;replace b1:=qH b1;obtain⟨e1,R⟩:=(C.blockT (g:=g) rfl).2.2;have e':g < w.heap.size:=(wD.1 R).1;have i1:T<=1000000000000:=by rw[wL] at J;simp at J;omega
  obtain⟨oa,oc,i4⟩:=a1.shape;subst i4;have i7:=a1;replace a1:=qH a1;replace C:=qH C;replace X:=qH X;clear b4;go_enter Tryz.func128, Tryz.ntmps128
  go_wp2_with fail
  refine wp_region_any (by kernel_rfl) ?_;change wpAny _ _ _ _ _ _ _ (World.drew _)
  repeat' (first
   | ((first|refine wpAny_ready (rs:=[0,1]) (by decide +kernel) (by simp) ?_|refine wpAny_ready (rs:=[0,2]) (by decide +kernel) (by simp) ?_|refine wpAny_ready (rs:=[0,3]) (by decide +kernel) (by simp) ?_|refine wpAny_ready (rs:=[0]) (by decide +kernel) (by simp) ?_|refine wpAny_ready (rs:=[1]) (by decide +kernel) (by simp) ?_|refine wpAny_ready (rs:=[2]) (by decide +kernel) (by simp) ?_|refine wpAny_ready (rs:=[3]) (by decide +kernel) (by simp) ?_|refine wpAny_ready (rs:=[4]) (by decide +kernel) (by simp) ?_|refine wpAny_ready (rs:=[5]) (by decide +kernel) (by simp) ?_);(first|refine AllReady.cons rfl (fun K A=>?_) AllReady.nil|refine AllReady.cons rfl (fun K A=>?_) (AllReady.cons rfl (fun K A=>?_) AllReady.nil)))
   | (
     refine wpAny_done (by decide +kernel) ?_ _;have f':=one_setCell (u:=.slice a5 (T+1) a6) Y
     have c5:∀(j:Nat) (U:Array Value) (t:TypeId),w.heap[j]? = some (.cells U t)->t ≠ 77->v.heap[j]? = w.heap[j]?:=fun j U t z ht=>
      have G:=I.block j (wD.1 z).1;(d5 j U t (G.trans z) ht).trans G
     have d4:∀j,j ≠ bo->(v.setCell ⟨bo,0,none⟩ (.slice a5 (T+1) a6)).heap[j]? = v.heap[j]?:=fun j z=>Below.heap_setCell _ ⟨bo,0,none⟩ _ j z;have h6:g ≠ bo:=fun e=>X.out.og e.symm
     have c8:JQ (v.setCell ⟨bo,0,none⟩ (.slice a5 (T+1) a6)) B g bo (out++(wL ss 0 s).map (x ++ ·)):=by
      have hl:out++(wL ss 0 s).map (x ++ ·)=out ++ [x]:=(by simp[wL]);rw[hl];exact⟨_,_,f',F.other (E':=133) (IB.stab g (by decide)) (by decide) (AE.setCell (p:=⟨bo,0,none⟩) Y _),e9⟩
     have c9:=C.out.wd7 (w':=v.setCell ⟨bo,0,none⟩ (.slice a5 (T+1) a6)) ((d4 g h6).trans (c5 g _ _ R (by decide)));have c7:KW B g bo w (v.setCell ⟨bo,0,none⟩ (.slice a5 (T+1) a6)):=⟨Below.setCell (p:=⟨bo,0,none⟩) ((I.mono b0).trans h1) e9 _,fun j U t z G h2 h3=>(d4 j h2).trans (c5 j U t z h3)⟩;replace c8:=qH c8;replace c9:=qH c9;replace c7:=qH c7;clear f' c5 d4 F d5 f7 b8 e4 Y;go_wp2;refine bodyPost_ret (results_none rfl _ _ _) rfl ?_;exact⟨rfl,c8.out,c9.out,c7.out⟩)
   | (
     refine tX (B:=B) (cs:=[.slice a3 l a4]) (x:=x) SO (by decide) (by decide) (IB.stab g (by decide)) (by rfl) _ _ (by rfl) (by rfl) f7 ⟨w3.heap.size,0,none⟩ 1 (by rfl) rfl (cell_one_new _ _ _) i3 e4 i1 j0 ?_;intro v7 v F L n6 h1 d5;obtain⟨a5,a6,j5⟩:=F.shape;subst j5;have Y:=(d5 bo _ _ ((I.block bo (wD.1 Q).1).trans Q) (by decide)).trans ((I.block bo (wD.1 Q).1).trans Q);have m4:=wJ Y;have d':=free_of_one Y;refine A _ _ ?_;clear A K)
   | (
     go_simp
     first
      | (refine A _ _ ?_;clear A K)
      | (
        go_at_call 76
        refine b1.out.mono ?_;rintro e w3 ⟨u3,rfl,b8,h0⟩;have c4:Below w.heap.size w w3:=KK h0;obtain⟨a3,a4,j4⟩:=b8.shape;subst j4;have m1:=AC c4 cb;have I:=c4.alloc c4.size (.cells #[.slice a3 l a4] 77);have m2:=AC I cb;have f7:=AA.keep (IB.stab g (by decide)) i7 I;have e4:IB g (w3.alloc (.cells #[.slice a3 l a4] 77)) [.slice a3 l a4] x:=⟨_,rfl,by rw[a2];exact(AA.keep (EI.stab _) b8 ((wB w3.heap.size w3).alloc (wC _) _)).base (Nat.zero_le _),fun e=>(by have h9:=(b8.blockT e).1;have m6:w.drew.heap.size=w.heap.size:=rfl;omega)⟩;have j0:=wI b0 I.size;have i3:∀D ∈ [Value.slice a3 l a4],D.oneCell'=true:=fun D N=>by rw[List.mem_singleton.1 N];rfl
        dsimp only
        refine A _ _ ?_;clear A K)))
 | succ m ih=>
  intro w l s x out h' hs a2 c3 b0 X C O J;have n5:((l:Int) == (k:Int))=false:=beq_eq_false_iff_ne.2 (by omega);have ck:=wJ X.k;have i9:=A;obtain⟨sa,sc,sb,so,rfl,i8,f9,_⟩:=i9;obtain rfl:=i8 (by omega);obtain⟨g7,ca⟩:=GJ X.a;obtain⟨D,N,b4⟩:=f9 s hs;have j3:=AC c3 N;have f2:ss.getD s []∈ss:=by rw[AK hs];exact wG hs
  have f4:Hid (∀S∈ss.getD s [],0<=S.getD 7 0/\S.getD 7 0 < (ss.length:Int)):=fun S M=>hM _ f2 S M;obtain⟨o,b5⟩:=AB (ss.getD s []);have g0:wL ss (m+1) s=wF ss m o:=by rw[wL,b5];rfl
  rw[b5] at b4 f4;rw[g0] at J|-;obtain⟨ua,uc,ub,uo,rfl,j2,d1,n9⟩:=b4;have i0:=qH (fun g5 (O:Below w0.heap.size w0 g5) j (z:j < o.length)=>And.intro (d1 j z).1 ((d1 j z).2.keep O));have n8:(s:Int) < (ss.length:Int):=by omega
  have e5:JQ w B g bo (out++(wF ss m (o.take 0)).map (x ++ ·)):=by
   have:out++(wF ss m (o.take 0)).map (x ++ ·)=out:=by simp[wF]
   rw[this];exact O
  have f0:=KW.refl B g bo w;have g1:=C;replace X:=qH X;replace b5:=qH b5;replace J:=qH J;clear g0 f2 N d1 O f9;go_enter Tryz.func128, Tryz.ntmps128
  go_wp2_with fail
  go_loopw [25] (fun iv wr=>∃i:Nat,iv = .int .i64 i/\i<=o.length/\JQ wr B g bo (out++(wF ss m (o.take i)).map (x ++ ·))/\AA 148 7 EI wr B (.slice (some ⟨g,0,none⟩) l cap) l x/\KW B g bo w wr) (fun iv _=>o.length - (intOf iv).toNat)
  case atStart=>exact⟨0,rfl,by omega,e5,g1,f0⟩
  case round=>
   clear e5 g1 f0 C ck g7 ca j3;obtain⟨i,rfl,hi,P,d6,Z⟩:=hrel;have H:=X.out.kw Z;have e7:Below w0.heap.size w0 wr:=c3.trans (Z.1.mono e3);have a':B<=wr.heap.size:=wI b0 Z.1.size;by_cases a0:i < o.length
   ·have n3:(i:Int) < (o.length:Int):=(by omega);obtain rfl:=j2 (by omega);obtain⟨d0,d2⟩:=i0.out wr e7 i a0;obtain⟨S,M⟩:=AB (o.getD i []);have d3:=f4.out S (by rw[<-M,AK a0];exact wG a0);rw[M] at d0 d2;obtain⟨y,a,b,c,d,f,h,y7,rfl⟩:=CT d0;replace d3:0<=y7/\y7 < (ss.length:Int):=d3;obtain⟨q,rfl⟩:∃q:Nat,y7=(q:Int):=⟨y7.toNat,by omega⟩;have i5:q < ss.length:=(by omega);obtain⟨c0,l4,l5,l6,l7,l8,l9,l'⟩:=d2.all8;have b7:=uU (ss:=ss) (m:=m) a0 M;have f3:CH [y,a,b,c,d,f,h,(q:Int)]=q:=rfl;have f8:rdOf [y,a,b,c,d,f,h,(q:Int)] = [y,a,b,c,d,f,h]:=rfl;rw[f3,f8] at b7
    have h5:Hid (out++(wF ss m (o.take i)).map (x ++ ·)++(wL ss m q).map ((x ++ [[y,a,b,c,d,f,h]]) ++ ·)=out++(wF ss m (o.take (i+1))).map (x ++ ·)):=by
     show _=_;rw[b7,List.map_append,List.map_map,List.append_assoc];congr 2
     refine List.map_congr_left fun g4 _=>?_;show(x ++ [[y,a,b,c,d,f,h]])++g4=x++([y,a,b,c,d,f,h]::g4)
     rw[List.append_assoc];rfl
    have e8:(out++(wF ss m (o.take i)).map (x ++ ·)).length+(wL ss m q).length<=1000000:=by
     have G:=uT ss m (i+1) o;have h2:=J.out;rw[b7,List.length_append,List.length_map] at G;rw[List.length_append,List.length_map];omega
    obtain⟨W,b2⟩:=AF (wr.alloc (.cells #[.int .i64 y,.int .i64 a,.int .i64 b,.int .i64 c,.int .i64 d,.int .i64 f,.int .i64 h,.int .i64 (q:Int)] 178));have c6:Below wr.heap.size wr W:=(by rw[b2];exact(wB _ _).alloc (wC _) _);have mb:W.heap[wr.heap.size]? = some (.cells #[.int .i64 y,.int .i64 a,.int .i64 b,.int .i64 c,.int .i64 d,.int .i64 f,.int .i64 h,.int .i64 (q:Int)] 178):=(by rw[b2];exact wE _ _);obtain⟨p0,p1,p2,p3,p4,p5,p6,p7⟩:=KL mb;have c2:=H.kw (KW.below c6 a');have m5:=wJ c2.f;obtain⟨n0,e',e1,R⟩:=d6.blockT (g:=g) rfl;have m9:bo < wr.heap.size:=(by obtain⟨_,_,G,_⟩:=P;exact(wD.1 G).1);have f5:wr.heap.size ≠ g:=(by omega);have f6:wr.heap.size ≠ bo:=(by omega);have V:Below wr.heap.size wr (W.alloc (.cells #[.int .i64 y,.int .i64 a,.int .i64 b,.int .i64 c,.int .i64 d,.int .i64 f,.int .i64 h] 148)).drew:=(c6.alloc c6.size _).drew;have j6:AA 148 7 EI (W.alloc (.cells #[.int .i64 y,.int .i64 a,.int .i64 b,.int .i64 c,.int .i64 d,.int .i64 f,.int .i64 h] 148)).drew B (.slice (some ⟨g,0,none⟩) l cap) l x:=d6.wd7 (V.block g e');have mA:(W.alloc (.cells #[.int .i64 y,.int .i64 a,.int .i64 b,.int .i64 c,.int .i64 d,.int .i64 f,.int .i64 h] 148)).drew.heap[wr.heap.size]? = some (.cells #[.int .i64 y,.int .i64 a,.int .i64 b,.int .i64 c,.int .i64 d,.int .i64 f,.int .i64 h,.int .i64 (q:Int)] 178):=(Below.heap_alloc W (.cells #[.int .i64 y,.int .i64 a,.int .i64 b,.int .i64 c,.int .i64 d,.int .i64 f,.int .i64 h] 148) wr.heap.size (wD.1 mb).1).trans mb;have i2:∀j D,([.int .i64 y,.int .i64 a,.int .i64 b,.int .i64 c,.int .i64 d,.int .i64 f,.int .i64 h]:List Value)[j]? = some D->(W.alloc (.cells #[.int .i64 y,.int .i64 a,.int .i64 b,.int .i64 c,.int .i64 d,.int .i64 f,.int .i64 h] 148)).drew.cell? ((⟨W.heap.size,0,none⟩:Addr).add j)=some D:=World.news_of_block (wE W (.cells #[.int .i64 y,.int .i64 a,.int .i64 b,.int .i64 c,.int .i64 d,.int .i64 f,.int .i64 h] 148))
    have h4:∀D∈([.int .i64 y,.int .i64 a,.int .i64 b,.int .i64 c,.int .i64 d,.int .i64 f,.int .i64 h]:List Value),D.oneCell'=true:=fun D N=>by
     simp only[List.mem_cons,List.not_mem_nil,or_false] at N;rcases N with rfl|rfl|rfl|rfl|rfl|rfl|rfl<;>rfl
    have i6:l+1<=cap:=(by omega);have f1:KW B g bo wr (W.alloc (.cells #[.int .i64 y,.int .i64 a,.int .i64 b,.int .i64 c,.int .i64 d,.int .i64 f,.int .i64 h] 148)).drew:=KW.below V a';have c1:B<=(W.alloc (.cells #[.int .i64 y,.int .i64 a,.int .i64 b,.int .i64 c,.int .i64 d,.int .i64 f,.int .i64 h] 148)).drew.heap.size:=wI a' V.size
    have i':=qH (fun v (F:AA 148 7 EI v B (.slice (some ⟨g,0,none⟩) (l+1) cap) (l+1) (x ++ [[y,a,b,c,d,f,h]])) (L:(W.alloc (.cells #[.int .i64 y,.int .i64 a,.int .i64 b,.int .i64 c,.int .i64 d,.int .i64 f,.int .i64 h] 148)).drew.grownBy v (some g))=>
     have E:KW B g bo wr v:=f1.trans (KW.grown L c1 c')
     ih (w:=v) (l:=l+1) (s:=q) (x:=x ++ [[y,a,b,c,d,f,h]]) (out:=out++(wF ss m (o.take i)).map (x ++ ·)) (by omega) i5 (by rw[List.length_append,a2];rfl) (e7.trans (E.1.mono e3)) (wI a' E.1.size) (H.kw E) F
      (P.keepG ⟨e1,R⟩ (fun j z h7=>(L.block j (Nat.lt_of_lt_of_le z V.size) (by simpa using h7)).trans (V.block j z))) e8)
    replace H:=qH H;replace c2:=qH c2;replace P:=qH P;replace M:=qH M;replace mA:=qH mA;replace R:=qH R;clear d0 d2 d3 b7 e8 mb f3 f8;have m0:=(GJ H.out.a).2;go_wp2_with fail
    rw[<-b2];clear b2
    go_region_held3 (fun w'=>w'.cell? ⟨bf,0,none⟩=some (.func (.func 128) #[] #[.pointer (some ⟨bk,0,none⟩),.pointer (some ⟨bo,0,none⟩),.pointer (some ⟨ba,0,none⟩),.pointer (some ⟨bf,0,none⟩)])/\w'.cell? ⟨wr.heap.size,0,none⟩=some (.int .i64 y)/\w'.cell? ⟨wr.heap.size,1,none⟩=some (.int .i64 a)/\w'.cell? ⟨wr.heap.size,2,none⟩=some (.int .i64 b)/\w'.cell? ⟨wr.heap.size,3,none⟩=some (.int .i64 c)/\w'.cell? ⟨wr.heap.size,4,none⟩=some (.int .i64 d)/\w'.cell? ⟨wr.heap.size,5,none⟩=some (.int .i64 f)/\w'.cell? ⟨wr.heap.size,6,none⟩=some (.int .i64 h)/\w'.cell? ⟨wr.heap.size,7,none⟩=some (.int .i64 (q:Int)))
     (first
      | go_keep
      | (exact⟨g8,r0,r1,r2,r3,r4,r5,r6,r7⟩)
      | (exact⟨d',z0,z1,z2,z3,z4,z5,z6,z7⟩))
     (first
      | ((refine tW (B:=B) (x:=x) (r:=[y,a,b,c,d,f,h]) (cs:=[.int .i64 y,.int .i64 a,.int .i64 b,.int .i64 c,.int .i64 d,.int .i64 f,.int .i64 h]) (by rfl) _ _ (by rfl) (by rfl) j6 ⟨W.heap.size,0,none⟩ 1 (by rfl) rfl i2 h4 rfl i6 ?_;intro v F L;have E:KW B g bo wr v:=f1.trans (KW.grown L c1 c');have d':=wJ (H.out.kw E).f;have m7:=(KW.grown (bo:=bo) L c1 c').box mA.out f5 f6 (by decide);obtain⟨z0,z1,z2,z3,z4,z5,z6,z7⟩:=KL m7;replace m7:=qH m7))
      | (go_at_call 128;refine(i'.out v F L).mono ?_;rintro e w9 ⟨rfl,e6,g2,b3⟩;have g8:=wJ ((H.out.kw E).kw b3).f;obtain⟨r0,r1,r2,r3,r4,r5,r6,r7⟩:=KL (b3.box m7.out f5 f6 (by decide))))
    rw[h5.out] at e6;have j7:=g2.pre a2;have h8:=Z.trans (E.trans b3);clear F g2 b3 E;go_wp2;go_roundw
    case rel=>exact⟨i+1,by go_num,a0,e6,j7,h8⟩
    case measure=>simp[intOf];omega
   ·obtain rfl:i=o.length:=(by omega);have n1 : ¬((o.length:Int) < (o.length:Int)):=(by omega);rw[List.take_length] at P;go_wp2
    first
     | go_end0
     | refine bodyPost_ret (results_none rfl _ _ _) rfl ?_
    exact⟨rfl,P,d6,Z⟩
theorem cV {T E:TypeId}{z:Value}{k bytes:Nat}(a:EA Tryz.prog T E z k bytes) (c:Nat) (d:c<=1000000) (y:bytes<=128) (w:World) :
  (Instr.makeSlice T (.int .i64 0) (.int .i64 (c:Int))).run Tryz.prog w = .ok (.slice (some ⟨w.heap.size,0,none⟩) 0 c) (w.alloc (.cells (madeCells z.cells (c * k)) E)):=by
 obtain⟨i,e,f,g,j⟩:=info_parts a.2.1
 have b:(i.bytes:Int) * (c:Int)<=281474976710656:=by
  have h:((i.bytes * c:Nat):Int)<=281474976710656:=by
   have:i.bytes * c<=128 * 1000000:=Nat.mul_le_mul (by omega) d
   omega
  rwa [Int.natCast_mul] at h
 have r:=run_make (P:=Tryz.prog) w T E i z a.1 e f .i64 .i64 0 c (by omega) (by omega) b (by omega);simp only[Int.toNat_natCast,g,Int.toNat_zero] at r;exact r
theorem bI {α:Type}{E:TypeId}{z:Value}{k:Nat}{El:World->List Value->α->Prop}{w:World}{B c:Nat}(h:B<=w.heap.size) (a:c<=1000000) :
  AA E k El (w.alloc (.cells (madeCells z.cells (c * k)) E)) B (.slice (some ⟨w.heap.size,0,none⟩) 0 c) 0 []:=
 ⟨[],⟨by simp,.inr ⟨w.heap.size,c,_,rfl,h,wE w _,Nat.zero_le _,by unfold maxLen;omega,by rw[size_madeCells],by simp⟩⟩,rfl,by simp,by simp⟩
theorem sI {W:World}{p:Addr}{v u:Value}(c:W.cell? p=some u) (f:W.frozen? p=false) (h:v.oneCell'=true):(store p v).run Tryz.prog W = .ok () (W.setCell p v):=by
 rw[run_store Tryz.prog W p v _ h,c];simp[f]
theorem LF (ss:Jc):∀(m s:Nat) (x:Jb),x∈wL ss m s->x.length=m
 | 0,_,x,h=>by rw[wL,List.mem_singleton] at h;subst h;rfl
 | m+1,s,x,h=>by
  rw[wL,List.mem_flatMap] at h;obtain⟨v,_,h⟩:=h;obtain⟨y,a,rfl⟩:=List.mem_map.1 h;rw[List.length_cons,LF ss m _ y a]
theorem vA {w:World}{v:Value}{n:Int}{ss:Jc}(Q:DC w v n ss) (h0:BU n ss=0) (O:KJ ss) {k:Nat}(Y:k<=6) (J:num ss 4097 k<=4096) :
  Calls Tryz.prog 73 #[v,.int .i64 (k:Int)] w fun e w'=>∃u,e = .returned (.tuple #[u,.int .i64 0])/\BT 7 w' u (wL ss k 0)/\Below w.heap.size w w':=by
 have S:=ES.ofWd O;have Z:=O.2.2.1;have e0:=LZ S (L:=4097) (by omega) k 0 Z;have e1:(wL ss k 0).length<=4096:=by rw[MI];unfold num at J;omega
 obtain⟨a,r⟩:=AB (num ss 4097 k);have N:=qH (fun a' (hb:Below w.heap.size w a')=>iO (Q.keep hb) h0 O Y J);rw[r] at J;simp only[r] at N;obtain⟨sv,rfl,K⟩:=Q;obtain⟨y,A,c5⟩:=K.shape;subst c5;obtain⟨i,f⟩:=AF ((w.alloc (.cells #[.int .i64 n,.slice y ss.length A] 27)).alloc (.cells #[.int .i64 (k:Int)] 3));have q:i.heap.size=w.heap.size+2:=by rw[f];simp
 have D:Below w.heap.size w i:=by rw[f];exact((wB _ w).alloc (wC _) _).alloc (by simp) _
 have kA:i.heap[w.heap.size]? = some (.cells #[.int .i64 n,.slice y ss.length A] 27):=by
  rw[f];exact(Below.heap_alloc _ _ _ (by simp)).trans (World.alloc_heap_new w _)
 have kK:i.heap[w.heap.size+1]? = some (.cells #[.int .i64 (k:Int)] 3 (0,0)):=by
  rw[f];have:=World.alloc_heap_new (w.alloc (.cells #[.int .i64 n,.slice y ss.length A] 27)) (.cells #[.int .i64 (k:Int)] 3)
  rwa [World.size_alloc] at this
 obtain⟨d0,d1⟩:=GJ kA;have ck:=wJ kK
 have e2:∀w:World,(Instr.makeSlice 133 (.int .i64 0) (.int .i64 (a:Int))).run Tryz.prog w = .ok (.slice (some ⟨w.heap.size,0,none⟩) 0 a) (w.alloc (.cells (madeCells #[.slice none 0 0] a) 77)):=fun w=>by
  have h:=cV SO a (by omega) (by decide) w;rwa [Nat.mul_one] at h
 have e3:∀w:World,(Instr.makeSlice 77 (.int .i64 0) (.int .i64 (k:Int))).run Tryz.prog w = .ok (.slice (some ⟨w.heap.size,0,none⟩) 0 k) (w.alloc (.cells (madeCells #[.int .i64 0,.int .i64 0,.int .i64 0,.int .i64 0,.int .i64 0,.int .i64 0,.int .i64 0] (k * 7)) 148)):=fun w=>cV JX k (by omega) (by decide) w;replace q:=qH q;replace K:=qH K;replace O:=qH O;replace r:=qH r;go_enter Tryz.func73, Tryz.ntmps73
 go_wp2_with fail
 rw[<-f];replace f:=qH f;refine(N.out i D).mono ?_;rintro e W2 ⟨rfl,g⟩;have U:=bt D g D.size;have d9:=AC g ck;have d5:=AC g d0;have d6:=AC g d1;have e5:w.heap.size+2<=W2.heap.size:=by have:=q.out;have:=g.size;omega
 have c7:=(g.block w.heap.size (by have:=q.out;omega)).trans kA;have c8:=(g.block (w.heap.size+1) (by have:=q.out;omega)).trans kK;obtain⟨j,o⟩:=AF (W2.alloc (.cells (madeCells #[.slice none 0 0] a) 77));obtain⟨P,p⟩:=AF ((((W2.alloc (.cells (madeCells #[.slice none 0 0] a) 77)).alloc (.cells #[.slice (some ⟨W2.heap.size,0,none⟩) 0 a] 133)).alloc (.cells #[Value.nilFunc] 198)));have c3:j.heap.size=W2.heap.size+1:=by rw[o];simp
 have c4:P.heap.size=W2.heap.size+3:=by rw[p];simp
 have M:P.heap[W2.heap.size+1+1]? = some (.cells #[Value.nilFunc] 198 (0,0)):=by
  rw[p];have:=World.alloc_heap_new ((W2.alloc (.cells (madeCells #[.slice none 0 0] a) 77)).alloc (.cells #[.slice (some ⟨W2.heap.size,0,none⟩) 0 a] 133)) (.cells #[Value.nilFunc] 198)
  simpa only [World.size_alloc] using this
 have a2:=sI (v:=(.func (.func 128) #[] #[.pointer (some ⟨w.heap.size+1,0,none⟩),.pointer (some ⟨W2.heap.size+1,0,none⟩),.pointer (some ⟨w.heap.size,0,none⟩),.pointer (some ⟨W2.heap.size+1+1,0,none⟩)])) (wJ M) (free_of_one M) rfl;obtain⟨W,b⟩:=AF (((W2.alloc (.cells (madeCells #[.slice none 0 0] a) 77)).alloc (.cells #[.slice (some ⟨W2.heap.size,0,none⟩) 0 a] 133)).alloc (.cells #[(.func (.func 128) #[] #[.pointer (some ⟨w.heap.size+1,0,none⟩),.pointer (some ⟨W2.heap.size+1,0,none⟩),.pointer (some ⟨w.heap.size,0,none⟩),.pointer (some ⟨W2.heap.size+1+1,0,none⟩)])] 198));have a1:W.heap.size=W2.heap.size+3:=by rw[b];simp
 have V:Below j.heap.size j W:=by rw[b,<-o];exact((wB _ j).alloc (wC _) _).alloc (by simp) _
 have F:Below W2.heap.size W2 W:=by rw[b];exact(((wB _ W2).alloc (wC _) _).alloc (by simp) _).alloc (by simp;omega) _
 have a0:AA 77 1 (IB W.heap.size) j w.heap.size (.slice (some ⟨W2.heap.size,0,none⟩) 0 a) 0 []:=by
  have h:=bI (E:=77) (z:=.slice none 0 0) (k:=1) (El:=IB W.heap.size) (w:=W2) (B:=w.heap.size) (c:=a) (by omega) (by omega);rw[Nat.mul_one] at h;rw[o];exact h
 have a9:W.heap[W2.heap.size+1]? = some (.cells #[.slice (some ⟨W2.heap.size,0,none⟩) 0 a] 133 (0,0)):=by
  rw[b];refine(Below.heap_alloc _ _ _ (by simp)).trans ?_;have:=World.alloc_heap_new (W2.alloc (.cells (madeCells #[.slice none 0 0] a) 77)) (.cells #[.slice (some ⟨W2.heap.size,0,none⟩) 0 a] 133)
  rwa [World.size_alloc] at this
 have a6:W.heap[W2.heap.size+1+1]? = some (.cells #[(.func (.func 128) #[] #[.pointer (some ⟨w.heap.size+1,0,none⟩),.pointer (some ⟨W2.heap.size+1,0,none⟩),.pointer (some ⟨w.heap.size,0,none⟩),.pointer (some ⟨W2.heap.size+1+1,0,none⟩)])] 198 (0,0)):=by
  rw[b];have:=World.alloc_heap_new ((W2.alloc (.cells (madeCells #[.slice none 0 0] a) 77)).alloc (.cells #[.slice (some ⟨W2.heap.size,0,none⟩) 0 a] 133)) (.cells #[(.func (.func 128) #[] #[.pointer (some ⟨w.heap.size+1,0,none⟩),.pointer (some ⟨W2.heap.size+1,0,none⟩),.pointer (some ⟨w.heap.size,0,none⟩),.pointer (some ⟨W2.heap.size+1+1,0,none⟩)])] 198)
  simpa only [World.size_alloc] using this
 have a5:=(F.block w.heap.size (by omega)).trans c7;have a8:=(F.block (w.heap.size+1) (by omega)).trans c8;have G:=bt U F U.size;obtain⟨m,C⟩:=AF ((W.alloc (.cells (madeCells #[.int .i64 0,.int .i64 0,.int .i64 0,.int .i64 0,.int .i64 0,.int .i64 0,.int .i64 0] (k * 7)) 148)).drew);have d:Below W.heap.size W m:=by rw[C];exact((wB _ W).alloc (wC _) _).drew
 have H:=bt G d G.size
 have a3:AA 148 7 EI m w.heap.size (.slice (some ⟨W.heap.size,0,none⟩) 0 k) 0 []:=by
  have h:=bI (E:=148) (z:=.agg #[.int .i64 0,.int .i64 0,.int .i64 0,.int .i64 0,.int .i64 0,.int .i64 0,.int .i64 0]) (k:=7) (El:=EI) (w:=W) (B:=w.heap.size) (c:=k) G.size (by omega);rw[C];exact h.wd7 rfl
 have X:NR m k n (.slice y ss.length A) (.func (.func 128) #[] #[.pointer (some ⟨w.heap.size+1,0,none⟩),.pointer (some ⟨W2.heap.size+1,0,none⟩),.pointer (some ⟨w.heap.size,0,none⟩),.pointer (some ⟨W2.heap.size+1+1,0,none⟩)]) 198 W.heap.size (W2.heap.size+1) (w.heap.size+1) w.heap.size (W2.heap.size+1+1):=
  ⟨(d.block _ (by omega)).trans a8,(d.block _ (by omega)).trans a5,(d.block _ (by omega)).trans a6,by decide,by omega,by omega,by omega,by omega,by omega,by omega,by omega⟩
 have T:JQ m w.heap.size W.heap.size (W2.heap.size+1) []:=by
  refine⟨_,0,(d.block _ (by omega)).trans a9,?_,by omega⟩;exact AA.keep (IB.stab _ (by decide)) (AA.keep (IB.stab _ (by decide)) a0 V) d
 have R:=uZ S K.out Y (B:=w.heap.size) (bo:=W2.heap.size+1) (cap:=k) (wC _) (wC _) (by omega:w.heap.size<=W.heap.size) k (w:=m) (l:=0) (s:=0) (x:=[]) (out:=[]) (by omega) Z rfl H H.size X a3 T (by simp;omega);rw[show((0:Nat):Int)=0 from rfl] at R;replace R:=qH R;replace a1:=qH a1;replace X:=qH X;have d8:=wJ a6;have d':=wJ a8;rw[p] at a2;replace o:=qH o;replace p:=qH p;replace b:=b.symm;have b6:=qH b;clear T a3 M a0 d V a5 a9 c3 c4 b;go_wp2_with fail
 rw[b6.out];clear a2
 go_region_held3 (fun w'=>w'.cell? ⟨W2.heap.size+1+1,0,none⟩=some (.func (.func 128) #[] #[.pointer (some ⟨w.heap.size+1,0,none⟩),.pointer (some ⟨W2.heap.size+1,0,none⟩),.pointer (some ⟨w.heap.size,0,none⟩),.pointer (some ⟨W2.heap.size+1+1,0,none⟩)])/\w'.cell? ⟨w.heap.size+1,0,none⟩=some (.int .i64 (k:Int)))
  (first
   | go_keep
   | (exact⟨wJ (X.out.kw I).f,wJ (X.out.kw I).k⟩))
  (first
   | (go_at_call 128;rw[<-C];refine R.out.mono ?_;rintro e w9 ⟨rfl,b7,e6,I⟩))
 obtain⟨ov,no,b',t,_⟩:=b7;have d7:=wJ b';have c1:([]:Jc)++(wL ss k 0).map (([]:Jb) ++ ·)=wL ss k 0:=by simp
 rw[c1] at t;have e4:=t.length;obtain⟨oa,oc,c2⟩:=t.shape;subst c2;have c0:BT 7 w9 (.slice oa no oc) (wL ss k 0):=AA.kss7 (t.mono fun _ _ ⟨u,h1,h2,_⟩=>⟨u,h1,h2⟩) (by omega) (fun d4 hx=>by rw[LF ss k 0 d4 hx];omega);have b9:=H.trans I.1;go_wp2;go_ret2
 exact⟨_,rfl,c0,b9⟩
attribute [local go_sem] Oper.semAt_some
def VK:Array Value:=#[.int .i64 0,.int .i64 0,.int .i64 0,.slice none 0 0,.int .i64 0,.slice none 0 0,.int .i64 0,.int .i64 0,.slice none 0 0,.slice none 0 0]
theorem OB {cs:List Cs}{ss:Jc}(M:ES ss) (a:0 < ss.length) {k:Nat}(l:1<=cs.length) (h:numP cs ss k<=60):num ss 1048577 k=DX ss k 0/\num ss 4097 k=DX ss k 0/\cs.length * DX ss k 0<=60:=by
 have b:num ss 4097 k=min (DX ss k 0) 4097:=by unfold num;rw[LZ M (by omega) k 0 a]
 have d:num ss 1048577 k=min (DX ss k 0) 1048577:=by unfold num;rw[LZ M (by omega) k 0 a]
 unfold numP at h;rw[b] at h;have e:1 * min (DX ss k 0) 4097<=cs.length * min (DX ss k 0) 4097:=Nat.mul_le_mul_right _ l;have c:min (DX ss k 0) 4097=DX ss k 0:=by omega
 rw[c] at h;exact⟨by omega,by omega,h⟩
theorem SI {ss:Jc}(h:KJ ss):∀(k s:Nat),s < ss.length->1<=DX ss k s
 | 0,_,_=>wC _
 | k+1,s,hs=>by
  have m:ss.getD s []∈ss:=by rw[AK hs];exact wG hs
  obtain⟨b,c⟩:=h.2.2.2 _ m;rw[DX];cases l:ss.getD s [] with
  | nil=>rw[l] at b;cases b
  | cons a r=>
   rw[l] at c;obtain⟨_,d,e⟩:=c a (by simp);have:=SI h k (CH a) (by rw[CH];omega)
   simp only[List.map_cons,List.sum_cons];omega
theorem fK {w:World}{v:Value}{n i o an r:Int}{cs:List Cs}{ss:Jc}{N k:Nat}(h:ED w v n i o cs an ss r) (hN:n=(N:Int)) (hr:r=(k:Int)) (hf:FV ss=true) (m9:GS cs=true) (hc:DJ n i o cs an ss r=0) (hn:numP cs ss k<=60) :
  Calls Tryz.prog 28 #[v] w fun e w'=>∃v',e = .returned (.tuple #[v',.int .i64 0])/\CC w' v' n i o cs an ss r n (CR N cs (wL ss k 0)).1 (CR N cs (wL ss k 0)).2/\Below w.heap.size w w':=by
 have B6 : Tryz.prog.follows .mixedOrders=true:=by kernel_rfl
 have B4:=@run_makeMap Tryz.prog;subst hN hr;have m6:=hc;obtain⟨g9,c2,c3,c4,C⟩:=LQ hc;obtain⟨l1,x9⟩:=MR g9;obtain⟨⟨n1,C2⟩,v9⟩:=MF g9;have g8:=qH (fun a (Z:Below w.heap.size w a)=>YL (h.keep Z) hf);have k7:=qH (fun a (Z:Below w.heap.size w a) (f:1<=ss.length) (t:ss.length<=1000) (h3:∀x∈ss,x.length<=1000000)=>iM (h.keep Z) l1 x9 f t (YO m9) h3);obtain⟨d2,c,c1,c',rfl,hT,hA⟩:=h;have Q:=(JU hA hf c2).wd;obtain⟨k',r',h0⟩:=OB (ES.ofWd Q) Q.2.2.1 l1 hn;have v5:DX ss k 0<=60:=by have:=Nat.mul_le_mul_right (DX ss k 0) l1;omega
 have m3:=qH (fun a (Z:Below w.heap.size w a)=>vA (hA.keep Z) c2 Q (k:=k) (by omega) (by omega));have l4:=hA.len8;have d':=qH (LF ss k 0);have n6:=qH (RI l4 c2 k 0);have f8:=MI ss k 0;have n5:1<=(wL ss k 0).length:=by rw[f8];exact SI Q k 0 Q.2.2.1
 have j1:∀x∈ss,x.length<=1000000:=fun x hx=>by
  have:=Q.2.1
  have t:x.length<=CA ss:=nC hx;omega
 have w9:ss.length<=100000:=by have:=Q.1;omega
 have w8:=qH j1;have q8:=qH (fun a (Z:Below w.heap.size w a)=>k7.out a Z Q.2.2.1 (by have:=Q.1;omega) j1)
 have e1:(if DJ (N:Int) i o cs an ss (k:Int) ≠ 0 then ((0:Int),DJ (N:Int) i o cs an ss (k:Int)) else JW cs ss ((k:Int)).toNat)=(((DX ss k 0 * cs.length:Nat):Int),0):=by
  rw[if_neg (fun h=>h m6),Int.toNat_natCast];unfold JW;rw[k',if_neg (by omega),if_neg (by rw[Nat.mul_comm];omega)]
 rw[e1] at g8;rw[Nat.mul_comm] at h0;obtain⟨q',hM⟩:=AB (DX ss k 0 * cs.length);rw[hM] at g8 h0;obtain⟨s,n8⟩:=AB (wL ss k 0);rw[n8] at m3 d' n6 f8 n5|-;have s':cs.length * s.length<=60:=by rw[f8,Nat.mul_comm,hM];exact h0
 have B1:k<=6:=by omega
 obtain⟨sv,d9,m1⟩:=hT;injection d9 with d9
 have d9:Value.slice d2 cs.length c=sv:=by
  have:=congrArg (fun d2:Array Value=>d2.toList) d9
  simpa using this
 subst d9
 obtain⟨D,V,rfl,f4⟩:∃b a0,d2=some ⟨b,a0,none⟩/\KH w b a0 cs:=by
  obtain⟨r0,c2,b,a0,f,t,h3,_⟩:=m1;injection f with e1 _ _;exact⟨b,a0,e1.trans (t l1),h3⟩
 have A9:D < w.heap.size:=by
  obtain⟨_,_,_,f,_⟩:=f4 0 (by omega);exact World.block_lt_of_cell? _ _ f
 replace f4:=qH f4;clear k7 j1 Q hn hc m6 g9 c2 c3 c4 C k' r' v5 e1 hM f8 l4 n8 m1 hA;obtain⟨l,Y⟩:=AF (((w.alloc (.cells #[.int .i64 (N:Int),.int .i64 i,.int .i64 o,.slice (some ⟨D,V,none⟩) cs.length c,.int .i64 an,.slice c1 ss.length c',.int .i64 (k:Int)] 29)).alloc (.cells #[.int .i64 0,.int .i64 0,.int .i64 0,.slice none 0 0,.int .i64 0,.slice none 0 0,.int .i64 0,.int .i64 0,.slice none 0 0,.slice none 0 0] 35)).alloc (.cells #[.int .i64 0] 41));have B7:l.heap.size=w.heap.size+3:=by rw[Y];simp
 have d6:Below w.heap.size w l:=by rw[Y];exact(((wB _ w).alloc (wC _) _).alloc (by simp) _).alloc (by simp;omega) _
 have kP:l.heap[w.heap.size]? = some (.cells #[.int .i64 (N:Int),.int .i64 i,.int .i64 o,.slice (some ⟨D,V,none⟩) cs.length c,.int .i64 an,.slice c1 ss.length c',.int .i64 (k:Int)] 29):=by
  rw[Y];exact(Below.heap_alloc _ _ _ (by simp;omega)).trans ((Below.heap_alloc _ _ _ (by simp)).trans (wE w _))
 have kS:l.heap[w.heap.size+1]? = some (.cells #[.int .i64 0,.int .i64 0,.int .i64 0,.slice none 0 0,.int .i64 0,.slice none 0 0,.int .i64 0,.int .i64 0,.slice none 0 0,.slice none 0 0] 35):=by
  rw[Y];have:=wE (w.alloc (.cells #[.int .i64 (N:Int),.int .i64 i,.int .i64 o,.slice (some ⟨D,V,none⟩) cs.length c,.int .i64 an,.slice c1 ss.length c',.int .i64 (k:Int)] 29)) (.cells #[.int .i64 0,.int .i64 0,.int .i64 0,.slice none 0 0,.int .i64 0,.slice none 0 0,.int .i64 0,.int .i64 0,.slice none 0 0,.slice none 0 0] 35)
  rw[World.size_alloc] at this;exact(Below.heap_alloc _ _ _ (by simp)).trans this
 have kE:l.heap[w.heap.size+1+1]? = some (.cells #[.int .i64 0] 41):=by
  rw[Y];have:=wE ((w.alloc (.cells #[.int .i64 (N:Int),.int .i64 i,.int .i64 o,.slice (some ⟨D,V,none⟩) cs.length c,.int .i64 an,.slice c1 ss.length c',.int .i64 (k:Int)] 29)).alloc (.cells #[.int .i64 0,.int .i64 0,.int .i64 0,.slice none 0 0,.int .i64 0,.slice none 0 0,.int .i64 0,.int .i64 0,.slice none 0 0,.slice none 0 0] 35)) (.cells #[.int .i64 0] 41)
  rwa [World.size_alloc,World.size_alloc] at this
 have HK:=qH (fun a (Z:Below l.heap.size l a)=>keep7 Z (box7' kP));obtain⟨G,H,I,J,M,O,P⟩:=HK.out l (wB _ _);rw[Y] at G H I J M O P;have B2:=qH kP;have w2:=qH kS;have w1:=qH kE;have dM:decide ((4096:Int) < (q':Int))=false:=vY (by omega);clear kP kS kE;refine callsIn_wide.1 (callsIn_of_wp_marks (n:=0) Tryz.func28 rfl trivial ?_);simp only[Tryz.ntmps28,List.size_toArray,List.length_cons,List.length_nil,Nat.reduceAdd,Nat.reduceSub,Array.replicate_succ,Array.replicate_zero,List.push_toArray,List.append_toArray,List.nil_append,List.cons_append];refine wpIn_wide.2 ?_;go_wp2_with fail
 rw[<-Y];replace Y:=qH Y;refine(g8.out l d6).mono ?_;rintro e w3 ⟨rfl,i3⟩;clear G H I J M O P;obtain⟨G,H,I,J,M,O,P⟩:=HK.out w3 i3;go_wp2_with fail
 refine(m3.out w3 (btt d6 i3)).mono ?_;rintro e w4 ⟨u,rfl,hu,t9⟩;obtain⟨ua,uc,rfl⟩:=hu.shape
 obtain⟨b7,d0,rfl,n9⟩:∃b a0,ua=some ⟨b,a0,none⟩/\LH 7 w4 b a0 s:=by
  obtain⟨r0,c2,b,a0,f,t,h3,_⟩:=hu;injection f with e1 _ _;exact⟨b,a0,e1.trans (t n5),h3⟩
 obtain⟨e',f5⟩:∃l0:Nat->Value,∀j,j < s.length->w4.cell? ⟨b7,d0+j,none⟩=some (l0 j)/\KS 7 w4 (l0 j) (s.getD j []):=by
  refine Classical.axiomOfChoice (r:=fun j (g4:Value)=>j < s.length->w4.cell? ⟨b7,d0+j,none⟩=some g4/\KS 7 w4 g4 (s.getD j [])) fun j=>?_;by_cases hj:j < s.length
  ·obtain⟨u,f,t⟩:=n9 j hj;exact⟨u,fun _=>⟨f,t⟩⟩
  ·exact⟨undef,fun h=>absurd h hj⟩
 replace f5:=qH f5;clear n9 hu;have i1:=btt i3 t9;clear G H I J M O P;obtain⟨G,H,I,J,M,O,P⟩:=HK.out w4 i1;go_wp2_with fail
 refine(q8.out w4 (btt d6 i1)).mono ?_;rintro e d ⟨D4,rfl,m0,i4⟩;have h6:=m0;obtain⟨S,C,T,U,B5,y8,A0,A1,rfl,-,-⟩:=m0;replace h6:=qH h6;have R:=btt i1 i4;clear G H I J M O P;obtain⟨q,c5⟩:=AF (d.alloc (.cells #[.int .i64 (N:Int),.int .i64 i,.int .i64 o,.slice S cs.length C,.int .i64 an,.slice T ss.length U,.int .i64 (k:Int),.int .i64 0,.slice none 0 0,.slice none 0 0] 35));have i5:Below d.heap.size d q:=by rw[c5];exact(wB _ _).alloc (wC _) _
 have a2:q.heap.size=d.heap.size+1:=by rw[c5];simp
 have l2:q.heap[d.heap.size]? = some (.cells #[.int .i64 (N:Int),.int .i64 i,.int .i64 o,.slice S cs.length C,.int .i64 an,.slice T ss.length U,.int .i64 (k:Int),.int .i64 0,.slice none 0 0,.slice none 0 0] 35):=by rw[c5];exact wE _ _
 have i2:Below l.heap.size l q:=btt R i5;have i9:=qH l2;clear l2;go_upto_region 10 with fail
 rw[<-c5];replace c5:=qH c5;obtain⟨G,H,I,J,M,O,P⟩:=HK.out q i2;have i':IM EG (q.alloc (.map #[] 0)) q.heap.size []:=MX.made q;go_upto_region 11 with fail
 obtain⟨B,hB⟩:=AB (d.heap.size);rw[hB] at a2 i9|-;obtain⟨z,a1⟩:=AF (((q.alloc (.map #[] 0)).alloc (.cells #[.int .i64 (N:Int),.slice none 0 0,.map (some (B+1))] 140)).alloc (.cells #[.pointer (some ⟨B+1+1,0,none⟩)] 137));rw[<-a1];have f7:z.heap.size=B+4:=by rw[a1];simp[a2]
 have i6:Below q.heap.size q z:=by rw[a1];exact(((wB _ q).alloc (wC _) _).alloc (by simp) _).alloc (by simp;omega) _
 have kM:IM EG z (B+1) []:=by
  rw[a2] at i';refine i'.keep ?_;rw[a1];exact(Below.heap_alloc _ _ _ (by simp[a2])).trans (Below.heap_alloc _ _ _ (by simp[a2]))
 have kB:z.heap[B+1+1]? = some (.cells #[.int .i64 (N:Int),.slice none 0 0,.map (some (B+1))] 140):=by
  rw[a1];have:=wE (q.alloc (.map #[] 0)) (.cells #[.int .i64 (N:Int),.slice none 0 0,.map (some (B+1))] 140)
  rw[World.size_alloc,a2] at this;exact(Below.heap_alloc _ _ _ (by simp[a2])).trans this
 have o2:z.heap[B+1+1+1]? = some (.cells #[.pointer (some ⟨B+1+1,0,none⟩)] 137):=by
  rw[a1];have:=wE ((q.alloc (.map #[] 0)).alloc (.cells #[.int .i64 (N:Int),.slice none 0 0,.map (some (B+1))] 140)) (.cells #[.pointer (some ⟨B+1+1,0,none⟩)] 137)
  rwa [World.size_alloc,World.size_alloc,a2] at this
 have o1:=AN i6 i9.out;have hU:BX z B (B+1+1) (B+1) (N:Int) []:=⟨_,kB,AA.nil _ _,kM,List.nodup_nil,by simp,by omega,by omega⟩;have m4:Below l.heap.size l z:=btt i2 i6;have t':Below d.heap.size d z:=btt i5 i6;clear i' kM kB G H I J M O P i9 i5 i2;replace a1:=qH a1;obtain⟨G,H,I,J,M,O,P⟩:=HK.out z m4;go_wp2_with fail
 refine jQ.mono ?_;rintro e F ⟨rfl,c8⟩;rw[f7];have d7:Below z.heap.size z F:=by rw[c8];exact((wB _ _).alloc (wC _) _).alloc (by simp) _
 have B8:F.heap.size=B+4+2:=by rw[c8];simp[f7]
 have kX:F.heap[B+4]? = some (.cells #[.int .i64 (N:Int),.int .i64 i,.int .i64 o,.slice (some ⟨D,V,none⟩) cs.length c,.int .i64 an,.slice c1 ss.length c',.int .i64 (k:Int)] 29):=by
  rw[c8,<-f7];exact(Below.heap_alloc _ _ _ (by simp)).trans (wE _ _)
 have kY:F.heap[B+4+1]? = some (.cells #[.slice (some ⟨b7,d0,none⟩) s.length uc] 133):=by
  rw[c8];have:=wE (z.alloc (.cells #[.int .i64 (N:Int),.int .i64 i,.int .i64 o,.slice (some ⟨D,V,none⟩) cs.length c,.int .i64 an,.slice c1 ss.length c',.int .i64 (k:Int)] 29)) (.cells #[.slice (some ⟨b7,d0,none⟩) s.length uc] 133)
  rwa [World.size_alloc,f7] at this
 have A8:Below l.heap.size l F:=btt m4 d7;have v0:Below d.heap.size d F:=btt t' d7;have l5:w.heap.size < B:=by have:=R.size;omega
 have s8:IT d F B B (B+1+1+1) (B+1+1) (B+1) N (fun u=>.cells #[.int .i64 (N:Int),.int .i64 i,.int .i64 o,.slice S cs.length C,.int .i64 an,.slice T ss.length U,.int .i64 (k:Int),.int .i64 0,.slice none 0 0,u] 35) [] F:=
  ⟨by rw[<-hB];exact v0,fun _ _ _ _ _ _ _ _=>rfl,hU.keep d7,⟨none,0,AA.nil _ _,AN d7 o1⟩,AN d7 o2⟩
 have v8:∀A a,IT d F B B (B+1+1+1) (B+1+1) (B+1) N (fun u=>.cells #[.int .i64 (N:Int),.int .i64 i,.int .i64 o,.slice S cs.length C,.int .i64 an,.slice T ss.length U,.int .i64 (k:Int),.int .i64 0,.slice none 0 0,u] 35) (List.map (LA cs s) A) a->YF (B+4) (B+4+1) b7 d0 cs.length s.length (some ⟨D,V,none⟩) c uc e' a:=fun A a h=>by
  refine⟨?_,?_,fun j hj=>?_⟩
  ·exact(box7' ((h.kx _ _ _ kX (by decide) (by decide) (by decide) (by decide)).trans kX)).2.2.2.1
  ·exact wJ ((h.kx _ _ _ kY (by decide) (by decide) (by decide) (by decide)).trans kY)
  ·obtain⟨q1,q2⟩:=f5.out j hj;obtain⟨xa,xc,hx⟩:=q2.shape;have q3:=AC i4 q1;refine⟨xa,_,xc,hx,?_⟩;rw[<-hx];exact(h.bl.cell (by show b7 < B;rw[<-hB];exact World.block_lt_of_cell? _ _ q3)).trans q3
 clear G H I J M O P o1 o2 hU;replace c8:=qH c8;replace kX:=qH kX;replace kY:=qH kY;go_wp2_with fail
 refine wpIn_wide.1 (vG (gf:=134) (lb:=#[.pointer (some ⟨B+4,0,none⟩),.pointer (some ⟨B+4+1,0,none⟩)]) rfl (enters_of Tryz.func134 (by kernel_rfl) rfl) (jK (b1:=B+4) (b2:=B+4+1) (wb:=b7) (wo:=d0) (n:=cs.length) (m:=s.length) (ca:=some ⟨D,V,none⟩) (cc:=c) (wc:=uc) (fw:=e') (by omega) (by have:=Nat.mul_le_mul_right s.length l1;omega)) (fun _=>rfl)
  (fun A a=>IT d F B B (B+1+1+1) (B+1+1) (B+1) N (fun u=>.cells #[.int .i64 (N:Int),.int .i64 i,.int .i64 o,.slice S cs.length C,.int .i64 an,.slice T ss.length U,.int .i64 (k:Int),.int .i64 0,.slice none 0 0,u] 35) (List.map (LA cs s) A) a) (fun _ _ _=>False)
  (fun A a c9 o o' hq _ h w6 ho=>h.putObj (fun _ h=>h) (by omega) w6 ho) (fun _ _ _ _ _ _ _ _ h _ _=>h) (fun a o ho h=>h.below (by rw[<-hB];exact h.bl.size) ((wB _ a).alloc (wC _) _)) v8 s8
  (fun x g4=>(((g4.setIfInBounds 47 (.int .i64 (x.1:Int))).setIfInBounds 48 (e' x.2)).setIfInBounds 9 (.int .i64 (x.1:Int))).setIfInBounds 10 (e' x.2)) ?assign ?body ?done ?stop)
 case assign=>
  intro x8 x a y9 hK;simp only[List.setIfInBounds_toArray,List.set_cons_succ,List.set_cons_zero] at hK;simp only[SS];gi_wp2;exact hK
 case body=>
  rintro x8 A x a hI ⟨r,hr⟩;obtain⟨j8,a'⟩:=nZ hr;obtain⟨c6,m',c7,⟨ea,ec,a7,X⟩,f0⟩:=hI;obtain⟨u0,u1,u2,h1,s0,s1,i0,x5,x6⟩:=f4.out x.1 j8;obtain⟨q1,q2⟩:=f5.out x.2 a';obtain⟨D7,y0,hs⟩:=i0.shape;subst hs;obtain⟨g,j7⟩:=AB (s.getD x.2 []);rw[j7] at q2;obtain⟨wa,wc,x3⟩:=q2.shape;rw[x3] at q1 q2|-;obtain⟨b8,o0⟩:=AB ((cs.getD x.1 BE).1);obtain⟨x4,n'⟩:=v9 x.1 j8;rw[o0] at h1 i0 x4 n';have n7:g∈s:=by rw[<-j7,AK a'];exact wG a'
  have B':=d'.out g n7;have x2:=VC (n6.out g n7);simp only[List.setIfInBounds_toArray,List.set_cons_succ,List.set_cons_zero]
  have d8:A.length+1<=60:=by
   have f:(A++x::r).length=cs.length * s.length:=by
    rw[hr,<-NI (cs:=cs) (ws:=s),<-bG,List.length_map]
   rw[List.length_append,List.length_cons] at f;omega
  obtain⟨L,hL⟩:=AB (List.map (LA cs s) A);have s9:L.length+1<=60:=by rw[<-hL,List.length_map];exact d8
  have l8:∀e5∈L,e5.2.2.length<=k:=fun e5 hy=>by
   rw[<-hL] at hy;obtain⟨k1,_,rfl⟩:=List.mem_map.1 hy;show(s.getD k1.2 []).length<=k
   by_cases hz:k1.2 < s.length
   ·rw[AK hz];exact Nat.le_of_eq (d'.out _ (wG hz))
   ·rw[List.getD_eq_getElem?_getD,List.getElem?_eq_none (by omega)];exact Nat.zero_le _
  have j2:BB N [] (List.map (LA cs s) (A ++ [x]))=((AQ N b8 g (BB N [] L).1 g.length).1,(BB N [] L).2 ++ [((x.1:Int),g,(AQ N b8 g (BB N [] L).1 g.length).2)]):=by
   rw[List.map_append,List.map_cons,List.map_nil,hL];show BB N [] (L ++ [((x.1:Int),(cs.getD x.1 BE).1,s.getD x.2 [])])=_;rw[o0,j7,SU]
  rw[hL] at c7 a7 X;have j5:=NB N L [] l8;have j':=NC N L [];have l9:N * (k+1)<=5 * 7:=Nat.mul_le_mul (by omega) (by omega);have x1:L.length * (N * (k+1))<=60 * (5 * 7):=Nat.mul_le_mul (by omega) l9;obtain⟨y,a9⟩:=AB ((BB N [] L).1);obtain⟨e4,a3⟩:=AB ((BB N [] L).2);rw[a9,a3] at j2;rw[a9] at c7 j5;rw[a3] at a7 X j';have B9:y.length<=2100:=by simp only[List.length_nil] at j5;omega
  have w5:(AQ N b8 g y g.length).1.length<=8000:=by
   have f:=NJ N b8 g y g.length;have t:N * (g.length+1)<=5 * 7:=Nat.mul_le_mul (by omega) (by omega);omega
  have C0:e4.length<=60:=by omega
  have m5:Below w.heap.size w d:=btt d6 R;have c3:=(c6.cell (p:=⟨w.heap.size,3,none⟩) l5).trans (HK.out d R).2.2.2.1;have ci:=(c6.cell (p:=⟨D,V+x.1 * 3,none⟩) (by show D < B;omega)).trans (AC m5 h1);have HR:=qH (And.intro (i0.keep m5) (And.intro (q2.keep i4) (And.intro a7 (And.intro X (And.intro f0 (And.intro c3 ci))))));have j3:=qH j2;clear a9 a3 hL l8 j5 x1 l9 s9 d8 h1 s0 s1 i0 x5 x6 q1 q2 a7 X f0 c3 ci j2 hr;gi_wp2;obtain⟨r1,r2,r3,r4,r5,r6,r7⟩:=HR.out;refine rJ (w0:=d) (bb:=B+1+1) (mb:=B+1) (N:=N) (xi:=b8) (xs:=e4) (vs:=y) (by rintro⟨d2,wx,h⟩;first|exact h|(obtain⟨h,_⟩:=h;cases h;done)|(obtain⟨_,h,_⟩:=h;cases h;done)) (by rw[hB];exact c6) hB c7 r1 (by omega) (fun j _=>n' j) r2 (by omega) (fun x7 _ x' _=>x2 x7 (1+x')) ⟨by omega,by omega⟩ (by omega) r6 r7 l5 (by omega) j8 r4 r5 r3 (by omega) (wC _) ?_;rintro y4 D' E0 E1 E2 E3 W2 ⟨G1,G2,-,G4,-,G6,-,G8,G9,k3⟩ - - - - - -;obtain⟨⟨s2,s3,rfl⟩,l'⟩:=G6 rfl;have h9:=G4 rfl;have l3:=G8 rfl;obtain⟨vv,kb,ko,-⟩:=id h9;obtain⟨va,vc,j6⟩:=ko.shape;subst j6;have k8:=wJ G9;have g':W2.cell? ⟨B+1+1,1,none⟩=some (.slice va (AQ N b8 g y g.length).1.length vc):=by rw[cell_of_row _ _ 1 _ _ _ kb];rfl
  have i8:IT d F B B (B+1+1+1) (B+1+1) (B+1) N (fun u=>.cells #[.int .i64 (N:Int),.int .i64 i,.int .i64 o,.slice S cs.length C,.int .i64 an,.slice T ss.length U,.int .i64 (k:Int),.int .i64 0,.slice none 0 0,u] 35) (List.map (LA cs s) (A ++ [x])) W2:=by
   refine⟨c6.trans G1,m'.trans k3,by rw[j3.out];exact h9,⟨s2,s3,?_,?_⟩,G9⟩
   ·rw[j3.out];simp only[List.length_append,List.length_cons,List.length_nil];exact l'
   ·rw[j3.out];simp only[List.length_append,List.length_cons,List.length_nil];exact l3
  replace i8:=qH i8;obtain⟨pl,d8⟩:=AB ((AQ N b8 g y g.length).1.length);rw[d8] at g' w5;have dv:decide ((8192:Int) < (pl:Int))=false:=vY (by omega);clear G4 G6 G8 r1 r2 r3 r4 r5 r6 r7 kb ko l' l3 h9 G9 k3 G1 d8;gi_wp2;exact⟨G2,i8.out⟩
 case done=>
  intro a4 e4 a hS hI hd v6;rw[hS,bG] at hI;obtain⟨c6,m',c7,⟨ea,ec,a7,X⟩,f0⟩:=hI;obtain⟨y,a9⟩:=AB ((BB N [] (DU cs s)).1);obtain⟨g6,a3⟩:∃e4,(BB N [] (DU cs s)).2=e4:=⟨_,rfl⟩;have x0:CR N cs s=(y,g6):=by rw[<-a9,<-a3];rfl
  rw[a9] at c7;rw[a3] at a7 X;obtain⟨vv,kb,ko,-⟩:=id c7;obtain⟨va,vc,j6⟩:=ko.shape;subst j6;have k8:=wJ f0;have r9:a.cell? ⟨B+1+1,0,none⟩=some (.int .i64 (N:Int)):=by rw[cell_of_row _ _ 0 _ _ _ kb];rfl
  have g':a.cell? ⟨B+1+1,1,none⟩=some (.slice va y.length vc):=by rw[cell_of_row _ _ 1 _ _ _ kb];rfl
  obtain⟨⟨z0,z1,z2,z3,z4,z5,z6⟩,z7,z8,z9⟩:=AW X;have fz:=BG X;have B3:a.drew.heap[B]? = a.heap[B]?:=rfl;clear z0 z1 z2 z3 z4 z5 z6 z9;go_wp2;go_still_tail 10,(by kernel_rfl)
  change wpList _ _ _ _ _ a.drew;go_upto_region 18 with fail
  refine dW (u7:=.int .i64 (N:Int)) (u8:=.slice va y.length vc) X ?_;intro b' h' v2 t6 s5 j0;rw[<-h'];replace h':=qH h';clear z7 z8 fz k8 r9 g';have f3:Below d.heap.size d a:=by rw[hB];exact c6
  have h7:b'.drew.heap[w.heap.size+1]? = some (.cells #[.int .i64 0,.int .i64 0,.int .i64 0,.slice none 0 0,.int .i64 0,.slice none 0 0,.int .i64 0,.int .i64 0,.slice none 0 0,.slice none 0 0] 35):=
   (j0 (w.heap.size+1) (by have:=R.size;omega)).trans (AN f3 (AN R w2.out))
  have h2:b'.drew.heap[w.heap.size+1+1]? = some (.cells #[.int .i64 0] 41):=
   (j0 (w.heap.size+1+1) (by have:=R.size;omega)).trans (AN f3 (AN R w1.out))
  have s6:b'.drew.heap[B]? = some (.cells #[.int .i64 (N:Int),.int .i64 i,.int .i64 o,.slice S cs.length C,.int .i64 an,.slice T ss.length U,.int .i64 (k:Int),.int .i64 (N:Int),.slice va y.length vc,.slice ea g6.length ec] 35):=s5;obtain⟨⟨z0,z1,z2,z3,z4,z5,z6⟩,z7,z8,z9⟩:=AW s6;obtain⟨⟨C4,C5,C7,C8,s4,C',D0⟩,D1,D2,D3⟩:=AW h7;have C6:=wJ h2;have A2:=BG h7;have A3:=BG h2;have h8:b'.heap[w.heap.size+1]? = some (.cells #[.int .i64 0,.int .i64 0,.int .i64 0,.slice none 0 0,.int .i64 0,.slice none 0 0,.int .i64 0,.int .i64 0,.slice none 0 0,.slice none 0 0] 35):=h7;have h4:b'.heap[w.heap.size+1+1]? = some (.cells #[.int .i64 0] 41):=h2;obtain⟨⟨y0,y1,y2,y3,y4,y5,y6⟩,y7,E9,E'⟩:=AW h8;have D9:=wJ h4;have A4:=BG h8;have A5:=BG h4;go_wp2;refine ME (u0:=.int .i64 (N:Int)) (u1:=.int .i64 i) (u2:=.int .i64 o) (u3:=.slice S cs.length C) (u4:=.int .i64 an) (u5:=.slice T ss.length U) (u6:=.int .i64 (k:Int)) (u7:=.int .i64 (N:Int)) (u8:=.slice va y.length vc) (u9:=.slice ea g6.length ec) h8 ?_;intro c0 t5 v3 t7 s7 n2;rw[<-t5];obtain⟨d1,d4⟩:=AF (c0.setCell ⟨w.heap.size+1+1,0,none⟩ (.int .i64 0));rw[<-d4];have A7:w.heap.size+3<=B:=by have:=R.size;omega
  have B0:B+6<=a4:=by omega
  have l6:c0.heap[w.heap.size+1+1]? = some (.cells #[.int .i64 0] 41):=(n2 _ (by omega)).trans h4;have n3:∀c9,c9 ≠ w.heap.size+1+1->d1.heap[c9]? = c0.heap[c9]?:=fun c9 hq=>by rw[d4];exact Below.heap_setCell _ ⟨w.heap.size+1+1,0,none⟩ _ c9 hq
  have m7:d1.drew.heap[a4]? = some (.deferred (some [])):=(n3 a4 (by omega)).trans ((n2 a4 (by omega)).trans ((j0 a4 (by omega)).trans v6));obtain⟨WF,d5⟩:=AF (d1.drew.putObj a4 (.deferred none))
  have v4:WF.heap[w.heap.size+1]? = some (.cells #[.int .i64 (N:Int),.int .i64 i,.int .i64 o,.slice S cs.length C,.int .i64 an,.slice T ss.length U,.int .i64 (k:Int),.int .i64 (N:Int),.slice va y.length vc,.slice ea g6.length ec] 35):=by
   rw[d5];exact(World.putObj_heap_other (by omega)).trans ((n3 _ (by omega)).trans s7)
  have v7:WF.heap[w.heap.size+1+1]? = some (.cells #[.int .i64 0] 41):=by
   rw[d5];refine(World.putObj_heap_other (by omega)).trans ?_;show d1.heap[w.heap.size+1+1]? = _;rw[d4];exact one_setCell l6
  have a':AE 35 a c0:=t6.trans t7
  have j9:AE 41 c0 WF:=by
   rw[d5];refine AE.trans ?_ (AE.putObjLo (W:=d1.drew) m7 trivial);have:=AE.setCell (p:=⟨w.heap.size+1+1,0,none⟩) l6 (.int .i64 0)
   rw[<-d4] at this;exact this.trans (fun _ _ _ _ _=>rfl)
  have t1:=((((h6.out).other (E:=35) (by decide) (by decide) (by decide) (by decide) (by decide) (AE.below f3)).other (by decide) (by decide) (by decide) (by decide) (by decide) a').other (by decide) (by decide) (by decide) (by decide) (by decide) j9).pr (by omega) w9 (YO m9) w8.out
  have t4:=((ko.other (EI.stab _) (by decide) a').other (EI.stab _) (by decide) j9).ks (by
   have f:=NB N (K:=k) (DU cs s) [] (fun e5 hy=>Nat.le_of_eq (d'.out _ (MB hy)));have t:(DU cs s).length * (N * (k+1))<=60 * (5 * 7):=Nat.mul_le_mul (by rw[NI];exact s') (Nat.mul_le_mul (by omega) (by omega));rw[a9] at f;simp only[List.length_nil] at f;omega)
  have j':=NC N (DU cs s) [];rw[a3,NI] at j'
  have t8:=((a7.other (CL.stab (by decide) (by decide) (by decide)) (by decide) a').other (CL.stab (by decide) (by decide) (by decide)) (by decide) j9).exs (by omega) (fun e5 hy=>by
   rw[<-a3] at hy;obtain⟨⟨k1,hz,e⟩,t,h3⟩:=PY N _ _ e5 hy;have A6:=d'.out _ (MB hz);exact⟨by rw[e];omega,by rw[t,e];omega,fun r hr=>by rw[h3 r hr];omega⟩)
  have v1:Below w.heap.size w WF:=by
   have f:Below w.heap.size w b':=v2 _ _ (by omega) (btt (btt d6 R) f3);have t:Below w.heap.size w c0:=v3 _ _ (by omega) f;rw[d5];refine IG (wH ?_ 1) (by omega) _;rw[d4];exact t.setCell (p:=⟨w.heap.size+1+1,0,none⟩) (by show w.heap.size<=w.heap.size+1+1;omega) _
  refine⟨by simp,.inl ⟨_,_,rfl,run_takeDeferred m7,?_⟩⟩;rw[<-d5];refine⟨_,UM rfl _ _ _ _ 0 rfl rfl v4 (wJ v7),_,rfl,?_,v1⟩;rw[x0];exact⟨_,_,_,_,_,_,_,_,rfl,t1,t4,t8⟩
 case stop=>
  intro a4 c A a h;exact h.elim
end Go.Proofs.YtcnedkkcgdkioaaGreat
