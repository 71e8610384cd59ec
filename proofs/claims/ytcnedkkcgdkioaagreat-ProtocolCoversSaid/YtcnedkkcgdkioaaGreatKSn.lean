/- Texts of this claim, put together: TM TN TO. -/
import Derived.Test.YtcnedkkcgdkioaaGreatKSm

set_option maxRecDepth 100000
set_option maxHeartbeats 12800000
namespace Go.Proofs.YtcnedkkcgdkioaaGreat
open Go.RowKit Go.ChangeMaps Go.MapKept Go.WideMaps
theorem ixOf_snoc {κ:Type} [DecidableEq κ] {l:List κ}{x:κ}(h:x ∉ l):ixOf (l ++ [x]) x=l.length:=by
 simp[ixOf,List.idxOf_append,h]
def BuV (w:World) (B bb mb:Nat) (n:Int) (vs:Jb):Prop:=
 ∃v,w.heap[bb]? = some (.cells #[.int .i64 n,v,.map (some mb)] 140)/\OwX 114 8 EI w B v vs.length vs/\IM vwV w mb vs/\vs.Nodup/\(∀x∈vs,SmV x)/\B<=bb/\B<=mb
structure KeepB (bb:Nat) (w w':World):Prop where
 cells:∀(k:Nat) (cs:Array Value) (t:TypeId),w.heap[k]? = some (.cells cs t)->t ≠ 114->k ≠ bb->w'.heap[k]? = w.heap[k]?
 lo:KeepL w w'
instance {bb:Nat} {w w':World}:CoeFun (KeepB bb w w') (fun _=>∀(k:Nat) (cs:Array Value) (t:TypeId),w.heap[k]? = some (.cells cs t)->t ≠ 114->k ≠ bb->w'.heap[k]? = w.heap[k]?):=⟨KeepB.cells⟩
theorem KeepB.trans {bb:Nat}{a b c:World}(h:KeepB bb a b) (g:KeepB bb b c):KeepB bb a c:=⟨fun k cs t hk ht hn=>by
 have h1:=h k cs t hk ht hn;rw[hk] at h1;exact(g k cs t h1 ht hn).trans (h1.trans hk.symm),h.lo.trans g.lo⟩
theorem KeepB.below {bb:Nat}{a b:World}(h:Below a.heap.size a b):KeepB bb a b:=⟨fun k _ _ hk _ _=>h.block k (Array.getElem?_eq_some_iff.1 hk).1,KeepL.below h⟩
theorem KeepB.ofX {bb:Nat}{a b:World}(h:KeepX 114 a b) (hl:KeepL a b):KeepB bb a b:=⟨fun k cs t hk ht _=>h k cs t hk ht,hl⟩
theorem KeepB.setCell {bb j:Nat}{a:World}{v:Value}{cs:Array Value}{t:TypeId}(hc:a.heap[bb]? = some (.cells cs t)):KeepB bb a (a.setCell ⟨bb,j,none⟩ v):=⟨fun k _ _ _ _ hn=>Below.heap_setCell a ⟨bb,j,none⟩ v k hn,KeepL.setCell (p:=⟨bb,j,none⟩) hc v⟩
theorem setBlkKeep {w:World}{b k:Nat}(o:Obj) (h:k ≠ b):(setBlock w b o).heap[k]? = w.heap[k]?:=by
 simp only[setBlock];rw[Array.getElem?_setIfInBounds_ne (by omega)]
theorem setBlkBelow {w0 w:World}{B b:Nat}(h:Below B w0 w) (hB:B<=b) (o:Obj):Below B w0 (setBlock w b o):=
 h.trans ⟨rfl,rfl,rfl,by simp[setBlock],fun k hk=>setBlkKeep o (by omega)⟩
theorem mapKeepL {w:World}{b:Nat}{vs:Jb}(h:IM vwV w b vs) (o:Obj):KeepL w (setBlock w b o):=⟨by simp[setBlock],fun k p hk hp=>by
 obtain⟨es,c,hb,_⟩:=h;refine(setBlkKeep o fun e=>?_).trans hk;subst e;rw[hb] at hk;injection hk with hk;subst hk;exact hp⟩
theorem mapKeepX {E:TypeId}{w:World}{b:Nat}{vs:Jb}(h:IM vwV w b vs) (o:Obj):KeepX E w (setBlock w b o):=fun k cs t hk _=>by
 obtain⟨es,c,hb,_⟩:=h;refine setBlkKeep o fun e=>?_;subst e;rw[hk] at hb;cases hb
theorem BuV.keep {w w':World}{B bb mb:Nat}{n:Int}{vs:Jb}(h:BuV w B bb mb n vs) (hb:Below w.heap.size w w'):BuV w' B bb mb n vs:=by
 obtain⟨v,h1,h2,h3,h4,h5,h6,h7⟩:=h;exact⟨v,keptO hb h1,h2.keep (EI.stab _) hb,h3.keep (hb.block _ h3.lt),h4,h5,h6,h7⟩
theorem addC {w:World}{B bb mb:Nat}{n:Int}{vs:Jb}{x:List Int}(h:BuV w B bb mb n vs) (hB:B<=w.heap.size) (hx:SmV x) (hl:vs.length<=100000) :
  Calls Tryz.prog 135 #[.pointer (some ⟨bb,0,none⟩),vwV x] w fun e w'=>e = .returned (.int .i64 (ixOf (putV vs x) x:Nat))/\BuV w' B bb mb n (putV vs x)/\KeepB bb w w'/\Below B w w'/\∀k,k < w.heap.size->k ≠ bb->k ≠ mb->(∀v,w.heap[bb]? = some (.cells #[.int .i64 n,v,.map (some mb)] 140)->v.ownBlock ≠ some k)->w'.heap[k]? = w.heap[k]?:=by
 have hmx : Tryz.prog.follows .mixedOrders=true:=by kernel_rfl
 obtain⟨a0,a1,a2,a3,a4,a5,a6,a7,rfl⟩:=eight hx.1;obtain⟨W1,hW1⟩:=exF (w.alloc (.cells #[.int .i64 a0,.int .i64 a1,.int .i64 a2,.int .i64 a3,.int .i64 a4,.int .i64 a5,.int .i64 a6,.int .i64 a7] 114));have hb1:Below w.heap.size w W1:=by rw[hW1];exact(Below.refl _ w).alloc (Nat.le_refl _) _
 have kv:W1.heap[w.heap.size]? = some (.cells #[.int .i64 a0,.int .i64 a1,.int .i64 a2,.int .i64 a3,.int .i64 a4,.int .i64 a5,.int .i64 a6,.int .i64 a7] 114):=by rw[hW1];exact heap_alloc_new _ _
 have hU:=qH (fun W (hb:Below W1.heap.size W1 W)=>(h.keep hb1).keep hb);have hKv:=qH (fun W (hb:Below W1.heap.size W1 W)=>keptO hb kv);have hB1:B<=W1.heap.size:=Nat.le_trans hB hb1.size;obtain⟨v,k0,ho,hIM,hnd,hSm,hBb,hBm⟩:=h.keep hb1;obtain⟨va,vc,hv⟩:=ho.shape;subst hv;have hlook:=qH (fun W (hb:Below W1.heap.size W1 W)=>IM.look keyX_view umView zIntV (hIM.keep (hb.block _ hIM.lt)) hnd hSm hx);have HK:=qH (fun W (hb:Below W1.heap.size W1 W)=>And.intro (box3' (keptO hb k0)) (box8' (keptO hb kv)));have hblt:bb < w.heap.size:=by obtain⟨_,h1,_⟩:=h;exact(Array.getElem?_eq_some_iff.1 h1).1
 clear h hb1 k0 ho;by_cases hin : [a0,a1,a2,a3,a4,a5,a6,a7]∈vs
 ·have hput:putV vs [a0,a1,a2,a3,a4,a5,a6,a7]=vs:=if_pos hin;rw[hput]
  have hlk:=qH (fun W (hb:Below W1.heap.size W1 W)=>by
   rcases hlook.out W hb with⟨h1,_⟩|⟨_,_,h2⟩
   ·exact absurd hin h1
   ·exact h2)
  obtain⟨q,hq⟩:=exE (ixOf vs [a0,a1,a2,a3,a4,a5,a6,a7]);simp only[vwV,List.map_cons,List.map_nil,hq] at hlk|-;have hfin:=qH (fun W (hb:Below W1.heap.size W1 W)=>And.intro (hU.out W hb) (show Below w.heap.size w W from btt (by rw[hW1];exact(Below.refl _ w).alloc (Nat.le_refl _) _) hb));clear hin hput hq hIM hnd hSm;go_enter Tryz.func135, Tryz.ntmps135
  go_wp2_with fail
  rw[<-hW1];replace hW1:=qH hW1;refine wp_region_bw hmx (by kernel_rfl) ?_
  repeat (refine WQ.step fun K hK=>?_;go_simp;first|(refine hK _ ?_;clear hK K)|(apply Exists.intro;refine⟨fun wq hC=>?_,hK _ ?_⟩;(·(first|with_reducible rfl|(obtain⟨⟨y0,y1,y2⟩,p0,p1,p2,p3,p4,p5,p6,p7⟩:=HK.out wq hC;have hlq:=hlk.out wq hC;go_simp;first|done|with_reducible rfl|with_reducible exact⟨rfl,rfl⟩)));clear hK K))
  refine WQ.nil ?_;intro w4 hb4;obtain⟨f1,f2⟩:=hfin.out w4 hb4;replace f1:=qH f1;go_wp2_with fail
  go_ret;exact⟨rfl,f1.out,KeepB.below f2,f2.mono hB,fun k hk _ _ _=>f2.block k hk⟩
 ·have hput:putV vs [a0,a1,a2,a3,a4,a5,a6,a7]=vs ++ [[a0,a1,a2,a3,a4,a5,a6,a7]]:=if_neg hin;rw[hput];have hix:ixOf (vs ++ [[a0,a1,a2,a3,a4,a5,a6,a7]]) [a0,a1,a2,a3,a4,a5,a6,a7]=vs.length:=ixOf_snoc hin;rw[hix]
  have hlk:=qH (fun W (hb:Below W1.heap.size W1 W)=>by
   rcases hlook.out W hb with⟨_,_,h2⟩|⟨h1,_⟩
   ·exact h2
   ·exact absurd h1 hin)
  simp only[vwV,List.map_cons,List.map_nil] at hlk|-;have hnd2:=putV_nodup (v:=[a0,a1,a2,a3,a4,a5,a6,a7]) hnd
  have hSm2:∀y∈putV vs [a0,a1,a2,a3,a4,a5,a6,a7],SmV y:=fun y hy=>by
   rcases putV_mem.1 hy with h1|rfl
   ·exact hSm y h1
   ·exact hx
  rw[hput] at hnd2 hSm2;have hbw:Below w.heap.size w W1:=by rw[hW1];exact(Below.refl _ w).alloc (Nat.le_refl _) _
  have hputm:=qH (fun W (hb:Below W1.heap.size W1 W)=>IM.put keyX_view umView (hIM.keep (hb.block _ hIM.lt)) hSm hx hin);simp only[vwV,List.map_cons,List.map_nil] at hputm;have hmlt:=hIM.lt;replace hnd2:=qH hnd2;replace hSm2:=qH hSm2;replace hIM:=qH hIM;have hl9:(vs.length:Int)<=100000:=by omega
  clear hput hnd hSm hix hin hlook;go_enter Tryz.func135, Tryz.ntmps135
  go_wp2_with fail
  rw[<-hW1];replace hW1:=qH hW1;refine wp_region_bw hmx (by kernel_rfl) ?_
  repeat (refine WQ.step fun K hK=>?_;go_simp;first|(refine hK _ ?_;clear hK K)|(apply Exists.intro;refine⟨fun wq hC=>?_,hK _ ?_⟩;(·(first|with_reducible rfl|(obtain⟨⟨y0,y1,y2⟩,p0,p1,p2,p3,p4,p5,p6,p7⟩:=HK.out wq hC;have hlq:=hlk.out wq hC;go_simp;first|done|with_reducible rfl|with_reducible exact⟨rfl,rfl⟩)));clear hK K))
  refine WQ.nil ?_;intro w4 hb4;obtain⟨⟨y0,y1,y2⟩,p0,p1,p2,p3,p4,p5,p6,p7⟩:=HK.out w4 hb4;go_wp2_with fail
  refine wp_region_qtail 6 hmx (by kernel_rfl) (by kernel_rfl) ?_ ?_
  ·rintro⟨a,wx,h⟩
   first
    | exact h
    | (obtain⟨_,h,_⟩:=h;cases h;done)
    | (obtain⟨_,_,h,_⟩:=h;cases h;done)
    | (obtain⟨h,_⟩:=h;cases h;done)
  ·intro ops';simp only[List.take_succ_cons,List.take_zero,List.drop_succ_cons,List.drop_zero]
   repeat (quiet_step (fail))
   refine wpQuiet_nil ?_;intro d;have hbd:Below W1.heap.size W1 (w4.drewN d):=below_drewN hb4 d;obtain⟨ob,hp,hI5⟩:=hputm.out _ hbd;obtain⟨v5,k5,o5,_,_,_,_,_⟩:=hU.out _ hbd;have kv5:=hKv.out _ hbd;obtain⟨W5,hW5⟩:=exF (setBlock (w4.drewN d) mb ob);have him5:=hIM.out.keep (w':=w4.drewN d) (hbd.block _ hmlt);have hX5:∀E,KeepX E (w4.drewN d) W5:=fun E=>by rw[hW5];exact mapKeepX him5 ob
   have kb5:=(hX5 114 bb _ _ k5 (by decide)).trans k5;have kw5:=(hX5 140 w.heap.size _ _ kv5 (by decide)).trans kv5;have or5:=o5.other (E':=140) (EI.stab _) (by decide) (hX5 _);have hsz5:W5.heap.size=(w4.drewN d).heap.size:=(by rw[hW5];simp[setBlock]);have hB5:Below B w W5:=(by rw[hW5];exact setBlkBelow ((btt hbw hbd).mono hB) hBm ob);have hK5:KeepB bb w W5:=(KeepB.below (btt hbw hbd)).trans (KeepB.ofX (hX5 _) (by rw[hW5];exact mapKeepL him5 ob));rw[<-hW5] at hp hI5;have hml5:mb < W5.heap.size:=hI5.lt
   have hne5:∀g,v5.ownBlock=some g->g ≠ mb:=fun g hg e=>by
    obtain⟨ws,h1,_⟩:=or5;obtain⟨cs,hc⟩:=ownsRow_ty h1 g hg;obtain⟨es,c,hm,_⟩:=hI5;rw[e] at hc;rw[hc] at hm;cases hm
   have hBs:B<=W5.heap.size:=Nat.le_trans hB hB5.size;have or5h:=qH or5;replace hX5:=qH hX5;replace hI5:=qH hI5;replace hW5:=qH hW5;clear y0 y1 y2 p0 p1 p2 p3 p4 p5 p6 p7;go_wp2_with fail
   go_upto_region 5 with fail
   refine regAdd5 kb5 kw5 or5 (by omega) hBs ?_;rintro y6 v6 y10 W7 ⟨-,-,-,G4⟩ - - -;obtain⟨W6,⟨hO6,hb6,hx6,hi6⟩,hW7⟩:=G4 rfl;clear G4;have kb6:=(hx6 bb _ _ kb5 (by decide)).trans kb5;have kb7:W7.heap[bb]? = some (.cells #[.int .i64 n,v6,.map (some mb)] 140):=(by rw[hW7];exact heap_setCell_same W6 bb 1 _ _ v6 kb6);have hx7:KeepX 140 W6 W7:=(by rw[hW7];exact KeepX.setCell (p:=⟨bb,1,none⟩) kb6 v6);have hO7:=hO6.other (E':=140) (EI.stab _) (by decide) hx7
   have hI7:IM vwV W7 mb (vs ++ [[a0,a1,a2,a3,a4,a5,a6,a7]]):=hI5.out.keep (by
    rw[hW7];refine(Below.heap_setCell W6 ⟨bb,1,none⟩ v6 mb fun e=>?_).trans (hi6 mb hml5 fun e=>hne5 mb e rfl);have e:mb=bb:=e;obtain⟨es,c,hm,_⟩:=hI5.out;rw[e,kb5] at hm;cases hm)
   have hBB:Below B w W7:=by rw[hW7];exact Below.setCell (p:=⟨bb,1,none⟩) (hB5.trans hb6) hBb _
   have hKK:KeepB bb w W7:=by
    rw[hW7];refine(hK5.trans (KeepB.ofX hx6 ⟨hb6.size,fun k p hk hp=>?_⟩)).trans (KeepB.setCell kb6);refine(hi6 k (Array.getElem?_eq_some_iff.1 hk).1 fun e=>?_).trans hk;obtain⟨ws,h1,_⟩:=or5h.out;obtain⟨cs,hc⟩:=ownsRow_ty h1 k e;rw[hk] at hc;injection hc with hc;subst hc;exact hp
   have hUU:BuV W7 B bb mb n (vs ++ [[a0,a1,a2,a3,a4,a5,a6,a7]]):=⟨v6,kb7,by rw[List.length_append];exact hO7,hI7,hnd2.out,hSm2.out,hBb,hBm⟩
   have hFr:∀k,k < w.heap.size->k ≠ bb->k ≠ mb->(∀v,w.heap[bb]? = some (.cells #[.int .i64 n,v,.map (some mb)] 140)->v.ownBlock ≠ some k)->W7.heap[k]? = w.heap[k]?:=fun k hk h1 h2 h3=>by
    have e1:(w4.drewN d).heap[bb]? = w.heap[bb]?:=(btt hbw hbd).block bb hblt;have e2:=h3 v5 (e1.symm.trans k5);have e3:W5.heap[k]? = w.heap[k]?:=(by rw[hW5.out];exact(setBlkKeep ob h2).trans ((btt hbw hbd).block k hk));rw[hW7];exact(Below.heap_setCell W6 ⟨bb,1,none⟩ v6 k h1).trans ((hi6 k (Nat.lt_of_lt_of_le hk hB5.size) e2).trans e3)
   replace hFr:=qH hFr;replace hUU:=qH hUU;replace hKK:=qH hKK;clear hx7 hx6 hO7 hO6 hI7 hX5 hW7 kb6 kb7;go_wp2_with fail
   go_ret;exact⟨rfl,hUU.out,hKK.out,hBB,hFr.out⟩
end Go.Proofs.YtcnedkkcgdkioaaGreat
namespace Go.Proofs.YtcnedkkcgdkioaaGreat
open Go.RowKit
theorem eqVw (d:Nat) (p k x a b c e f p' k' x' a' b' c' e' f':Int) (w:World):(Op.equalIn (d+3) 114 (.agg #[.int .i64 p,.int .i64 k,.int .i64 x,.int .i64 a,.int .i64 b,.int .i64 c,.int .i64 e,.int .i64 f]) (.agg #[.int .i64 p',.int .i64 k',.int .i64 x',.int .i64 a',.int .i64 b',.int .i64 c',.int .i64 e',.int .i64 f'])).run Tryz.prog w = .ok (eqL [p,k,x,a,b,c,e,f] [p',k',x',a',b',c',e',f']) w:=by
 have u3:=Tryz.underlying3;have a3:=Tryz.isAgg3;have z3:=Tryz.sizeOf3;have a5:=Tryz.isAgg112;have z5:=Tryz.sizeOf112;have hS : Tryz.prog.underlying 114=some (.struct (Tryz.prog.fieldsOf 114)):=by kernel_rfl
 have hp : Tryz.prog.stoodInHeld 114=false:=by kernel_rfl
 have hA:=eqArr d a b c e f a' b' c' e' f';rw[show d+3=(d+2)+1 from rfl,run_equalIn_agg w (d+2) 114 _ _ hS hp];simp only[Program.fieldsOf,Tryz.underlying114];go_simp;by_cases h0:p=p'<;>by_cases h1:k=k'<;>by_cases h2:x=x'<;>by_cases h3 : [a,b,c,e,f] = [a',b',c',e',f']<;>simp_all [eqL]
@[go_sem high] theorem eqVw' (p k x a b c e f p' k' x' a' b' c' e' f':Int) (w:World):(Op.equalIn 10000 114 (.agg #[.int .i64 p,.int .i64 k,.int .i64 x,.int .i64 a,.int .i64 b,.int .i64 c,.int .i64 e,.int .i64 f]) (.agg #[.int .i64 p',.int .i64 k',.int .i64 x',.int .i64 a',.int .i64 b',.int .i64 c',.int .i64 e',.int .i64 f'])).run Tryz.prog w = .ok (eqL [p,k,x,a,b,c,e,f] [p',k',x',a',b',c',e',f']) w:=eqVw 9997 p k x a b c e f p' k' x' a' b' c' e' f' w
theorem ixOf_first {vs:Jb}{i:Nat}{x:List Int}(h:i < vs.length) (hn:x ∉ vs.take i) (hx:vs.getD i []=x):ixOf vs x=i:=by
 have h1:vs=vs.take i++(x::vs.drop (i+1)):=by
  conv=>lhs;rw[<-List.take_append_drop i vs]
  rw[drop_consD h hx]
 rw[h1];simp[ixOf,List.idxOf_append,hn]
 omega
theorem KS.at8 {w:World}{a:Option Addr}{c:Nat}{l:Jb}(h:KS 8 w (.slice a l.length c) l) (h0:0 < l.length):∃b off,a=some ⟨b,off,none⟩/\CK 8 w b off l:=by
 obtain⟨a',c',b,off,hv,ha,hc,_⟩:=h;injection hv with e1 _ _;exact⟨b,off,e1.trans (ha h0),hc⟩
theorem refIndexV {w:World}{tn:Int}{va:Option Addr}{vc:Nat}{vs:Jb}{x:List Int}(hV:KS 8 w (.slice va vs.length vc) vs) (hx:x.length=8) :
  Calls Tryz.prog 216 #[.agg #[.int .i64 tn,.slice va vs.length vc],vwV x] w fun e w'=>e = .returned (.int .i64 (if x∈vs then (ixOf vs x:Int) else -1))/\Below w.heap.size w w':=by
 obtain⟨x0,x1,x2,x3,x4,x5,x6,x7,rfl⟩:=eight hx;obtain⟨W1,hW1⟩:=exF ((w.alloc (.cells #[.int .i64 tn,.slice va vs.length vc] 32)).alloc (.cells #[.int .i64 x0,.int .i64 x1,.int .i64 x2,.int .i64 x3,.int .i64 x4,.int .i64 x5,.int .i64 x6,.int .i64 x7] 114));have hb1:Below w.heap.size w W1:=by rw[hW1];exact((Below.refl _ w).alloc (Nat.le_refl _) _).alloc (by simp) _
 have kT:W1.heap[w.heap.size]? = some (.cells #[.int .i64 tn,.slice va vs.length vc] 32):=by rw[hW1];exact(Below.heap_alloc _ _ _ (by simp)).trans (World.alloc_heap_new w _)
 have kX:W1.heap[w.heap.size+1]? = some (.cells #[.int .i64 x0,.int .i64 x1,.int .i64 x2,.int .i64 x3,.int .i64 x4,.int .i64 x5,.int .i64 x6,.int .i64 x7] 114):=by
  rw[hW1];have:=World.alloc_heap_new (w.alloc (.cells #[.int .i64 tn,.slice va vs.length vc] 32)) (.cells #[.int .i64 x0,.int .i64 x1,.int .i64 x2,.int .i64 x3,.int .i64 x4,.int .i64 x5,.int .i64 x6,.int .i64 x7] 114)
  rwa [World.size_alloc] at this
 obtain⟨g0,g1⟩:=box2 kT;obtain⟨p0,p1,p2,p3,p4,p5,p6,p7⟩:=box8' kX;have hV1:=qH (hV.keep hb1);have hVl:vs.length<=2199023255552:=by obtain⟨_,_,_,_,_,_,_,h⟩:=hV;exact h
 have h0:Hid ([x0,x1,x2,x3,x4,x5,x6,x7] ∉ vs.take 0):=by show ¬_;simp
 obtain⟨E,hE0⟩:=exE ((if [x0,x1,x2,x3,x4,x5,x6,x7]∈vs then (ixOf vs [x0,x1,x2,x3,x4,x5,x6,x7]:Int) else -1));rw[hE0];replace hE0:=qH hE0;simp only[vwV,List.map_cons,List.map_nil];clear hx kT kX hV;go_enter Tryz.func216, Tryz.ntmps216
 go_wp2_with fail
 rw[<-hW1];replace hW1:=qH hW1;go_loopw [5] (fun iv wr=>∃i:Nat,iv = .int .i64 i/\i<=vs.length/\Hid ([x0,x1,x2,x3,x4,x5,x6,x7] ∉ vs.take i)/\Qt W1 wr) (fun iv _=>vs.length - (intOf iv).toNat)
 case atStart=>exact⟨0,rfl,by omega,h0,Qt.refl W1⟩
 case round=>
  clear h0;obtain⟨i,rfl,hi,hno,n,rfl⟩:=hrel;have hbq:Below w.heap.size w (W1.drewN n):=below_drewN hb1 n;by_cases hlt:i < vs.length
  ·obtain⟨b,off,rfl,hc⟩:=hV1.out.at8 (by omega);obtain⟨hy8,hyc⟩:=hc i hlt;obtain⟨y,hy⟩:=exE (vs.getD i []);rw[hy] at hy8 hyc;obtain⟨y0,y1,y2,y3,y4,y5,y6,y7,rfl⟩:=eight hy8;obtain⟨c0,c1,c2,c3,c4,c5,c6,c7⟩:=hyc.all8;have hmem : [y0,y1,y2,y3,y4,y5,y6,y7]∈vs:=(by rw[<-hy,getD_eq hlt];exact List.getElem_mem hlt);have htk:vs.take (i+1)=vs.take i ++ [[y0,y1,y2,y3,y4,y5,y6,y7]]:=(by rw[take_snoc hlt [],hy]);clear hc hyc hy8;by_cases he : [y0,y1,y2,y3,y4,y5,y6,y7] = [x0,x1,x2,x3,x4,x5,x6,x7]
   ·have hE:eqL [y0,y1,y2,y3,y4,y5,y6,y7] [x0,x1,x2,x3,x4,x5,x6,x7]=true:=eqL_true.2 he
    have hres:Hid ((i:Int)=E):=by
     show _=_;rw[<-hE0.out,if_pos (by rw[<-he];exact hmem),ixOf_first hlt hno.out (hy.trans he)]
    clear he hno hmem htk hy;go_wp2_with fail
    go_quiet (fail)
    go_wp2_with fail
    go_ret;exact⟨ret_int hres.out,by first|exact below_drewN hbq _|exact hbq⟩
   ·have hE:eqL [y0,y1,y2,y3,y4,y5,y6,y7] [x0,x1,x2,x3,x4,x5,x6,x7]=false:=eqL_false.2 he
    have hnx:Hid ([x0,x1,x2,x3,x4,x5,x6,x7] ∉ vs.take (i+1)):=by
     show ¬_;rw[htk,List.mem_append,List.mem_singleton];exact fun h=>h.elim hno.out fun h=>he h.symm
    clear he hno hmem htk hy;go_wp2_with fail
    go_quiet (fail)
    go_wp2_with fail
    go_roundw
    case rel=>exact⟨i+1,by go_num,hlt,hnx,by first|exact(Qt.mk' W1 n).step nq|exact Qt.mk' W1 _⟩
    case measure=>simp[intOf];omega
  ·have hres:Hid ((-1:Int)=E):=by
    show _=_;have:=hno.out
    rw[List.take_of_length_le (by omega)] at this;rw[<-hE0.out,if_neg this]
   clear hno;go_wp2_with fail
   go_ret;exact⟨ret_int hres.out,hbq⟩
def fstA (p x:Int) (k:Nat):Array Value:=
 match k with
 | 0=>#[.int .i64 p,.int .i64 0,.int .i64 x,.int .i64 0,.int .i64 0,.int .i64 0,.int .i64 0,.int .i64 0]
 | 1=>#[.int .i64 p,.int .i64 0,.int .i64 x,.int .i64 (-1),.int .i64 0,.int .i64 0,.int .i64 0,.int .i64 0]
 | 2=>#[.int .i64 p,.int .i64 0,.int .i64 x,.int .i64 (-1),.int .i64 (-1),.int .i64 0,.int .i64 0,.int .i64 0]
 | 3=>#[.int .i64 p,.int .i64 0,.int .i64 x,.int .i64 (-1),.int .i64 (-1),.int .i64 (-1),.int .i64 0,.int .i64 0]
 | 4=>#[.int .i64 p,.int .i64 0,.int .i64 x,.int .i64 (-1),.int .i64 (-1),.int .i64 (-1),.int .i64 (-1),.int .i64 0]
 | _=>#[.int .i64 p,.int .i64 0,.int .i64 x,.int .i64 (-1),.int .i64 (-1),.int .i64 (-1),.int .i64 (-1),.int .i64 (-1)]
theorem fstA_set {p x:Int}{k:Nat}(h:k < 5):(fstA p x k).setIfInBounds (3+k) (.int .i64 (-1))=fstA p x (k+1):=by
 rcases(show k=0\/k=1\/k=2\/k=3\/k=4 by omega) with rfl|rfl|rfl|rfl|rfl<;>rfl
theorem fstA_at {p x:Int}{W:World}{b:Nat}{t:TypeId}{k:Nat}(h:k < 5) (hb:W.heap[b]? = some (.cells (fstA p x k) t)):∃v,W.cell? ⟨b,3+k,none⟩=some v:=by
 rcases(show k=0\/k=1\/k=2\/k=3\/k=4 by omega) with rfl|rfl|rfl|rfl|rfl
 all_goals exact⟨_,by rw[cell_of_row _ _ _ _ _ _ hb];rfl⟩
theorem viewKeep {w wr:World}{b0 b1 k:Nat}{v:Value}{c0 c1:Array Value}{t:TypeId}(h0:wr.heap[b0]? = some (.cells c0 t)) (h1:wr.heap[b1]? = some (.cells c1 t)) (hne:b0 ≠ b1) (hB:w.heap.size<=b1) (hb:Below w.heap.size w wr) :
  (wr.setCell ⟨b1,k,none⟩ v).heap[b0]? = some (.cells c0 t)/\(wr.setCell ⟨b1,k,none⟩ v).heap[b1]? = some (.cells (c1.setIfInBounds k v) t)/\Below w.heap.size w (wr.setCell ⟨b1,k,none⟩ v):=silKeep h0 h1 hne hB hb
def fstV (p x:Int):List Int:=[p,0,x,-1,-1,-1,-1,-1]
theorem refFirst (w:World) (p x:Int):Calls Tryz.prog 186 #[.int .i64 p,.int .i64 x] w fun e w'=>e = .returned (vwV (fstV p x))/\Below w.heap.size w w':=by
 obtain⟨W1,hW1⟩:=exF ((w.alloc (.cells #[.int .i64 0,.int .i64 0,.int .i64 0,.int .i64 0,.int .i64 0,.int .i64 0,.int .i64 0,.int .i64 0] 114)).alloc (.cells #[.int .i64 p,.int .i64 0,.int .i64 x,.int .i64 0,.int .i64 0,.int .i64 0,.int .i64 0,.int .i64 0] 114));have hb1:Below w.heap.size w W1:=by rw[hW1];exact((Below.refl _ w).alloc (Nat.le_refl _) _).alloc (by simp) _
 have k0:W1.heap[w.heap.size]? = some (.cells #[.int .i64 0,.int .i64 0,.int .i64 0,.int .i64 0,.int .i64 0,.int .i64 0,.int .i64 0,.int .i64 0] 114):=by rw[hW1];exact(Below.heap_alloc _ _ _ (by simp)).trans (World.alloc_heap_new w _)
 have k1:W1.heap[w.heap.size+1]? = some (.cells #[.int .i64 p,.int .i64 0,.int .i64 x,.int .i64 0,.int .i64 0,.int .i64 0,.int .i64 0,.int .i64 0] 114):=by
  rw[hW1];have:=World.alloc_heap_new (w.alloc (.cells #[.int .i64 0,.int .i64 0,.int .i64 0,.int .i64 0,.int .i64 0,.int .i64 0,.int .i64 0,.int .i64 0] 114)) (.cells #[.int .i64 p,.int .i64 0,.int .i64 x,.int .i64 0,.int .i64 0,.int .i64 0,.int .i64 0,.int .i64 0] 114)
  rwa [World.size_alloc] at this
 go_enter Tryz.func186, Tryz.ntmps186
 go_wp2_with fail
 rw[<-hW1];replace hW1:=qH hW1;go_loopw [6] (fun iv wr=>∃k:Nat,iv = .int .i64 k/\k<=5/\wr.heap[w.heap.size]? = some (.cells #[.int .i64 0,.int .i64 0,.int .i64 0,.int .i64 0,.int .i64 0,.int .i64 0,.int .i64 0,.int .i64 0] 114)/\wr.heap[w.heap.size+1]? = some (.cells (fstA p x k) 114)/\Below w.heap.size w wr) (fun iv _=>5 - (intOf iv).toNat)
 case atStart=>exact⟨0,rfl,by omega,k0,k1,hb1⟩
 case round=>
  clear k0 k1 hb1;obtain⟨k,rfl,hk,h0,h1,hbr⟩:=hrel;by_cases hlt:k < 5
  ·have hki:(k:Int) < 5:=(by omega);have hk0:(0:Int)<=(k:Int):=Int.natCast_nonneg _;obtain⟨s0,s1,s2⟩:=viewKeep (k:=3+k) (v:=.int .i64 (-1)) h0 h1 (by omega) (by omega) hbr;rw[fstA_set hlt] at s1;obtain⟨v9,c9⟩:=fstA_at hlt h1;have fz:=row_free h1;replace s0:=qH s0;replace s1:=qH s1;replace s2:=qH s2;clear h0 h1 hbr;go_wp2_with fail
   go_roundw
   case rel=>exact⟨k+1,by go_num,hlt,s0.out,s1.out,s2.out⟩
   case measure=>simp[intOf];omega
  ·obtain rfl:k=5:=(by omega);have h1':wr.heap[w.heap.size+1]? = some (.cells #[.int .i64 p,.int .i64 0,.int .i64 x,.int .i64 (-1),.int .i64 (-1),.int .i64 (-1),.int .i64 (-1),.int .i64 (-1)] 114):=h1;obtain⟨p0,p1,p2,p3,p4,p5,p6,p7⟩:=box8' h1';obtain⟨q0,q1,q2,q3,q4,q5,q6,q7⟩:=box8' h0;have fz:=row_free h0;have t0:=heap_setCell_same wr w.heap.size 0 _ _ (.int .i64 p) h0;have t1:=heap_setCell_same _ w.heap.size 1 _ _ (.int .i64 0) t0;have t2:=heap_setCell_same _ w.heap.size 2 _ _ (.int .i64 x) t1;have t3:=heap_setCell_same _ w.heap.size 3 _ _ (.int .i64 (-1)) t2;have t4:=heap_setCell_same _ w.heap.size 4 _ _ (.int .i64 (-1)) t3;have t5:=heap_setCell_same _ w.heap.size 5 _ _ (.int .i64 (-1)) t4;have t6:=heap_setCell_same _ w.heap.size 6 _ _ (.int .i64 (-1)) t5;have t7:=heap_setCell_same _ w.heap.size 7 _ _ (.int .i64 (-1)) t6;have hbe:=(Below.setCell (p:=⟨w.heap.size,7,none⟩) (Below.setCell (p:=⟨w.heap.size,6,none⟩) (Below.setCell (p:=⟨w.heap.size,5,none⟩) (Below.setCell (p:=⟨w.heap.size,4,none⟩) (Below.setCell (p:=⟨w.heap.size,3,none⟩) (Below.setCell (p:=⟨w.heap.size,2,none⟩) (Below.setCell (p:=⟨w.heap.size,1,none⟩) (Below.setCell (p:=⟨w.heap.size,0,none⟩) hbr (Nat.le_refl _) (.int .i64 p)) (Nat.le_refl _) (.int .i64 0)) (Nat.le_refl _) (.int .i64 x)) (Nat.le_refl _) (.int .i64 (-1))) (Nat.le_refl _) (.int .i64 (-1))) (Nat.le_refl _) (.int .i64 (-1))) (Nat.le_refl _) (.int .i64 (-1))) (Nat.le_refl _) (.int .i64 (-1)));obtain⟨W9,hW9⟩:=exF (((((((((wr.setCell ⟨w.heap.size,0,none⟩ (.int .i64 p)).setCell ⟨w.heap.size,1,none⟩ (.int .i64 0)).setCell ⟨w.heap.size,2,none⟩ (.int .i64 x)).setCell ⟨w.heap.size,3,none⟩ (.int .i64 (-1))).setCell ⟨w.heap.size,4,none⟩ (.int .i64 (-1))).setCell ⟨w.heap.size,5,none⟩ (.int .i64 (-1))).setCell ⟨w.heap.size,6,none⟩ (.int .i64 (-1))).setCell ⟨w.heap.size,7,none⟩ (.int .i64 (-1))));rw[<-hW9] at t7 hbe;replace t7:W9.heap[w.heap.size]? = some (.cells #[.int .i64 p,.int .i64 0,.int .i64 x,.int .i64 (-1),.int .i64 (-1),.int .i64 (-1),.int .i64 (-1),.int .i64 (-1)] 114):=t7;obtain⟨z0,z1,z2,z3,z4,z5,z6,z7⟩:=box8' t7;replace hbe:=qH hbe;replace hW9:=qH hW9;clear h0 h1 h1' t0 t1 t2 t3 t4 t5 t6 t7 hbr;go_wp2;rw[<-hW9.out];refine bodyPost_ret (v:=.agg #[.int .i64 p,.int .i64 0,.int .i64 x,.int .i64 (-1),.int .i64 (-1),.int .i64 (-1),.int .i64 (-1),.int .i64 (-1)]) (by simp[results,Tryz.results186,go_sem,z0,z1,z2,z3,z4,z5,z6,z7]) rfl ?_;exact⟨rfl,hbe.out⟩
theorem elemIn:ElemK Tryz.prog 48 3 (.int .i64 0) 1 8:=⟨by kernel_rfl,by kernel_rfl,rfl⟩
theorem elemMs:ElemK Tryz.prog 25 180 (.slice none 0 0) 1 24:=⟨by kernel_rfl,by kernel_rfl,rfl⟩
theorem elemCa:ElemK Tryz.prog 22 95 (.agg #[.slice none 0 0,.slice none 0 0,.slice none 0 0]) 3 72:=⟨by kernel_rfl,by kernel_rfl,rfl⟩
theorem elemVv:ElemK Tryz.prog 78 48 (.slice none 0 0) 1 24:=⟨by kernel_rfl,by kernel_rfl,rfl⟩
theorem cloneIn {w:World}(ad:Addr) (n c:Nat) (news:List Value) (hl:news.length=n * 1) (hn:n<=1000000) (hc:∀j u,news[j]? = some u->w.cell? (ad.add j)=some u) (h1:∀u∈news,u.oneCell'=true) :
  Calls Tryz.prog 130 #[.slice (some ad) n c] w fun e w'=>∃v',e = .returned v'/\w'.ownsRow w.heap.size 3 1 v' n news/\Below w.heap.size w w':=by
 have q22:=fun(w:World)=>Lib.run_eql_slice_nil (P:=Tryz.prog) w 48 3 (some ad) n c 0 0 elemIn.1;obtain⟨i0,hi,hz0,hz1,hz2⟩:=info_parts elemIn.2.1;have A:Hid (∀j u,news[j]? = some u->w.cell? (ad.add j)=some u):=hc;clear hc;have hn':n * 8<=140737488355328:=by omega
 go_enter Tryz.func130, Tryz.ntmps130
 go_wp2_with (at_builtin;refine wpList_append_own _ rfl _ _ 48 rfl w.heap.size 3 i0 _ 1 8 elemIn.1 hi hz0 hz1 hz2 elemIn.2.2 (by decide) _ _ _ rfl (World.ownsRow_made w #[] 0 (Nat.le_refl _) (Nat.zero_le _) (by simp)) ad n c news rfl ?qc1 ?qc2 ?qc3 ?qc4 ?qc5 ?qc6 ?_)
 case qc1=>exact hl
 case qc2=>
  intro j u hj;exact Lib.cell?_alloc_some _ (A.out j u hj)
 case qc3=>exact h1
 case qc4=>unfold maxLen;omega
 case qc5=>rw[Nat.zero_add];exact hn'
 case qc6=>simp
 intro v' w1 hown hgrow hnil;go_wp2;go_ret;refine⟨v',rfl,by simpa using hown,?_⟩;exact((Below.refl _ w).alloc (Nat.le_refl _) _).grown hgrow (by simp) (by intro k hk;simp[Value.ownBlock] at hk;omega)
theorem cloneInNil {w:World}(n c:Nat):Calls Tryz.prog 130 #[.slice none n c] w fun e w'=>e = .returned (.slice none 0 0)/\w'=w:=by
 have q22:=fun(w:World)=>Lib.run_eql_slice_nil (P:=Tryz.prog) w 48 3 none n c 0 0 elemIn.1;go_enter Tryz.func130, Tryz.ntmps130
 go_wp2;go_ret;exact⟨rfl,rfl⟩
theorem cloneMs {w:World}(ad:Addr) (n c:Nat) (news:List Value) (hl:news.length=n * 1) (hn:n<=1000000) (hc:∀j u,news[j]? = some u->w.cell? (ad.add j)=some u) (h1:∀u∈news,u.oneCell'=true) :
  Calls Tryz.prog 132 #[.slice (some ad) n c] w fun e w'=>∃v',e = .returned v'/\w'.ownsRow w.heap.size 180 1 v' n news/\Below w.heap.size w w':=by
 have q22:=fun(w:World)=>Lib.run_eql_slice_nil (P:=Tryz.prog) w 25 180 (some ad) n c 0 0 elemMs.1;obtain⟨i0,hi,hz0,hz1,hz2⟩:=info_parts elemMs.2.1;have A:Hid (∀j u,news[j]? = some u->w.cell? (ad.add j)=some u):=hc;clear hc;have hn':n * 24<=140737488355328:=by omega
 go_enter Tryz.func132, Tryz.ntmps132
 go_wp2_with (at_builtin;refine wpList_append_own _ rfl _ _ 25 rfl w.heap.size 180 i0 _ 1 24 elemMs.1 hi hz0 hz1 hz2 elemMs.2.2 (by decide) _ _ _ rfl (World.ownsRow_made w #[] 0 (Nat.le_refl _) (Nat.zero_le _) (by simp)) ad n c news rfl ?qc1 ?qc2 ?qc3 ?qc4 ?qc5 ?qc6 ?_)
 case qc1=>exact hl
 case qc2=>
  intro j u hj;exact Lib.cell?_alloc_some _ (A.out j u hj)
 case qc3=>exact h1
 case qc4=>unfold maxLen;omega
 case qc5=>rw[Nat.zero_add];exact hn'
 case qc6=>simp
 intro v' w1 hown hgrow hnil;go_wp2;go_ret;refine⟨v',rfl,by simpa using hown,?_⟩;exact((Below.refl _ w).alloc (Nat.le_refl _) _).grown hgrow (by simp) (by intro k hk;simp[Value.ownBlock] at hk;omega)
theorem cloneCa {w:World}(ad:Addr) (n c:Nat) (news:List Value) (hl:news.length=n * 3) (hn:n<=1000000) (hc:∀j u,news[j]? = some u->w.cell? (ad.add j)=some u) (h1:∀u∈news,u.oneCell'=true) :
  Calls Tryz.prog 129 #[.slice (some ad) n c] w fun e w'=>∃v',e = .returned v'/\w'.ownsRow w.heap.size 95 3 v' n news/\Below w.heap.size w w':=by
 have q22:=fun(w:World)=>Lib.run_eql_slice_nil (P:=Tryz.prog) w 22 95 (some ad) n c 0 0 elemCa.1;obtain⟨i0,hi,hz0,hz1,hz2⟩:=info_parts elemCa.2.1;have A:Hid (∀j u,news[j]? = some u->w.cell? (ad.add j)=some u):=hc;clear hc;have hn':n * 72<=140737488355328:=by omega
 go_enter Tryz.func129, Tryz.ntmps129
 go_wp2_with (at_builtin;refine wpList_append_own _ rfl _ _ 22 rfl w.heap.size 95 i0 _ 3 72 elemCa.1 hi hz0 hz1 hz2 elemCa.2.2 (by decide) _ _ _ rfl (World.ownsRow_made w #[] 0 (Nat.le_refl _) (Nat.zero_le _) (by simp)) ad n c news rfl ?qc1 ?qc2 ?qc3 ?qc4 ?qc5 ?qc6 ?_)
 case qc1=>exact hl
 case qc2=>
  intro j u hj;exact Lib.cell?_alloc_some _ (A.out j u hj)
 case qc3=>exact h1
 case qc4=>unfold maxLen;omega
 case qc5=>rw[Nat.zero_add];exact hn'
 case qc6=>simp
 intro v' w1 hown hgrow hnil;go_wp2;go_ret;refine⟨v',rfl,by simpa using hown,?_⟩;exact((Below.refl _ w).alloc (Nat.le_refl _) _).grown hgrow (by simp) (by intro k hk;simp[Value.ownBlock] at hk;omega)
theorem cloneInK {w:World}{v:Value}{xs:List Int}(h:Ints w v xs) (hn:xs.length<=1000000) :
  Calls Tryz.prog 130 #[v] w fun e w'=>∃u,e = .returned u/\OI w' w.heap.size u xs.length xs/\Below w.heap.size w w':=by
 obtain⟨a,c,b,off,rfl,ha,hc,_⟩:=h;cases a with
 | none=>
  have h0:xs.length=0:=by
   rcases Nat.eq_zero_or_pos xs.length with h'|h'
   ·exact h'
   ·cases ha h'
  obtain rfl:=List.length_eq_zero_iff.1 h0;refine(cloneInNil 0 c).mono ?_;rintro e w' ⟨rfl,rfl⟩;exact⟨_,rfl,OI.nil _ _,Below.refl _ _⟩
 | some ad=>
  refine(cloneIn ad xs.length c (xs.map (Value.int .i64)) (by rw[List.length_map,Nat.mul_one]) hn ?_ ?_).mono ?_
  ·intro j u hj;rw[List.getElem?_map] at hj
   have hjl:j < xs.length:=by
    rcases Nat.lt_or_ge j xs.length with h'|h'
    ·exact h'
    ·rw[List.getElem?_eq_none h'] at hj;cases hj
   have:=ha (by omega)
   injection this with this;subst this;rw[Addr.add_lit,hc j hjl,<-hj,List.getElem?_eq_getElem hjl,getD_eq hjl];rfl
  ·intro u hu;obtain⟨i,_,rfl⟩:=List.mem_map.1 hu;rfl
  ·rintro e w' ⟨u,rfl,h1,h2⟩;exact⟨u,rfl,h1,h2⟩
def EVi (w:World) (cs:List Value) (x:List Int):Prop:=∃u,cs = [u]/\OI w 0 u x.length x
theorem EVi.stab {E:TypeId}(h:3 ≠ E):Stab E EVi:=fun _ _ _ _ ⟨u,h1,h2⟩ hx=>⟨u,h1,h2.other h hx⟩
theorem vectorsX {w:World}{v:Value}{l:Jb}(h:Intss w v l) (hn:l.length<=100000) (hl:∀x∈l,x.length<=1000000) :
  Calls Tryz.prog 131 #[v] w fun e w'=>∃u,e = .returned u/\OwX 48 1 EVi w' w.heap.size u l.length l/\Below w.heap.size w w':=by
 obtain⟨xa,xc,xb,xo,rfl,hxa,hxc,hxl⟩:=h;replace hxc:=qH hxc;replace hl:=qH hl;have h0:OwX 48 1 EVi w w.heap.size (.slice none 0 0) 0 (l.take 0):=by rw[List.take_zero];exact OwX.nil _ _
 go_enter Tryz.func131, Tryz.ntmps131
 go_wp2_with fail
 go_loopw [3,8] (fun ov iv wr=>∃i:Nat,iv = .int .i64 i/\i<=l.length/\OwX 48 1 EVi wr w.heap.size ov i (l.take i)/\Below w.heap.size w wr) (fun _ iv _=>l.length - (intOf iv).toNat)
 case atStart=>exact⟨0,rfl,by omega,h0,Below.refl _ _⟩
 case round=>
  clear h0;obtain⟨i,rfl,hi,ho,hbr⟩:=hrel;by_cases hlt:i < l.length
  ·obtain rfl:=hxa (by omega);obtain⟨u,cu,hu⟩:=hxc.out i hlt;obtain⟨x,hx⟩:=exE (l.getD i []);rw[hx] at hu;have c0:=cell_kept hbr cu;have hm:x∈l:=(by rw[<-hx,getD_eq hlt];exact List.getElem_mem hlt);have HC:=cloneInK (hu.keep hbr) (hl.out x hm);have htk:l.take i ++ [x]=l.take (i+1):=(by rw[take_snoc hlt [],hx]);obtain⟨ua,uc,hs⟩:=hu.shape;subst hs;obtain⟨oa,oc,hos⟩:=ho.shape;subst hos;have hoh:=qH ho;replace HC:=qH HC;replace htk:=qH htk;clear hu hx hm cu ho;go_wp2_with fail
   refine HC.out.mono ?_;rintro e w2 ⟨u2,rfl,hO2,hb2⟩;have ho2:=hoh.out.keep (EVi.stab (by decide)) hb2;obtain⟨pa,pc,hps⟩:=hO2.shape;subst hps;have hbr2:=btt hbr hb2;have hsz:=hbr2.size;obtain⟨W3,hW3⟩:=exF (w2.alloc (.cells #[.slice pa x.length pc] 48));have hEl:EVi w2 [.slice pa x.length pc] x:=⟨_,rfl,hO2.base (Nat.zero_le _)⟩;have hi9:i<=1000000000000:=(by omega);have hc9:∀u∈(#[.slice pa x.length pc]:Array Value).toList,u.oneCell'=true:=fun u hu=>by rw[List.mem_singleton.1 hu];rfl
   replace hEl:=qH hEl;replace hc9:=qH hc9;clear hW3 hO2;go_wp2_with (at_builtin;refine wpAppX (x:=x) elemVv (by decide) (by decide) (EVi.stab (by decide)) rfl _ _ rfl rfl ho2 rfl rfl rfl hc9.out hEl.out hi9 hsz ?_)
   intro v3 w3 ho3 hg3 hb3 hx3;rw[htk.out] at ho3;have hbr3:=hbr2.trans hb3;go_wp2;go_roundw
   case rel=>exact⟨i+1,by go_num,hlt,ho3,hbr3⟩
   case measure=>simp[intOf];omega
  ·obtain rfl:i=l.length:=(by omega);rw[List.take_length] at ho;have hoh:=qH ho;clear ho;go_wp2;go_ret;exact⟨_,rfl,hoh.out,hbr⟩
end Go.Proofs.YtcnedkkcgdkioaaGreat
