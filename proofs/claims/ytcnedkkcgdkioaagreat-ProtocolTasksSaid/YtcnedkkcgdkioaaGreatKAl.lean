/- Texts of this claim, put together: TM TN TO TP TQ. -/
import Derived.Test.YtcnedkkcgdkioaaGreatKAk

set_option maxRecDepth 100000
set_option maxHeartbeats 12800000
namespace Go.Proofs.YtcnedkkcgdkioaaGreat
open Go.RowKit Go.ChangeMaps Go.MapKept Go.WideMaps
theorem ixOf_snoc {κ:Type} [DecidableEq κ] {l:List κ}{x:κ}(h:x ∉ l):ixOf (l ++ [x]) x=l.length:=by
 simp[ixOf,List.idxOf_append,h]
def BuV (w:World) (B bb mb:Nat) (n:Int) (vs:List (List Int)):Prop:=
 ∃v,w.heap[bb]? = some (.cells #[.int .i64 n,v,.map (some mb)] 140)∧OwX 114 8 EI w B v vs.length vs∧IM vwV w mb vs∧vs.Nodup∧(∀x∈vs,SmV x)∧B≤bb∧B≤mb
structure KeepB (bb:Nat) (w w':World):Prop where
 cells:∀(k:Nat) (cs:Array Value) (t:TypeId),w.heap[k]? = some (.cells cs t)→t ≠ 114→k ≠ bb→w'.heap[k]? = w.heap[k]?
 lo:KeepL w w'
instance {bb:Nat} {w w':World}:CoeFun (KeepB bb w w') (fun _=>∀(k:Nat) (cs:Array Value) (t:TypeId),w.heap[k]? = some (.cells cs t)→t ≠ 114→k ≠ bb→w'.heap[k]? = w.heap[k]?):=⟨KeepB.cells⟩
theorem KeepB.trans {bb:Nat}{a b c:World}(h:KeepB bb a b) (g:KeepB bb b c):KeepB bb a c:=⟨fun k cs t hk ht hn=>by
 have h1:=h k cs t hk ht hn;rw[hk] at h1;exact(g k cs t h1 ht hn).trans (h1.trans hk.symm),h.lo.trans g.lo⟩
theorem KeepB.below {bb:Nat}{a b:World}(h:Below a.heap.size a b):KeepB bb a b:=⟨fun k _ _ hk _ _=>h.block k (Array.getElem?_eq_some_iff.1 hk).1,KeepL.below h⟩
theorem KeepB.ofX {bb:Nat}{a b:World}(h:KeepX 114 a b) (hl:KeepL a b):KeepB bb a b:=⟨fun k cs t hk ht _=>h k cs t hk ht,hl⟩
theorem KeepB.setCell {bb j:Nat}{a:World}{v:Value}{cs:Array Value}{t:TypeId}(hc:a.heap[bb]? = some (.cells cs t)):KeepB bb a (a.setCell ⟨bb,j,none⟩ v):=⟨fun k _ _ _ _ hn=>Below.heap_setCell a ⟨bb,j,none⟩ v k hn,KeepL.setCell (p:=⟨bb,j,none⟩) hc v⟩
theorem setBlkKeep {w:World}{b k:Nat}(o:Obj) (h:k ≠ b):(setBlock w b o).heap[k]? = w.heap[k]?:=by
 simp only[setBlock];rw[Array.getElem?_setIfInBounds_ne (by omega)]
theorem setBlkBelow {w0 w:World}{B b:Nat}(h:Below B w0 w) (hB:B≤b) (o:Obj):Below B w0 (setBlock w b o):=
 h.trans ⟨rfl,rfl,rfl,by simp[setBlock],fun k hk=>setBlkKeep o (by omega)⟩
theorem mapKeepL {w:World}{b:Nat}{vs:List (List Int)}(h:IM vwV w b vs) (o:Obj):KeepL w (setBlock w b o):=⟨by simp[setBlock],fun k p hk hp=>by
 obtain⟨es,c,hb,_⟩:=h;refine(setBlkKeep o fun e=>?_).trans hk;subst e;rw[hb] at hk;injection hk with hk;subst hk;exact hp⟩
theorem mapKeepX {E:TypeId}{w:World}{b:Nat}{vs:List (List Int)}(h:IM vwV w b vs) (o:Obj):KeepX E w (setBlock w b o):=fun k cs t hk _=>by
 obtain⟨es,c,hb,_⟩:=h;refine setBlkKeep o fun e=>?_;subst e;rw[hk] at hb;cases hb
theorem BuV.keep {w w':World}{B bb mb:Nat}{n:Int}{vs:List (List Int)}(h:BuV w B bb mb n vs) (hb:Below w.heap.size w w'):BuV w' B bb mb n vs:=by
 obtain⟨v,h1,h2,h3,h4,h5,h6,h7⟩:=h;exact⟨v,keptO hb h1,h2.keep (EI.stab _) hb,h3.keep (hb.block _ h3.lt),h4,h5,h6,h7⟩
theorem addC {w:World}{B bb mb:Nat}{n:Int}{vs:List (List Int)}{x:List Int}(h:BuV w B bb mb n vs) (hB:B≤w.heap.size) (hx:SmV x) (hl:vs.length≤100000) :
  Calls Tryz.prog 135 #[.pointer (some ⟨bb,0,none⟩),vwV x] w fun e w'=>e = .returned (.int .i64 (ixOf (putV vs x) x:Nat))∧BuV w' B bb mb n (putV vs x)∧KeepB bb w w'∧Below B w w'∧∀k,k < w.heap.size→k ≠ bb→k ≠ mb→(∀v,w.heap[bb]? = some (.cells #[.int .i64 n,v,.map (some mb)] 140)→v.ownBlock ≠ some k)→w'.heap[k]? = w.heap[k]?:=by
 have hmx : Tryz.prog.follows .mixedOrders=true:=by kernel_rfl
 obtain⟨a0,a1,a2,a3,a4,a5,a6,a7,rfl⟩:=eight hx.1;obtain⟨W1,hW1⟩:=exF (w.alloc (.cells #[.int .i64 a0,.int .i64 a1,.int .i64 a2,.int .i64 a3,.int .i64 a4,.int .i64 a5,.int .i64 a6,.int .i64 a7] 114));have hb1:Below w.heap.size w W1:=by rw[hW1];exact(Below.refl _ w).alloc (Nat.le_refl _) _
 have kv:W1.heap[w.heap.size]? = some (.cells #[.int .i64 a0,.int .i64 a1,.int .i64 a2,.int .i64 a3,.int .i64 a4,.int .i64 a5,.int .i64 a6,.int .i64 a7] 114):=by rw[hW1];exact heap_alloc_new _ _
 have hU:=qH (fun W (hb:Below W1.heap.size W1 W)=>(h.keep hb1).keep hb);have hKv:=qH (fun W (hb:Below W1.heap.size W1 W)=>keptO hb kv);have hB1:B≤W1.heap.size:=Nat.le_trans hB hb1.size;obtain⟨v,k0,ho,hIM,hnd,hSm,hBb,hBm⟩:=h.keep hb1;obtain⟨va,vc,hv⟩:=ho.shape;subst hv;have hlook:=qH (fun W (hb:Below W1.heap.size W1 W)=>IM.look keyX_view umView zIntV (hIM.keep (hb.block _ hIM.lt)) hnd hSm hx);have HK:=qH (fun W (hb:Below W1.heap.size W1 W)=>And.intro (box3' (keptO hb k0)) (box8' (keptO hb kv)));have hblt:bb < w.heap.size:=by obtain⟨_,h1,_⟩:=h;exact(Array.getElem?_eq_some_iff.1 h1).1
 clear h hb1 k0 ho;by_cases hin : [a0,a1,a2,a3,a4,a5,a6,a7]∈vs
 ·have hput:putV vs [a0,a1,a2,a3,a4,a5,a6,a7]=vs:=if_pos hin;rw[hput]
  have hlk:=qH (fun W (hb:Below W1.heap.size W1 W)=>by
   rcases hlook.out W hb with⟨h1,_⟩|⟨_,_,h2⟩
   ·exact absurd hin h1
   ·exact h2)
  obtain⟨q,hq⟩:=exE (ixOf vs [a0,a1,a2,a3,a4,a5,a6,a7]);simp only[vwV,List.map_cons,List.map_nil,hq] at hlk⊢;have hfin:=qH (fun W (hb:Below W1.heap.size W1 W)=>And.intro (hU.out W hb) (show Below w.heap.size w W from btt (by rw[hW1];exact(Below.refl _ w).alloc (Nat.le_refl _) _) hb));clear hin hput hq hIM hnd hSm;go_enter Tryz.func135, Tryz.ntmps135
  go_wp2_with fail
  rw[←hW1];replace hW1:=qH hW1;refine wp_region_bw hmx (by kernel_rfl) ?_
  repeat (refine WQ.step fun K hK=>?_;go_simp;first|(refine hK _ ?_;clear hK K)|(apply Exists.intro;refine⟨fun wq hC=>?_,hK _ ?_⟩;(·(first|with_reducible rfl|(obtain⟨⟨y0,y1,y2⟩,p0,p1,p2,p3,p4,p5,p6,p7⟩:=HK.out wq hC;have hlq:=hlk.out wq hC;go_simp;first|done|with_reducible rfl|with_reducible exact⟨rfl,rfl⟩)));clear hK K))
  refine WQ.nil ?_;intro w4 hb4;obtain⟨f1,f2⟩:=hfin.out w4 hb4;replace f1:=qH f1;go_wp2_with fail
  go_ret;exact⟨rfl,f1.out,KeepB.below f2,f2.mono hB,fun k hk _ _ _=>f2.block k hk⟩
 ·have hput:putV vs [a0,a1,a2,a3,a4,a5,a6,a7]=vs ++ [[a0,a1,a2,a3,a4,a5,a6,a7]]:=if_neg hin;rw[hput];have hix:ixOf (vs ++ [[a0,a1,a2,a3,a4,a5,a6,a7]]) [a0,a1,a2,a3,a4,a5,a6,a7]=vs.length:=ixOf_snoc hin;rw[hix]
  have hlk:=qH (fun W (hb:Below W1.heap.size W1 W)=>by
   rcases hlook.out W hb with⟨_,_,h2⟩|⟨h1,_⟩
   ·exact h2
   ·exact absurd h1 hin)
  simp only[vwV,List.map_cons,List.map_nil] at hlk⊢;have hnd2:=putV_nodup (v:=[a0,a1,a2,a3,a4,a5,a6,a7]) hnd
  have hSm2:∀y∈putV vs [a0,a1,a2,a3,a4,a5,a6,a7],SmV y:=fun y hy=>by
   rcases putV_mem.1 hy with h1|rfl
   ·exact hSm y h1
   ·exact hx
  rw[hput] at hnd2 hSm2;have hbw:Below w.heap.size w W1:=by rw[hW1];exact(Below.refl _ w).alloc (Nat.le_refl _) _
  have hputm:=qH (fun W (hb:Below W1.heap.size W1 W)=>IM.put keyX_view umView (hIM.keep (hb.block _ hIM.lt)) hSm hx hin);simp only[vwV,List.map_cons,List.map_nil] at hputm;have hmlt:=hIM.lt;replace hnd2:=qH hnd2;replace hSm2:=qH hSm2;replace hIM:=qH hIM;have hl9:(vs.length:Int)≤100000:=by omega
  clear hput hnd hSm hix hin hlook;go_enter Tryz.func135, Tryz.ntmps135
  go_wp2_with fail
  rw[←hW1];replace hW1:=qH hW1;refine wp_region_bw hmx (by kernel_rfl) ?_
  repeat (refine WQ.step fun K hK=>?_;go_simp;first|(refine hK _ ?_;clear hK K)|(apply Exists.intro;refine⟨fun wq hC=>?_,hK _ ?_⟩;(·(first|with_reducible rfl|(obtain⟨⟨y0,y1,y2⟩,p0,p1,p2,p3,p4,p5,p6,p7⟩:=HK.out wq hC;have hlq:=hlk.out wq hC;go_simp;first|done|with_reducible rfl|with_reducible exact⟨rfl,rfl⟩)));clear hK K))
  refine WQ.nil ?_;intro w4 hb4;obtain⟨⟨y0,y1,y2⟩,p0,p1,p2,p3,p4,p5,p6,p7⟩:=HK.out w4 hb4;go_wp2_with fail
  refine wp_region_qtail 6 hmx (by kernel_rfl) (by kernel_rfl) ?_ ?_
  ·rintro⟨a,wx,h⟩
   first
    | exact h
    | (obtain⟨_,h,_⟩:=h;cases h;done)
    | (obtain⟨_,_,h,_⟩:=h;cases h;done)
    | (obtain⟨h,_⟩:=h;cases h;done)
  ·intro ops';simp only[List.take_succ_cons,List.take_zero,List.drop_succ_cons,List.drop_zero]
   repeat (quiet_step (fail))
   refine wpQuiet_nil ?_;intro d;have hbd:Below W1.heap.size W1 (w4.drewN d):=below_drewN hb4 d;obtain⟨ob,hp,hI5⟩:=hputm.out _ hbd;obtain⟨v5,k5,o5,_,_,_,_,_⟩:=hU.out _ hbd;have kv5:=hKv.out _ hbd;obtain⟨W5,hW5⟩:=exF (setBlock (w4.drewN d) mb ob);have him5:=hIM.out.keep (w':=w4.drewN d) (hbd.block _ hmlt);have hX5:∀E,KeepX E (w4.drewN d) W5:=fun E=>by rw[hW5];exact mapKeepX him5 ob
   have kb5:=(hX5 114 bb _ _ k5 (by decide)).trans k5;have kw5:=(hX5 140 w.heap.size _ _ kv5 (by decide)).trans kv5;have or5:=o5.other (E':=140) (EI.stab _) (by decide) (hX5 _);have hsz5:W5.heap.size=(w4.drewN d).heap.size:=(by rw[hW5];simp[setBlock]);have hB5:Below B w W5:=(by rw[hW5];exact setBlkBelow ((btt hbw hbd).mono hB) hBm ob);have hK5:KeepB bb w W5:=(KeepB.below (btt hbw hbd)).trans (KeepB.ofX (hX5 _) (by rw[hW5];exact mapKeepL him5 ob));rw[←hW5] at hp hI5;have hml5:mb < W5.heap.size:=hI5.lt
   have hne5:∀g,v5.ownBlock=some g→g ≠ mb:=fun g hg e=>by
    obtain⟨ws,h1,_⟩:=or5;obtain⟨cs,hc⟩:=ownsRow_ty h1 g hg;obtain⟨es,c,hm,_⟩:=hI5;rw[e] at hc;rw[hc] at hm;cases hm
   have hBs:B≤W5.heap.size:=Nat.le_trans hB hB5.size;have or5h:=qH or5;replace hX5:=qH hX5;replace hI5:=qH hI5;replace hW5:=qH hW5;clear y0 y1 y2 p0 p1 p2 p3 p4 p5 p6 p7;go_wp2_with fail
   go_upto_region 5 with fail
   refine regAdd5 kb5 kw5 or5 (by omega) hBs ?_;intro W6 g v6 hO6 hb6 hx6 hi6 W7 hW7;have kb6:=(hx6 bb _ _ kb5 (by decide)).trans kb5;have kb7:W7.heap[bb]? = some (.cells #[.int .i64 n,v6,.map (some mb)] 140):=(by rw[hW7];exact heap_setCell_same W6 bb 1 _ _ v6 kb6);have hx7:KeepX 140 W6 W7:=(by rw[hW7];exact KeepX.setCell (p:=⟨bb,1,none⟩) kb6 v6);have hO7:=hO6.other (E':=140) (EI.stab _) (by decide) hx7
   have hI7:IM vwV W7 mb (vs ++ [[a0,a1,a2,a3,a4,a5,a6,a7]]):=hI5.out.keep (by
    rw[hW7];refine(Below.heap_setCell W6 ⟨bb,1,none⟩ v6 mb fun e=>?_).trans (hi6 mb hml5 fun e=>hne5 mb e rfl);have e:mb=bb:=e;obtain⟨es,c,hm,_⟩:=hI5.out;rw[e,kb5] at hm;cases hm)
   have hBB:Below B w W7:=by rw[hW7];exact Below.setCell (p:=⟨bb,1,none⟩) (hB5.trans hb6) hBb _
   have hKK:KeepB bb w W7:=by
    rw[hW7];refine(hK5.trans (KeepB.ofX hx6 ⟨hb6.size,fun k p hk hp=>?_⟩)).trans (KeepB.setCell kb6);refine(hi6 k (Array.getElem?_eq_some_iff.1 hk).1 fun e=>?_).trans hk;obtain⟨ws,h1,_⟩:=or5h.out;obtain⟨cs,hc⟩:=ownsRow_ty h1 k e;rw[hk] at hc;injection hc with hc;subst hc;exact hp
   have hUU:BuV W7 B bb mb n (vs ++ [[a0,a1,a2,a3,a4,a5,a6,a7]]):=⟨v6,kb7,by rw[List.length_append];exact hO7,hI7,hnd2.out,hSm2.out,hBb,hBm⟩
   have hFr:∀k,k < w.heap.size→k ≠ bb→k ≠ mb→(∀v,w.heap[bb]? = some (.cells #[.int .i64 n,v,.map (some mb)] 140)→v.ownBlock ≠ some k)→W7.heap[k]? = w.heap[k]?:=fun k hk h1 h2 h3=>by
    have e1:(w4.drewN d).heap[bb]? = w.heap[bb]?:=(btt hbw hbd).block bb hblt;have e2:=h3 v5 (e1.symm.trans k5);have e3:W5.heap[k]? = w.heap[k]?:=(by rw[hW5.out];exact(setBlkKeep ob h2).trans ((btt hbw hbd).block k hk));rw[hW7];exact(Below.heap_setCell W6 ⟨bb,1,none⟩ v6 k h1).trans ((hi6 k (Nat.lt_of_lt_of_le hk hB5.size) e2).trans e3)
   replace hFr:=qH hFr;replace hUU:=qH hUU;replace hKK:=qH hKK;clear hx7 hx6 hO7 hO6 hI7 hX5 hW7 kb6 kb7;go_wp2_with fail
   go_ret;exact⟨rfl,hUU.out,hKK.out,hBB,hFr.out⟩
end Go.Proofs.YtcnedkkcgdkioaaGreat
namespace Go.Proofs.YtcnedkkcgdkioaaGreat
open Go.RowKit
theorem eqVw (d:Nat) (p k x a b c e f p' k' x' a' b' c' e' f':Int) (w:World):(Op.equalIn (d+3) 114 (.agg #[.int .i64 p,.int .i64 k,.int .i64 x,.int .i64 a,.int .i64 b,.int .i64 c,.int .i64 e,.int .i64 f]) (.agg #[.int .i64 p',.int .i64 k',.int .i64 x',.int .i64 a',.int .i64 b',.int .i64 c',.int .i64 e',.int .i64 f'])).run Tryz.prog w = .ok (eqL [p,k,x,a,b,c,e,f] [p',k',x',a',b',c',e',f']) w:=by
 have u3:=Tryz.underlying3;have a3:=Tryz.isAgg3;have z3:=Tryz.sizeOf3;have a5:=Tryz.isAgg112;have z5:=Tryz.sizeOf112;have hS : Tryz.prog.underlying 114=some (.struct (Tryz.prog.fieldsOf 114)):=by kernel_rfl
 have hp : Tryz.prog.stoodInHeld 114=false:=by kernel_rfl
 have hA:=eqArr d a b c e f a' b' c' e' f';rw[show d+3=(d+2)+1 from rfl,run_equalIn_agg w (d+2) 114 _ _ hS hp];simp only[Program.fieldsOf,Tryz.underlying114];go_simp;by_cases h0:p=p'<;>by_cases h1:k=k'<;>by_cases h2:x=x'<;>by_cases h3 : [a,b,c,e,f] = [a',b',c',e',f']<;>simp_all [eqL]
@[go_sem high] theorem eqVw' (p k x a b c e f p' k' x' a' b' c' e' f':Int) (w:World):(Op.equalIn 10000 114 (.agg #[.int .i64 p,.int .i64 k,.int .i64 x,.int .i64 a,.int .i64 b,.int .i64 c,.int .i64 e,.int .i64 f]) (.agg #[.int .i64 p',.int .i64 k',.int .i64 x',.int .i64 a',.int .i64 b',.int .i64 c',.int .i64 e',.int .i64 f'])).run Tryz.prog w = .ok (eqL [p,k,x,a,b,c,e,f] [p',k',x',a',b',c',e',f']) w:=eqVw 9997 p k x a b c e f p' k' x' a' b' c' e' f' w
def fstV (p x:Int):List Int:=[p,0,x,-1,-1,-1,-1,-1]
theorem elemIn:ElemK Tryz.prog 48 3 (.int .i64 0) 1 8:=⟨by kernel_rfl,by kernel_rfl,rfl⟩
theorem elemMs:ElemK Tryz.prog 25 180 (.slice none 0 0) 1 24:=⟨by kernel_rfl,by kernel_rfl,rfl⟩
theorem elemCa:ElemK Tryz.prog 22 95 (.agg #[.slice none 0 0,.slice none 0 0,.slice none 0 0]) 3 72:=⟨by kernel_rfl,by kernel_rfl,rfl⟩
theorem elemVv:ElemK Tryz.prog 78 48 (.slice none 0 0) 1 24:=⟨by kernel_rfl,by kernel_rfl,rfl⟩
theorem cloneIn {w:World}(ad:Addr) (n c:Nat) (news:List Value) (hl:news.length=n * 1) (hn:n≤1000000) (hc:∀j u,news[j]? = some u→w.cell? (ad.add j)=some u) (h1:∀u∈news,u.oneCell'=true) :
  Calls Tryz.prog 130 #[.slice (some ad) n c] w fun e w'=>∃v',e = .returned v'∧w'.ownsRow w.heap.size 3 1 v' n news∧Below w.heap.size w w':=by
 have q22:=fun(w:World)=>Lib.run_eql_slice_nil (P:=Tryz.prog) w 48 3 (some ad) n c 0 0 elemIn.1;obtain⟨i0,hi,hz0,hz1,hz2⟩:=info_parts elemIn.2.1;have A:Hid (∀j u,news[j]? = some u→w.cell? (ad.add j)=some u):=hc;clear hc;have hn':n * 8≤140737488355328:=by omega
 go_enter Tryz.func130, Tryz.ntmps130
 go_wp2_with (at_builtin;refine wpList_append_own _ rfl _ _ 48 rfl w.heap.size 3 i0 _ 1 8 elemIn.1 hi hz0 hz1 hz2 elemIn.2.2 (by decide) _ _ _ rfl (World.ownsRow_made w #[] 0 (Nat.le_refl _) (Nat.zero_le _) (by simp)) ad n c news rfl ?qc1 ?qc2 ?qc3 ?qc4 ?qc5 ?qc6 ?_)
 case qc1=>exact hl
 case qc2=>
  intro j u hj;exact Lib.cell?_alloc_some _ (A.out j u hj)
 case qc3=>exact h1
 case qc4=>unfold maxLen;omega
 case qc5=>rw[Nat.zero_add];exact hn'
 case qc6=>simp
 intro v' w1 hown hgrow hnil;go_wp2;go_ret;refine⟨v',rfl,by simpa using hown,?_⟩;exact((Below.refl _ w).alloc (Nat.le_refl _) _).grown hgrow (by simp) (by intro k hk;simp[Value.ownBlock] at hk;omega)
theorem cloneInNil {w:World}(n c:Nat):Calls Tryz.prog 130 #[.slice none n c] w fun e w'=>e = .returned (.slice none 0 0)∧w'=w:=by
 have q22:=fun(w:World)=>Lib.run_eql_slice_nil (P:=Tryz.prog) w 48 3 none n c 0 0 elemIn.1;go_enter Tryz.func130, Tryz.ntmps130
 go_wp2;go_ret;exact⟨rfl,rfl⟩
theorem cloneMs {w:World}(ad:Addr) (n c:Nat) (news:List Value) (hl:news.length=n * 1) (hn:n≤1000000) (hc:∀j u,news[j]? = some u→w.cell? (ad.add j)=some u) (h1:∀u∈news,u.oneCell'=true) :
  Calls Tryz.prog 132 #[.slice (some ad) n c] w fun e w'=>∃v',e = .returned v'∧w'.ownsRow w.heap.size 180 1 v' n news∧Below w.heap.size w w':=by
 have q22:=fun(w:World)=>Lib.run_eql_slice_nil (P:=Tryz.prog) w 25 180 (some ad) n c 0 0 elemMs.1;obtain⟨i0,hi,hz0,hz1,hz2⟩:=info_parts elemMs.2.1;have A:Hid (∀j u,news[j]? = some u→w.cell? (ad.add j)=some u):=hc;clear hc;have hn':n * 24≤140737488355328:=by omega
 go_enter Tryz.func132, Tryz.ntmps132
 go_wp2_with (at_builtin;refine wpList_append_own _ rfl _ _ 25 rfl w.heap.size 180 i0 _ 1 24 elemMs.1 hi hz0 hz1 hz2 elemMs.2.2 (by decide) _ _ _ rfl (World.ownsRow_made w #[] 0 (Nat.le_refl _) (Nat.zero_le _) (by simp)) ad n c news rfl ?qc1 ?qc2 ?qc3 ?qc4 ?qc5 ?qc6 ?_)
 case qc1=>exact hl
 case qc2=>
  intro j u hj;exact Lib.cell?_alloc_some _ (A.out j u hj)
 case qc3=>exact h1
 case qc4=>unfold maxLen;omega
 case qc5=>rw[Nat.zero_add];exact hn'
 case qc6=>simp
 intro v' w1 hown hgrow hnil;go_wp2;go_ret;refine⟨v',rfl,by simpa using hown,?_⟩;exact((Below.refl _ w).alloc (Nat.le_refl _) _).grown hgrow (by simp) (by intro k hk;simp[Value.ownBlock] at hk;omega)
theorem cloneCa {w:World}(ad:Addr) (n c:Nat) (news:List Value) (hl:news.length=n * 3) (hn:n≤1000000) (hc:∀j u,news[j]? = some u→w.cell? (ad.add j)=some u) (h1:∀u∈news,u.oneCell'=true) :
  Calls Tryz.prog 129 #[.slice (some ad) n c] w fun e w'=>∃v',e = .returned v'∧w'.ownsRow w.heap.size 95 3 v' n news∧Below w.heap.size w w':=by
 have q22:=fun(w:World)=>Lib.run_eql_slice_nil (P:=Tryz.prog) w 22 95 (some ad) n c 0 0 elemCa.1;obtain⟨i0,hi,hz0,hz1,hz2⟩:=info_parts elemCa.2.1;have A:Hid (∀j u,news[j]? = some u→w.cell? (ad.add j)=some u):=hc;clear hc;have hn':n * 72≤140737488355328:=by omega
 go_enter Tryz.func129, Tryz.ntmps129
 go_wp2_with (at_builtin;refine wpList_append_own _ rfl _ _ 22 rfl w.heap.size 95 i0 _ 3 72 elemCa.1 hi hz0 hz1 hz2 elemCa.2.2 (by decide) _ _ _ rfl (World.ownsRow_made w #[] 0 (Nat.le_refl _) (Nat.zero_le _) (by simp)) ad n c news rfl ?qc1 ?qc2 ?qc3 ?qc4 ?qc5 ?qc6 ?_)
 case qc1=>exact hl
 case qc2=>
  intro j u hj;exact Lib.cell?_alloc_some _ (A.out j u hj)
 case qc3=>exact h1
 case qc4=>unfold maxLen;omega
 case qc5=>rw[Nat.zero_add];exact hn'
 case qc6=>simp
 intro v' w1 hown hgrow hnil;go_wp2;go_ret;refine⟨v',rfl,by simpa using hown,?_⟩;exact((Below.refl _ w).alloc (Nat.le_refl _) _).grown hgrow (by simp) (by intro k hk;simp[Value.ownBlock] at hk;omega)
theorem cloneInK {w:World}{v:Value}{xs:List Int}(h:Ints w v xs) (hn:xs.length≤1000000) :
  Calls Tryz.prog 130 #[v] w fun e w'=>∃u,e = .returned u∧OI w' w.heap.size u xs.length xs∧Below w.heap.size w w':=by
 obtain⟨a,c,b,off,rfl,ha,hc,_⟩:=h;cases a with
 | none=>
  have h0:xs.length=0:=by
   rcases Nat.eq_zero_or_pos xs.length with h'|h'
   ·exact h'
   ·cases ha h'
  obtain rfl:=List.length_eq_zero_iff.1 h0;refine(cloneInNil 0 c).mono ?_;rintro e w' ⟨rfl,rfl⟩;exact⟨_,rfl,OI.nil _ _,Below.refl _ _⟩
 | some ad=>
  refine(cloneIn ad xs.length c (xs.map (Value.int .i64)) (by rw[List.length_map,Nat.mul_one]) hn ?_ ?_).mono ?_
  ·intro j u hj;rw[List.getElem?_map] at hj
   have hjl:j < xs.length:=by
    rcases Nat.lt_or_ge j xs.length with h'|h'
    ·exact h'
    ·rw[List.getElem?_eq_none h'] at hj;cases hj
   have:=ha (by omega)
   injection this with this;subst this;rw[Addr.add_lit,hc j hjl,←hj,List.getElem?_eq_getElem hjl,getD_eq hjl];rfl
  ·intro u hu;obtain⟨i,_,rfl⟩:=List.mem_map.1 hu;rfl
  ·rintro e w' ⟨u,rfl,h1,h2⟩;exact⟨u,rfl,h1,h2⟩
def EVi (w:World) (cs:List Value) (x:List Int):Prop:=∃u,cs = [u]∧OI w 0 u x.length x
theorem EVi.stab {E:TypeId}(h:3 ≠ E):Stab E EVi:=fun _ _ _ _ ⟨u,h1,h2⟩ hx=>⟨u,h1,h2.other h hx⟩
theorem vectorsX {w:World}{v:Value}{l:List (List Int)}(h:Intss w v l) (hn:l.length≤100000) (hl:∀x∈l,x.length≤1000000) :
  Calls Tryz.prog 131 #[v] w fun e w'=>∃u,e = .returned u∧OwX 48 1 EVi w' w.heap.size u l.length l∧Below w.heap.size w w':=by
 obtain⟨xa,xc,xb,xo,rfl,hxa,hxc,hxl⟩:=h;replace hxc:=qH hxc;replace hl:=qH hl;have h0:OwX 48 1 EVi w w.heap.size (.slice none 0 0) 0 (l.take 0):=by rw[List.take_zero];exact OwX.nil _ _
 go_enter Tryz.func131, Tryz.ntmps131
 go_wp2_with fail
 go_loopw [3,8] (fun ov iv wr=>∃i:Nat,iv = .int .i64 i∧i≤l.length∧OwX 48 1 EVi wr w.heap.size ov i (l.take i)∧Below w.heap.size w wr) (fun _ iv _=>l.length - (intOf iv).toNat)
 case atStart=>exact⟨0,rfl,by omega,h0,Below.refl _ _⟩
 case round=>
  clear h0;obtain⟨i,rfl,hi,ho,hbr⟩:=hrel;by_cases hlt:i < l.length
  ·obtain rfl:=hxa (by omega);obtain⟨u,cu,hu⟩:=hxc.out i hlt;obtain⟨x,hx⟩:=exE (l.getD i []);rw[hx] at hu;have c0:=cell_kept hbr cu;have hm:x∈l:=(by rw[←hx,getD_eq hlt];exact List.getElem_mem hlt);have HC:=cloneInK (hu.keep hbr) (hl.out x hm);have htk:l.take i ++ [x]=l.take (i+1):=(by rw[take_snoc hlt [],hx]);obtain⟨ua,uc,hs⟩:=hu.shape;subst hs;obtain⟨oa,oc,hos⟩:=ho.shape;subst hos;have hoh:=qH ho;replace HC:=qH HC;replace htk:=qH htk;clear hu hx hm cu ho;go_wp2_with fail
   refine HC.out.mono ?_;rintro e w2 ⟨u2,rfl,hO2,hb2⟩;have ho2:=hoh.out.keep (EVi.stab (by decide)) hb2;obtain⟨pa,pc,hps⟩:=hO2.shape;subst hps;have hbr2:=btt hbr hb2;have hsz:=hbr2.size;obtain⟨W3,hW3⟩:=exF (w2.alloc (.cells #[.slice pa x.length pc] 48));have hEl:EVi w2 [.slice pa x.length pc] x:=⟨_,rfl,hO2.base (Nat.zero_le _)⟩;have hi9:i≤1000000000000:=(by omega);have hc9:∀u∈(#[.slice pa x.length pc]:Array Value).toList,u.oneCell'=true:=fun u hu=>by rw[List.mem_singleton.1 hu];rfl
   replace hEl:=qH hEl;replace hc9:=qH hc9;clear hW3 hO2;go_wp2_with (at_builtin;refine wpAppX (x:=x) elemVv (by decide) (by decide) (EVi.stab (by decide)) rfl _ _ rfl rfl ho2 rfl rfl rfl hc9.out hEl.out hi9 hsz ?_)
   intro v3 w3 ho3 hg3 hb3 hx3;rw[htk.out] at ho3;have hbr3:=hbr2.trans hb3;go_wp2;go_roundw
   case rel=>exact⟨i+1,by go_num,hlt,ho3,hbr3⟩
   case measure=>simp[intOf];omega
  ·obtain rfl:i=l.length:=(by omega);rw[List.take_length] at ho;have hoh:=qH ho;clear ho;go_wp2;go_ret;exact⟨_,rfl,hoh.out,hbr⟩
end Go.Proofs.YtcnedkkcgdkioaaGreat
namespace Go.Proofs.YtcnedkkcgdkioaaGreat
open Go.RowKit
theorem ixOf_ltV {κ:Type} [DecidableEq κ] {l:List κ}{x:κ}(h:x∈l):ixOf l x < l.length:=List.idxOf_lt_length_of_mem h
def idN (f:Nat→List Int) (vs:List (List Int)):Nat→List (List Int) × List Int
 | 0=>(vs,[])
 | k+1=>(putV (idN f vs k).1 (f k),(idN f vs k).2 ++ [(ixOf (putV (idN f vs k).1 (f k)) (f k):Int)])
section
variable {f:Nat→List Int} {vs:List (List Int)}
theorem idN_len:∀k,(idN f vs k).2.length=k
 | 0=>rfl
 | k+1=>by rw[idN,List.length_append,idN_len k];rfl
theorem idN_le:∀k,(idN f vs k).1.length≤vs.length+k
 | 0=>Nat.le_refl _
 | k+1=>by
  have h1:=idN_le k;have h2:=putV_len (vs:=(idN f vs k).1) (v:=f k);rw[idN];show(putV _ _).length≤_;omega
theorem idN_lt:∀k,∀i∈(idN f vs k).2,0≤i∧i < ((idN f vs k).1.length:Int)
 | 0=>fun i hi=>by cases hi
 | k+1=>fun i hi=>by
  rw[idN] at hi⊢
  have hl:(idN f vs k).1.length≤(putV (idN f vs k).1 (f k)).length:=by
   unfold putV;split
   ·exact Nat.le_refl _
   ·rw[List.length_append];omega
  rcases List.mem_append.1 hi with h1|h1
  ·obtain⟨h2,h3⟩:=idN_lt k i h1;exact⟨h2,by show i < ((putV _ _).length:Int);omega⟩
  ·rw[List.mem_singleton] at h1;subst h1;have:=ixOf_ltV (l:=putV (idN f vs k).1 (f k)) (x:=f k) (putV_mem.2 (.inr rfl))
   exact⟨by omega,by show _ < ((putV _ _).length:Int);omega⟩
end
def herL (hs:Int) (before:List Int):List Int:=(List.range 5).map fun q=>if q < before.length∧hasI hs (q:Int)=true then before.getD q 0 else -1
def seeV (r:List Int) (k p:Nat) (before:List Int):List Int:=[(p:Int),(k:Int),0]++herL (r.getD (1+p) 0) before
def plN (n:Nat) (xs:List Int) (wd:List (List Int)) (vs:List (List Int)):Nat→List (List Int) × List (List Int)
 | 0=>((idN (fun p=>fstV (p:Int) (xs.getD p 0)) vs n).1,[(idN (fun p=>fstV (p:Int) (xs.getD p 0)) vs n).2])
 | k+1=>((idN (fun p=>seeV (wd.getD k []) (k+1) p ((plN n xs wd vs k).2.getD k [])) (plN n xs wd vs k).1 n).1,(plN n xs wd vs k).2 ++ [(idN (fun p=>seeV (wd.getD k []) (k+1) p ((plN n xs wd vs k).2.getD k [])) (plN n xs wd vs k).1 n).2])
theorem plN_len (n:Nat) (xs:List Int) (wd:List (List Int)) (vs:List (List Int)):∀k,(plN n xs wd vs k).2.length=k+1
 | 0=>rfl
 | k+1=>by rw[plN,List.length_append,plN_len n xs wd vs k];rfl
theorem plN_le (n:Nat) (xs:List Int) (wd:List (List Int)) (vs:List (List Int)):∀k,(plN n xs wd vs k).1.length≤vs.length+n * (k+1)
 | 0=>by rw[plN,Nat.zero_add,Nat.mul_one];exact idN_le n
 | k+1=>by
  have h1:=plN_le n xs wd vs k;rw[plN];refine Nat.le_trans (idN_le n) ?_;rw[Nat.mul_succ n (k+1)];omega
def exeL (n:Nat) (vs:List (List Int)):List (Int × List Int × List (List Int))→List (List Int) × List Ex
 | []=>(vs,[])
 | (c,xs,wd)::l=>((exeL n (plN n xs wd vs wd.length).1 l).1,(c,wd,(plN n xs wd vs wd.length).2)::(exeL n (plN n xs wd vs wd.length).1 l).2)
def pairsP (cs:List Cs) (ws:List (List (List Int))):List (Int × List Int × List (List Int)):=
 cs.zipIdx.flatMap fun c=>ws.map fun w=>((c.2:Int),c.1.1,w)
def sysP (n:Nat) (cs:List Cs) (ws:List (List (List Int))):List (List Int) × List Ex:=exeL n [] (pairsP cs ws)
end Go.Proofs.YtcnedkkcgdkioaaGreat
namespace Go.Proofs.YtcnedkkcgdkioaaGreat
open Go.RowKit
theorem OI.keepB {w w':World}{B g n c bb:Nat}{xs:List Int}(h:OI w B (.slice (some ⟨g,0,none⟩) n c) n xs) (hn:0 < n) (hk:KeepB bb w w') (hbb:∃cs,w.heap[bb]? = some (.cells cs 140)):OI w' B (.slice (some ⟨g,0,none⟩) n c) n xs:=by
 obtain⟨_,_,cs,hc⟩:=h.made hn;refine h.same hn (hk g cs _ hc (by decide) fun e=>?_);subst e;obtain⟨cs',h'⟩:=hbb;rw[hc] at h';injection h' with h';injection h' with _ h';exact absurd h' (by decide)
theorem BuV.box {w:World}{B bb mb:Nat}{n:Int}{vs:List (List Int)}(h:BuV w B bb mb n vs):∃cs,w.heap[bb]? = some (.cells cs 140):=by
 obtain⟨v,h1,_⟩:=h;exact⟨_,h1⟩
theorem BuV.num {w:World}{B bb mb:Nat}{n:Int}{vs:List (List Int)}(h:BuV w B bb mb n vs):w.cell? ⟨bb,0,none⟩=some (.int .i64 n):=by
 obtain⟨v,h1,_⟩:=h;rw[cell_of_row _ _ 0 _ _ _ h1];rfl
theorem KeepB.newCell {bb g j:Nat}{w W:World}{v:Value}{cs:Array Value}{t:TypeId}(h:KeepB bb w W) (hg:w.heap.size≤g) (hc:W.heap[g]? = some (.cells cs t)):KeepB bb w (W.setCell ⟨g,j,none⟩ v):=⟨fun k cs t hk ht hn=>by
 have hl:=(Array.getElem?_eq_some_iff.1 hk).1;exact(Below.heap_setCell W ⟨g,j,none⟩ v k (by show k ≠ g;omega)).trans (h k cs t hk ht hn),h.lo.trans (KeepL.setCell (p:=⟨g,j,none⟩) hc v)⟩
theorem BuV.storeI {w:World}{B B' bb mb g m c:Nat}{n:Int}{vs:List (List Int)}{xs:List Int}(h:BuV w B bb mb n vs) (ho:OI w B' (.slice (some ⟨g,0,none⟩) m c) m xs) (hm:0 < m) (j:Nat) (v:Value):BuV (w.setCell ⟨g,j,none⟩ v) B bb mb n vs:=by
 obtain⟨_,_,cs,hc⟩:=ho.made hm;obtain⟨vv,h1,h2,h3,h4,h5,h6,h7⟩:=h;have hx:KeepX 3 w (w.setCell ⟨g,j,none⟩ v):=KeepX.setCell (p:=⟨g,j,none⟩) hc v;refine⟨vv,(hx bb _ _ h1 (by decide)).trans h1,h2.other (E':=3) (EI.stab _) (by decide) hx,h3.keep (Below.heap_setCell w ⟨g,j,none⟩ v mb fun e=>?_),h4,h5,h6,h7⟩;have e:mb=g:=e;obtain⟨es,c,hb,_⟩:=h3;rw[e,hc] at hb;cases hb
theorem OI.keepB2 {w w':World}{B n bb:Nat}{v:Value}{xs:List Int}(h:OI w B v n xs) (hk:KeepB bb w w') (hbb:∃cs,w.heap[bb]? = some (.cells cs 140)):OI w' B v n xs:=by
 refine⟨h.1,?_⟩;rcases h.2 with h'|⟨g,cap,cur,h1,h2,h3,h4⟩
 ·exact .inl h'
 ·refine .inr ⟨g,cap,cur,h1,h2,(hk g cur _ h3 (by decide) fun e=>?_).trans h3,h4⟩;subst e;obtain⟨cs',h'⟩:=hbb;rw[h3] at h';injection h' with h';injection h' with _ h';exact absurd h' (by decide)
theorem OwX.keepBV {w w':World}{B n bb:Nat}{v:Value}{xs:List (List Int)}(h:OwX 48 1 EVi w B v n xs) (hk:KeepB bb w w') (hbb:∃cs,w.heap[bb]? = some (.cells cs 140)):OwX 48 1 EVi w' B v n xs:=by
 obtain⟨vs,h1,h2,h3,h4⟩:=h;refine⟨vs,⟨h1.1,?_⟩,h2,h3,fun j x hj=>?_⟩
 ·rcases h1.2 with h'|⟨g,cap,cur,k1,k2,k3,k4⟩
  ·exact .inl h'
  ·refine .inr ⟨g,cap,cur,k1,k2,(hk g cur _ k3 (by decide) fun e=>?_).trans k3,k4⟩;subst e;obtain⟨cs',h'⟩:=hbb;rw[k3] at h';injection h' with h';injection h' with _ h';exact absurd h' (by decide)
 ·obtain⟨u,e,ho⟩:=h4 j x hj;exact⟨u,e,ho.keepB2 hk hbb⟩
theorem KS.at7 {w:World}{a:Option Addr}{c:Nat}{l:List (List Int)}(h:KS 7 w (.slice a l.length c) l) (h0:0 < l.length):∃b off,a=some ⟨b,off,none⟩∧CK 7 w b off l:=by
 obtain⟨a',c',b,off,hv,ha,hc,_⟩:=h;injection hv with e1 _ _;exact⟨b,off,e1.trans (ha h0),hc⟩
def seeQ (hs:Int) (before:List Int) (q j:Nat):Int:=if j < q∧hasI hs (j:Int)=true then before.getD j 0 else -1
theorem seeQ_ne {hs:Int}{bf:List Int}{q j:Nat}(h:j ≠ q):seeQ hs bf (q+1) j=seeQ hs bf q j:=by
 unfold seeQ;have:j < q+1↔j < q:=by omega
 simp only[this]
theorem seeQ_hit {hs:Int}{bf:List Int}{q:Nat}(h:hasI hs (q:Int)=true):seeQ hs bf (q+1) q=bf.getD q 0:=by
 unfold seeQ;rw[if_pos ⟨Nat.lt_succ_self q,h⟩]
theorem seeQ_miss {hs:Int}{bf:List Int}{q:Nat}(h:hasI hs (q:Int)=false):seeQ hs bf (q+1) q=seeQ hs bf q q:=by
 unfold seeQ;rw[h,if_neg (by simp),if_neg (by simp)]
theorem seeQ_bd {hs:Int}{bf:List Int}{q j:Nat}(h:∀i∈bf,0≤i∧i≤100000) : -1000000≤seeQ hs bf q j∧seeQ hs bf q j≤1000000:=by
 unfold seeQ;split
 ·by_cases hj:j < bf.length
  ·have:=h (bf.getD j 0) (by rw[getD_eq hj];exact List.getElem_mem hj)
   omega
  ·rw[List.getD_eq_getElem?_getD,List.getElem?_eq_none (by omega)];exact⟨by decide,by decide⟩
 ·omega
theorem plN_bd (n:Nat) (xs:List Int) (wd:List (List Int)) (vs:List (List Int)):∀k,∀i∈(plN n xs wd vs k).2.getD k [],0≤i∧i < ((plN n xs wd vs k).1.length:Int)
 | 0,i,hi=>idN_lt n i hi
 | k+1,i,hi=>by
  have hpl:=plN_len n xs wd vs k;rw[plN] at hi⊢;have hi:i∈((plN n xs wd vs k).2 ++ [(idN (fun p=>seeV (wd.getD k []) (k+1) p ((plN n xs wd vs k).2.getD k [])) (plN n xs wd vs k).1 n).2]).getD (k+1) []:=hi;rw[List.getD_eq_getElem?_getD,List.getElem?_append_right (by rw[hpl];exact Nat.le_refl _),hpl,Nat.sub_self] at hi;exact idN_lt n i hi
theorem KeepB.behind {bb:Nat}{w W W':World}(h:KeepB bb w W) (hb:Below w.heap.size W W'):KeepB bb w W':=⟨fun k cs t hk ht hn=>(hb.block k (Array.getElem?_eq_some_iff.1 hk).1).trans (h k cs t hk ht hn),⟨Nat.le_trans h.lo.size hb.size,fun k o ho hl=>(hb.block k (Array.getElem?_eq_some_iff.1 ho).1).trans (h.lo.objs k o ho hl)⟩⟩
theorem ownNot {w:World}{B n b:Nat}{v:Value}{xs:List (List Int)}(h:OwX 114 8 EI w B v n xs) (hb:w.heap.size≤b):v.ownBlock ≠ some b:=fun e=>by
 obtain⟨vs,h1,_⟩:=h;obtain⟨cs,hc⟩:=ownsRow_ty h1 b e;have:=(Array.getElem?_eq_some_iff.1 hc).1
 omega
theorem BuV.lt {w:World}{B bb mb:Nat}{n:Int}{vs:List (List Int)}(h:BuV w B bb mb n vs):bb < w.heap.size∧mb < w.heap.size:=by
 obtain⟨v,h1,h2,h3,_⟩:=h;exact⟨(Array.getElem?_eq_some_iff.1 h1).1,h3.lt⟩
theorem herL_seeQ {hs:Int}{before:List Int}{q:Nat}(h:q=before.length):herL hs before = [seeQ hs before q 0,seeQ hs before q 1,seeQ hs before q 2,seeQ hs before q 3,seeQ hs before q 4]:=by
 subst h;rfl
theorem playRow {w0 w:World}{B bb mb N:Nat}{vs:List (List Int)}{u wv:Value}{xs:List Int}{wd:List (List Int)}(hb0:Below w0.heap.size w0 w) (hBe:w0.heap.size=B) (hU:BuV w B bb mb (N:Int) vs) (hx:Ints w0 u xs) (hxl:xs.length=N) (hxs:∀j,j < N→0≤xs.getD j 0∧xs.getD j 0≤1000) (hw:KS 7 w0 wv wd) (hwl:wd.length≤6) (hwb:∀k,k < wd.length→∀p:Nat,p < 5→0≤(wd.getD k []).getD (1+p) 0∧(wd.getD k []).getD (1+p) 0≤31) (hN:1≤N∧N≤5) (hvl:vs.length≤5000) :
  Calls Tryz.prog 77 #[.pointer (some ⟨bb,0,none⟩),u,wv] w fun e w'=>∃ov,e = .returned ov∧OwX 48 1 EVi w' B ov (wd.length+1) (plN N xs wd vs wd.length).2∧BuV w' B bb mb (N:Int) (plN N xs wd vs wd.length).1∧KeepB bb w w'∧Below B w w':=by
 have hBw:B≤w.heap.size:=by rw[←hBe];exact hb0.size
 obtain⟨xa,xc,xb,xo,rfl,hxa,hxc,_⟩:=hx;obtain rfl:=hxa (by omega);rw[hxl];obtain⟨wa,wc,hws⟩:=hw.shape;subst hws;have hX:=qH (fun W (hb:Below B w W) p (hp:p < N)=>cell_kept (hb0.trans (by rw[hBe];exact hb)) (hxc p (by omega)));have hW:=qH (fun W (hb:Below B w W)=>hw.keep (hb0.trans (by rw[hBe];exact hb)));replace hwb:=qH hwb;have hU0:=qH hU;have hn0:=hU.num;obtain⟨f,hf⟩:∃f:Nat→List Int,f=fun(p:Nat)=>fstV (p:Int) (xs.getD p 0):=⟨_,rfl⟩
 have hfs:∀j,j < N→SmV (f j):=fun j hj=>by
  have h1:=hxs j hj;rw[hf];refine⟨rfl,fun y hy=>?_⟩;simp only[fstV,List.mem_cons,List.not_mem_nil,or_false] at hy;rcases hy with rfl|rfl|rfl|rfl|rfl|rfl|rfl|rfl<;>omega
 replace hfs:=qH hfs;have hfv:=qH (fun(p:Nat)=>show vwV (f p) = .agg #[.int .i64 (p:Int),.int .i64 0,.int .i64 (xs.getD p 0),.int .i64 (-1),.int .i64 (-1),.int .i64 (-1),.int .i64 (-1),.int .i64 (-1)] by rw[hf];rfl);replace hxs:=qH hxs;replace hf:=qH hf;obtain⟨hN1,hN5⟩:=hN;clear hU hxc hxa hw;go_enter Tryz.func77, Tryz.ntmps77
 go_wp2_with (at_make;refine wpMakeI rfl _ _ rfl N rfl rfl (by omega) hBw ?_;intro w1 ho1 hgr1 hb1)
 have hU1:=hU0.out.keep hb1;obtain⟨g,hg⟩:=exF (w.heap.size);rw[←hg] at ho1⊢;replace hg:=qH hg;have hk1:KeepB bb w w1:=KeepB.below hb1;have hB1:Below B w w1:=hb1.mono hBw;have ho1':OI w1 B (.slice (some ⟨g,0,none⟩) N N) N ((idN f vs 0).2++List.replicate (N - 0) 0):=ho1;have hU1':BuV w1 B bb mb (N:Int) (idN f vs 0).1:=hU1;replace ho1':=qH ho1';replace hU1':=qH hU1';replace hk1:=qH hk1;clear ho1 hU1 hgr1 hb1 hn0;go_wp2_with fail
 go_loopw [24] (fun iv wr=>∃p:Nat,iv = .int .i64 p∧p≤N∧Hid (BuV wr B bb mb (N:Int) (idN f vs p).1)∧Hid (OI wr B (.slice (some ⟨g,0,none⟩) N N) N ((idN f vs p).2++List.replicate (N - p) 0))∧Hid (KeepB bb w wr)∧Below B w wr) (fun iv _=>N - (intOf iv).toNat)
 case atStart=>exact⟨0,rfl,by omega,hU1',ho1',hk1,hB1⟩
 case round=>
  clear hU1' ho1' hk1 hB1;obtain⟨p,rfl,hp,hUr,hor,hkr,hbr⟩:=hrel;by_cases hlt:p < N
  ·have c0:=hX.out wr hbr p hlt;obtain⟨x,hxx⟩:=exE (xs.getD p 0);rw[hxx] at c0;have hfp:=hfv.out p;rw[hxx] at hfp;have hSz:=hbr.size;have hHA:=qH (fun W (hb:Below wr.heap.size wr W)=>addC (hUr.out.keep hb) (Nat.le_trans (Nat.le_trans hBw hSz) hb.size) (hfs.out p hlt) (by have:=idN_le (f:=f) (vs:=vs) p;omega));simp only[hfp] at hHA;have hstep:idN f vs (p+1)=(putV (idN f vs p).1 (f p),(idN f vs p).2 ++ [(ixOf (putV (idN f vs p).1 (f p)) (f p):Int)]):=rfl;have hil:=idN_len (f:=f) (vs:=vs) p;obtain⟨V,hV⟩:=exE ((idN f vs p).1);obtain⟨I,hI⟩:=exE ((idN f vs p).2);rw[hV,hI] at hstep;rw[hI] at hil;simp only[hV] at hHA;obtain⟨V',hV'⟩:∃V',putV V (f p)=V':=⟨_,rfl⟩;rw[hV'] at hstep;simp only[hV'] at hHA;obtain⟨q,hq⟩:=exE (ixOf V' (f p));rw[hq] at hstep;simp only[hq] at hHA;have hfr:=fun W (h:OI W B (.slice (some ⟨g,0,none⟩) N N) N (I++List.replicate (N - p) 0))=>h.cell hlt
   have hset:(I++List.replicate (N - p) 0).set p (q:Int)=(I ++ [(q:Int)])++List.replicate (N - (p+1)) 0:=by
    rw[List.set_append_right _ _ (by omega),hil,Nat.sub_self,show N - p=(N - (p+1))+1 by omega,List.replicate_succ,List.set_cons_zero,List.append_assoc];rfl
   rw[hI] at hor;replace hstep:=qH hstep;replace hset:=qH hset;replace hfp:=qH hfp;replace hxx:=qH hxx;replace hV:=qH hV;replace hI:=qH hI;replace hV':=qH hV';replace hq:=qH hq;replace hil:=qH hil;have hpi:(p:Int) < (N:Int):=(by omega);clear hfr;go_wp2_with fail
   go_region_held3 (fun w'=>w'.cell? ⟨xb,xo+p,none⟩=some (.int .i64 x))
    (first
     | go_keep
     | (exact cell_kept hb8 c0)
     | (have h:=hX.out _ (Below.setCell (p:=⟨g,p,none⟩) (hbr.trans (hB8.trans hb9)) (World.ownsRow.lt hor.out g rfl).1 (.int .i64 (q:Int))) p hlt;rw[hxx.out] at h;exact h)
     | (have h:=hX.out _ (hbr.trans (hB8.trans hb9)) p hlt;rw[hxx.out] at h;exact h))
    (first
     | (go_at_call 136;refine(silenceC _).mono ?_;rintro e w8 ⟨rfl,hb8⟩;have hb8':Below wr.heap.size wr w8:=(by first|exact hb8|exact(below_drewN (Below.refl _ wr) 1).trans hb8);have hB8:Below B wr w8:=hb8'.mono (Nat.le_trans hBw hSz))
     | (go_at_call 135;refine(hHA.out _ (by first|exact hb8|exact(below_drewN (Below.refl _ wr) 1).trans hb8)).mono ?_;rintro e w9 ⟨rfl,hU9,hK9,hb9,_⟩;have ho9:=(hor.out.keep hb8').keepB (by omega) hK9 (hUr.out.keep hb8').box;have cN:=ho9.cell hlt;have fN:=ho9.free p))
   have hbe:Below B w (w9.setCell ⟨g,p,none⟩ (.int .i64 (q:Int))):=Below.setCell (p:=⟨g,p,none⟩) (hbr.trans (hB8.trans hb9)) (World.ownsRow.lt hor.out g rfl).1 _;have hOn:=(ho9.store p (q:Int)).1;rw[hset.out] at hOn;have hUn:=hU9.storeI ho9 (by omega) p (.int .i64 (q:Int));have hKn:KeepB bb w (w9.setCell ⟨g,p,none⟩ (.int .i64 (q:Int))):=((hkr.out.trans (KeepB.below hb8')).trans hK9).newCell (by rw[hg.out];exact Nat.le_refl _) (ho9.made (by omega)).2.2.choose_spec;have hUn':Hid (BuV (w9.setCell ⟨g,p,none⟩ (.int .i64 (q:Int))) B bb mb (N:Int) (idN f vs (p+1)).1):=(by show BuV _ _ _ _ _ _;rw[hstep.out];exact hUn);have hOn':Hid (OI (w9.setCell ⟨g,p,none⟩ (.int .i64 (q:Int))) B (.slice (some ⟨g,0,none⟩) N N) N ((idN f vs (p+1)).2++List.replicate (N - (p+1)) 0)):=(by show OI _ _ _ _ _;rw[hstep.out];exact hOn);replace hKn:=qH hKn;clear hOn hUn hU9 hK9 ho9 cN fN;go_wp2_with fail
   go_roundw
   case rel=>exact⟨p+1,by go_num,hlt,hUn',hOn',hKn,hbe⟩
   case measure=>simp[intOf];omega
  ·have hpN:p=N:=(by omega);have hOr:=hor.out;rw[hpN,Nat.sub_self,List.replicate_zero,List.append_nil] at hOr;have hUr':=hUr.out;rw[hpN] at hUr';have e0:plN N xs wd vs 0=((idN f vs N).1,[(idN f vs N).2]):=(by rw[hf.out];rfl);have hil:=idN_len (f:=f) (vs:=vs) N;obtain⟨W2,hW2⟩:=exF (wr.alloc (.cells #[.slice (some ⟨g,0,none⟩) N N] 48));have hb2:Below wr.heap.size wr W2:=(by rw[hW2];exact(Below.refl _ _).alloc (Nat.le_refl _) _);have hSz:=hbr.size;have hBr:B≤wr.heap.size:=Nat.le_trans hBw hSz;have hown:=World.ownsRow_lit (base:=w.heap.size) (e:=48) (size:=1) wr #[.slice (some ⟨g,0,none⟩) N N] 1 hSz (by unfold maxLen;omega) rfl;rw[←hW2] at hown
   have hOut:OwX 48 1 EVi W2 w.heap.size (.slice (some ⟨wr.heap.size,0,none⟩) 1 1) (0+1) (plN N xs wd vs 0).2:=by
    rw[e0];refine⟨_,hown,rfl,fun u hu=>by rw[List.mem_singleton.1 hu];rfl,fun j x hj=>?_⟩;match j,hj with
    | 0,hj=>
     simp only[List.getElem?_cons_zero,Option.some.injEq] at hj;subst hj;exact⟨_,rfl,by rw[hil];exact(hOr.keep hb2).base (Nat.zero_le _)⟩
    | j+1,hj=>simp at hj
   have hNow:OI W2 B (.slice (some ⟨g,0,none⟩) N N) N ((plN N xs wd vs 0).2.getD 0 []):=(by rw[e0];exact hOr.keep hb2);have hU2:BuV W2 B bb mb (N:Int) (plN N xs wd vs 0).1:=(by rw[e0];exact hUr'.keep hb2);have hK2:KeepB bb w W2:=hkr.out.trans (KeepB.below hb2);have hB2:Below B w W2:=hbr.trans (hb2.mono hBr);replace hOut:=qH hOut;replace hNow:=qH hNow;replace hU2:=qH hU2;replace hK2:=qH hK2;replace hpN:=qH hpN;clear hUr hor hkr hOr hUr' e0 hil hown hSz hBr hb2 hbr hfv hfs;go_wp2_with fail
   rw[←hW2];replace hW2:=qH hW2;go_loopw [7,9,44] (fun nv ov iv wr=>∃k gk:Nat,nv = .slice (some ⟨gk,0,none⟩) N N∧iv = .int .i64 k∧k≤wd.length∧Hid (OI wr B (.slice (some ⟨gk,0,none⟩) N N) N ((plN N xs wd vs k).2.getD k []))∧Hid (OwX 48 1 EVi wr w.heap.size ov (k+1) (plN N xs wd vs k).2)∧Hid (BuV wr B bb mb (N:Int) (plN N xs wd vs k).1)∧Hid (KeepB bb w wr)∧Below B w wr) (fun _ _ iv _=>wd.length - (intOf iv).toNat)
   case atStart=>exact⟨0,g,rfl,rfl,by omega,hNow,hOut,hU2,hK2,hB2⟩
   case round=>
    clear hOut hNow hU2 hK2 hB2;obtain⟨k,gk,rfl,rfl,hk,hNow,hOut,hUk,hKk,hbr⟩:=hrel;obtain⟨oa,oc,hos⟩:=hOut.out.shape;subst hos;by_cases hlk:k < wd.length
    ·obtain⟨wb,wo,hwa,hwc⟩:=(hW.out wr hbr).at7 (by omega);obtain⟨hr7,hrc⟩:=hwc k hlk;obtain⟨r,hr⟩:=exE (wd.getD k []);have hbits:=hwb.out k hlk;rw[hr] at hr7 hrc hbits;obtain⟨r0,r1,r2,r3,r4,r5,r6,rfl⟩:=seven hr7;obtain⟨c0,c1,c2,c3,c4,c5,c6⟩:=hrc.all7;obtain⟨bf,hbf⟩:=exE ((plN N xs wd vs k).2.getD k []);obtain⟨W3,hW3⟩:=exF (wr.alloc (.cells #[.int .i64 r0,.int .i64 r1,.int .i64 r2,.int .i64 r3,.int .i64 r4,.int .i64 r5,.int .i64 r6] 148));have hb3:Below wr.heap.size wr W3:=(by rw[hW3];exact(Below.refl _ _).alloc (Nat.le_refl _) _);have kR:W3.heap[wr.heap.size]? = some (.cells #[.int .i64 r0,.int .i64 r1,.int .i64 r2,.int .i64 r3,.int .i64 r4,.int .i64 r5,.int .i64 r6] 148):=(by rw[hW3];exact heap_alloc_new _ _);have hsW3:W3.heap.size=wr.heap.size+1:=(by rw[hW3];simp);rw[hbf] at hNow;have hBr:B≤wr.heap.size:=Nat.le_trans hBw hbr.size;have hU3:=hUk.out.keep hb3;have n3:=hU3.num;have hNow3:=qH (hNow.out.keep hb3);have hOut3:=qH (hOut.out.keep (EVi.stab (by decide)) hb3);have hK3:=qH (hKk.out.trans (KeepB.below hb3));have hB3:Below B w W3:=hbr.trans (hb3.mono hBr);have hB3s:B≤W3.heap.size:=Nat.le_trans hBr hb3.size;replace hU3:=qH hU3;replace hbits:=qH hbits;replace kR:=qH kR;replace hr:=qH hr;replace hbf:=qH hbf;replace hsW3:=qH hsW3;rw[hW3] at n3;clear hwc hr7 hrc hNow hOut hUk hKk;subst hwa;go_wp2_with (at_make;rw[←hW3];refine wpMakeI rfl _ _ rfl N rfl rfl (by omega) hB3s ?_;intro w4 ho4 hgr4 hb4)
     have ho4':OI w4 B (.slice (some ⟨wr.heap.size+1,0,none⟩) N N) N (List.replicate N 0):=(by rw[←hsW3.out];exact ho4);have hbl:bf.length=N:=hNow3.out.length;obtain⟨wz,hwz⟩:=exF (wr);subst hwz
     have hbB:Hid (∀i∈bf,0≤i∧i≤100000):=by
      show ∀i∈bf,_;intro i hi;have h1:=plN_bd N xs wd vs k i (by rw[hbf.out];exact hi);have h2:=plN_le N xs wd vs k;have h3:N * (k+1)≤5 * 7:=Nat.mul_le_mul hN5 (by omega);omega
     obtain⟨f2,hf2⟩:∃f2:Nat→List Int,f2=fun(p:Nat)=>seeV [r0,r1,r2,r3,r4,r5,r6] (k+1) p bf:=⟨_,rfl⟩;obtain⟨Vk,hVk⟩:=exE ((plN N xs wd vs k).1);rw[hVk] at hU3
     have hVl:Vk.length≤5040:=by
      have h1:=plN_le N xs wd vs k;rw[hVk] at h1;have h2:N * (k+1)≤5 * 7:=Nat.mul_le_mul hN5 (by omega);omega
     have hU4:Hid (BuV w4 B bb mb (N:Int) (idN f2 Vk 0).1):=hU3.out.keep hb4;have ho4h:Hid (OI w4 B (.slice (some ⟨wz.heap.size+1,0,none⟩) N N) N ((idN f2 Vk 0).2++List.replicate (N - 0) 0)):=ho4';have hK4:Hid (KeepB bb W3 w4):=KeepB.below hb4;have hB4:Below B W3 w4:=hb4.mono hB3s;replace hf2:=qH hf2;replace hVk:=qH hVk;replace hW3:=qH hW3;clear ho4 ho4' hgr4 hb4 n3 c0 c1 c2 c3 c4 c5 c6;go_wp2_with fail
     go_loopw [56] (fun pv wr=>∃p:Nat,pv = .int .i64 p∧p≤N∧Hid (BuV wr B bb mb (N:Int) (idN f2 Vk p).1)∧Hid (OI wr B (.slice (some ⟨wz.heap.size+1,0,none⟩) N N) N ((idN f2 Vk p).2++List.replicate (N - p) 0))∧Hid (KeepB bb W3 wr)∧Below B W3 wr) (fun pv _=>N - (intOf pv).toNat)
     case atStart=>exact⟨0,rfl,by omega,hU4,ho4h,hK4,hB4⟩
     case round=>
      clear hU4 ho4h hK4 hB4;obtain⟨p,rfl,hp3,hUr,hor,hkr,hbr3⟩:=hrel;have hS3:=hbr3.size;by_cases hlp:p < N
      ·have hbit:=hbits.out p (by omega);obtain⟨hs,hhs⟩:=exE ([r0,r1,r2,r3,r4,r5,r6].getD (1+p) 0);rw[hhs] at hbit;obtain⟨hs0,hs1⟩:=hbit;have hki:IntKind.i64.wrap ((k:Int)+1)=(k:Int)+1:=IntWalk.i64_in _ (by omega);go_wp2_with fail
       refine(silenceC _).mono ?_;rintro e w8 ⟨rfl,hb8⟩;obtain⟨wy,hwy⟩:=exF (wr);subst hwy;have hU8:=hUr.out.keep hb8;have hlt8:=hU8.lt;have hK8:KeepB bb W3 w8:=hkr.out.trans (KeepB.below hb8);have hB8:Below B W3 w8:=hbr3.trans (hb8.mono (Nat.le_trans hB3s hS3));have hor8:=hor.out.keep hb8;have hNow8:=hNow3.out.keepB2 hK8 hU3.out.box
       have kR8:=(hK8 wz.heap.size _ _ kR.out (by decide) (fun e=>by
        obtain⟨cs,hc⟩:=hU3.out.box;have h1:=kR.out;rw[e,hc] at h1;injection h1 with h1;injection h1 with _ h1;exact absurd h1 (by decide))).trans kR.out
       obtain⟨W5,hW5⟩:=exF (w8.alloc (.cells #[.int .i64 (p:Int),.int .i64 ((k:Int)+1),.int .i64 0,.int .i64 (seeQ hs bf 0 0),.int .i64 (seeQ hs bf 0 1),.int .i64 (seeQ hs bf 0 2),.int .i64 (seeQ hs bf 0 3),.int .i64 (seeQ hs bf 0 4)] 114));have hb5:Below w8.heap.size w8 W5:=(by rw[hW5];exact(Below.refl _ _).alloc (Nat.le_refl _) _);have kV:W5.heap[w8.heap.size]? = some (.cells #[.int .i64 (p:Int),.int .i64 ((k:Int)+1),.int .i64 0,.int .i64 (seeQ hs bf 0 0),.int .i64 (seeQ hs bf 0 1),.int .i64 (seeQ hs bf 0 2),.int .i64 (seeQ hs bf 0 3),.int .i64 (seeQ hs bf 0 4)] 114):=(by rw[hW5];exact heap_alloc_new _ _);have hNowh:=qH (fun W (hb:Below w8.heap.size w8 W) j (hj:j < N)=>(hNow8.keep hb).cell hj)
       have hRc:=qH (fun W (hb:Below w8.heap.size w8 W)=>show W.cell? ⟨wz.heap.size,1+p,none⟩=some (.int .i64 hs) by
        rw[cell_of_row _ _ (1+p) _ _ _ (keptO hb kR8),←hhs];rcases(show p=0∨p=1∨p=2∨p=3∨p=4 by omega) with rfl|rfl|rfl|rfl|rfl<;>rfl)
       replace hU8:=qH hU8;replace hK8:=qH hK8;replace hor8:=qH hor8;replace hhs:=qH hhs;clear hUr hor hkr hNow8 kR8 hb8;have hW5':=qH hW5;go_wp2_with fail
       first
        | rw[←hW5]
        | rw[show w8.alloc (.cells #[.int .i64 (p:Int),.int .i64 ((k:Int)+1),.int .i64 0,.int .i64 (-1),.int .i64 (-1),.int .i64 (-1),.int .i64 (-1),.int .i64 (-1)] 114)=W5 from hW5.symm]
       clear hW5;go_loopw [66] (fun qv wr=>∃q:Nat,qv = .int .i64 q∧q≤N∧wr.heap[w8.heap.size]? = some (.cells #[.int .i64 (p:Int),.int .i64 ((k:Int)+1),.int .i64 0,.int .i64 (seeQ hs bf q 0),.int .i64 (seeQ hs bf q 1),.int .i64 (seeQ hs bf q 2),.int .i64 (seeQ hs bf q 3),.int .i64 (seeQ hs bf q 4)] 114)∧Below w8.heap.size w8 wr) (fun qv _=>N - (intOf qv).toNat)
       case atStart=>exact⟨0,rfl,by omega,kV,hb5⟩
       case round=>
        clear kV hb5;obtain⟨q,rfl,hqN,kQ,hbq⟩:=hrel;by_cases hlq:q < N
        ·have cn:=hNowh.out wr hbq q hlq;have cr:=hRc.out wr hbq;have hpi:(p:Int) < 5:=(by omega);rcases(show q=0∨q=1∨q=2∨q=3∨q=4 by omega) with rfl|rfl|rfl|rfl|rfl
         ·have ha:=and1 (x:=hs) (p:=0) hs0 hs1 (by decide) (by decide);rw[show twoI 0=1 from rfl,Int.ediv_one] at ha;by_cases hbt:hasI hs ((0:Nat):Int)=true
          ·have ha1:bits .and .i64 hs 1=1:=(by rw[ha];exact if_pos hbt);obtain⟨y0,y1,y2,y3,y4,y5,y6,y7⟩:=box8' kQ;have fz:=row_free kQ;have kN:=heap_setCell_same wr w8.heap.size 3 _ _ (.int .i64 (bf.getD 0 0)) kQ;replace kN:(wr.setCell ⟨w8.heap.size,3,none⟩ (.int .i64 (bf.getD 0 0))).heap[w8.heap.size]? = some (.cells #[.int .i64 (p:Int),.int .i64 ((k:Int)+1),.int .i64 0,.int .i64 (seeQ hs bf (0+1) 0),.int .i64 (seeQ hs bf (0+1) 1),.int .i64 (seeQ hs bf (0+1) 2),.int .i64 (seeQ hs bf (0+1) 3),.int .i64 (seeQ hs bf (0+1) 4)] 114):=(by rw[seeQ_hit (hs:=hs) (bf:=bf) (q:=0) hbt,seeQ_ne (hs:=hs) (bf:=bf) (q:=0) (j:=1) (by decide),seeQ_ne (hs:=hs) (bf:=bf) (q:=0) (j:=2) (by decide),seeQ_ne (hs:=hs) (bf:=bf) (q:=0) (j:=3) (by decide),seeQ_ne (hs:=hs) (bf:=bf) (q:=0) (j:=4) (by decide)];exact kN);have hbn:=Below.setCell (p:=⟨w8.heap.size,3,none⟩) hbq (Nat.le_refl _) (.int .i64 (bf.getD 0 0));replace kN:=qH kN;obtain⟨i,hi⟩:=exE (bf.getD 0 0);rw[hi] at cn kN hbn;clear ha hbt kQ hbq hi;go_wp2_with fail
           go_roundw
           case rel=>exact⟨1,by go_num,by omega,kN.out,hbn⟩
           case measure=>simp[intOf];omega
          ·have hbf0:=eq_false_of_ne_true hbt;have ha0:bits .and .i64 hs 1=0:=(by rw[ha];exact if_neg hbt);have kN:wr.heap[w8.heap.size]? = some (.cells #[.int .i64 (p:Int),.int .i64 ((k:Int)+1),.int .i64 0,.int .i64 (seeQ hs bf (0+1) 0),.int .i64 (seeQ hs bf (0+1) 1),.int .i64 (seeQ hs bf (0+1) 2),.int .i64 (seeQ hs bf (0+1) 3),.int .i64 (seeQ hs bf (0+1) 4)] 114):=(by rw[seeQ_miss (hs:=hs) (bf:=bf) (q:=0) hbf0,seeQ_ne (hs:=hs) (bf:=bf) (q:=0) (j:=1) (by decide),seeQ_ne (hs:=hs) (bf:=bf) (q:=0) (j:=2) (by decide),seeQ_ne (hs:=hs) (bf:=bf) (q:=0) (j:=3) (by decide),seeQ_ne (hs:=hs) (bf:=bf) (q:=0) (j:=4) (by decide)];exact kQ);replace kN:=qH kN;clear ha hbt hbf0 kQ;go_wp2_with fail
           go_roundw
           case rel=>exact⟨1,by go_num,by omega,kN.out,hbq⟩
           case measure=>simp[intOf];omega
         ·have ha:=and1 (x:=hs) (p:=1) hs0 hs1 (by decide) (by decide);rw[show twoI 1=2 from rfl] at ha;by_cases hbt:hasI hs ((1:Nat):Int)=true
          ·have ha1:bits .and .i64 (hs / 2) 1=1:=(by rw[ha];exact if_pos hbt);obtain⟨y0,y1,y2,y3,y4,y5,y6,y7⟩:=box8' kQ;have fz:=row_free kQ;have kN:=heap_setCell_same wr w8.heap.size 4 _ _ (.int .i64 (bf.getD 1 0)) kQ;replace kN:(wr.setCell ⟨w8.heap.size,4,none⟩ (.int .i64 (bf.getD 1 0))).heap[w8.heap.size]? = some (.cells #[.int .i64 (p:Int),.int .i64 ((k:Int)+1),.int .i64 0,.int .i64 (seeQ hs bf (1+1) 0),.int .i64 (seeQ hs bf (1+1) 1),.int .i64 (seeQ hs bf (1+1) 2),.int .i64 (seeQ hs bf (1+1) 3),.int .i64 (seeQ hs bf (1+1) 4)] 114):=(by rw[seeQ_ne (hs:=hs) (bf:=bf) (q:=1) (j:=0) (by decide),seeQ_hit (hs:=hs) (bf:=bf) (q:=1) hbt,seeQ_ne (hs:=hs) (bf:=bf) (q:=1) (j:=2) (by decide),seeQ_ne (hs:=hs) (bf:=bf) (q:=1) (j:=3) (by decide),seeQ_ne (hs:=hs) (bf:=bf) (q:=1) (j:=4) (by decide)];exact kN);have hbn:=Below.setCell (p:=⟨w8.heap.size,4,none⟩) hbq (Nat.le_refl _) (.int .i64 (bf.getD 1 0));replace kN:=qH kN;obtain⟨i,hi⟩:=exE (bf.getD 1 0);rw[hi] at cn kN hbn;clear ha hbt kQ hbq hi;go_wp2_with fail
           go_roundw
           case rel=>exact⟨2,by go_num,by omega,kN.out,hbn⟩
           case measure=>simp[intOf];omega
          ·have hbf0:=eq_false_of_ne_true hbt;have ha0:bits .and .i64 (hs / 2) 1=0:=(by rw[ha];exact if_neg hbt);have kN:wr.heap[w8.heap.size]? = some (.cells #[.int .i64 (p:Int),.int .i64 ((k:Int)+1),.int .i64 0,.int .i64 (seeQ hs bf (1+1) 0),.int .i64 (seeQ hs bf (1+1) 1),.int .i64 (seeQ hs bf (1+1) 2),.int .i64 (seeQ hs bf (1+1) 3),.int .i64 (seeQ hs bf (1+1) 4)] 114):=(by rw[seeQ_ne (hs:=hs) (bf:=bf) (q:=1) (j:=0) (by decide),seeQ_miss (hs:=hs) (bf:=bf) (q:=1) hbf0,seeQ_ne (hs:=hs) (bf:=bf) (q:=1) (j:=2) (by decide),seeQ_ne (hs:=hs) (bf:=bf) (q:=1) (j:=3) (by decide),seeQ_ne (hs:=hs) (bf:=bf) (q:=1) (j:=4) (by decide)];exact kQ);replace kN:=qH kN;clear ha hbt hbf0 kQ;go_wp2_with fail
           go_roundw
           case rel=>exact⟨2,by go_num,by omega,kN.out,hbq⟩
           case measure=>simp[intOf];omega
         ·have ha:=and1 (x:=hs) (p:=2) hs0 hs1 (by decide) (by decide);rw[show twoI 2=4 from rfl] at ha;by_cases hbt:hasI hs ((2:Nat):Int)=true
          ·have ha1:bits .and .i64 (hs / 4) 1=1:=(by rw[ha];exact if_pos hbt);obtain⟨y0,y1,y2,y3,y4,y5,y6,y7⟩:=box8' kQ;have fz:=row_free kQ;have kN:=heap_setCell_same wr w8.heap.size 5 _ _ (.int .i64 (bf.getD 2 0)) kQ;replace kN:(wr.setCell ⟨w8.heap.size,5,none⟩ (.int .i64 (bf.getD 2 0))).heap[w8.heap.size]? = some (.cells #[.int .i64 (p:Int),.int .i64 ((k:Int)+1),.int .i64 0,.int .i64 (seeQ hs bf (2+1) 0),.int .i64 (seeQ hs bf (2+1) 1),.int .i64 (seeQ hs bf (2+1) 2),.int .i64 (seeQ hs bf (2+1) 3),.int .i64 (seeQ hs bf (2+1) 4)] 114):=(by rw[seeQ_ne (hs:=hs) (bf:=bf) (q:=2) (j:=0) (by decide),seeQ_ne (hs:=hs) (bf:=bf) (q:=2) (j:=1) (by decide),seeQ_hit (hs:=hs) (bf:=bf) (q:=2) hbt,seeQ_ne (hs:=hs) (bf:=bf) (q:=2) (j:=3) (by decide),seeQ_ne (hs:=hs) (bf:=bf) (q:=2) (j:=4) (by decide)];exact kN);have hbn:=Below.setCell (p:=⟨w8.heap.size,5,none⟩) hbq (Nat.le_refl _) (.int .i64 (bf.getD 2 0));replace kN:=qH kN;obtain⟨i,hi⟩:=exE (bf.getD 2 0);rw[hi] at cn kN hbn;clear ha hbt kQ hbq hi;go_wp2_with fail
           go_roundw
           case rel=>exact⟨3,by go_num,by omega,kN.out,hbn⟩
           case measure=>simp[intOf];omega
          ·have hbf0:=eq_false_of_ne_true hbt;have ha0:bits .and .i64 (hs / 4) 1=0:=(by rw[ha];exact if_neg hbt);have kN:wr.heap[w8.heap.size]? = some (.cells #[.int .i64 (p:Int),.int .i64 ((k:Int)+1),.int .i64 0,.int .i64 (seeQ hs bf (2+1) 0),.int .i64 (seeQ hs bf (2+1) 1),.int .i64 (seeQ hs bf (2+1) 2),.int .i64 (seeQ hs bf (2+1) 3),.int .i64 (seeQ hs bf (2+1) 4)] 114):=(by rw[seeQ_ne (hs:=hs) (bf:=bf) (q:=2) (j:=0) (by decide),seeQ_ne (hs:=hs) (bf:=bf) (q:=2) (j:=1) (by decide),seeQ_miss (hs:=hs) (bf:=bf) (q:=2) hbf0,seeQ_ne (hs:=hs) (bf:=bf) (q:=2) (j:=3) (by decide),seeQ_ne (hs:=hs) (bf:=bf) (q:=2) (j:=4) (by decide)];exact kQ);replace kN:=qH kN;clear ha hbt hbf0 kQ;go_wp2_with fail
           go_roundw
           case rel=>exact⟨3,by go_num,by omega,kN.out,hbq⟩
           case measure=>simp[intOf];omega
         ·have ha:=and1 (x:=hs) (p:=3) hs0 hs1 (by decide) (by decide);rw[show twoI 3=8 from rfl] at ha;by_cases hbt:hasI hs ((3:Nat):Int)=true
          ·have ha1:bits .and .i64 (hs / 8) 1=1:=(by rw[ha];exact if_pos hbt);obtain⟨y0,y1,y2,y3,y4,y5,y6,y7⟩:=box8' kQ;have fz:=row_free kQ;have kN:=heap_setCell_same wr w8.heap.size 6 _ _ (.int .i64 (bf.getD 3 0)) kQ;replace kN:(wr.setCell ⟨w8.heap.size,6,none⟩ (.int .i64 (bf.getD 3 0))).heap[w8.heap.size]? = some (.cells #[.int .i64 (p:Int),.int .i64 ((k:Int)+1),.int .i64 0,.int .i64 (seeQ hs bf (3+1) 0),.int .i64 (seeQ hs bf (3+1) 1),.int .i64 (seeQ hs bf (3+1) 2),.int .i64 (seeQ hs bf (3+1) 3),.int .i64 (seeQ hs bf (3+1) 4)] 114):=(by rw[seeQ_ne (hs:=hs) (bf:=bf) (q:=3) (j:=0) (by decide),seeQ_ne (hs:=hs) (bf:=bf) (q:=3) (j:=1) (by decide),seeQ_ne (hs:=hs) (bf:=bf) (q:=3) (j:=2) (by decide),seeQ_hit (hs:=hs) (bf:=bf) (q:=3) hbt,seeQ_ne (hs:=hs) (bf:=bf) (q:=3) (j:=4) (by decide)];exact kN);have hbn:=Below.setCell (p:=⟨w8.heap.size,6,none⟩) hbq (Nat.le_refl _) (.int .i64 (bf.getD 3 0));replace kN:=qH kN;obtain⟨i,hi⟩:=exE (bf.getD 3 0);rw[hi] at cn kN hbn;clear ha hbt kQ hbq hi;go_wp2_with fail
           go_roundw
           case rel=>exact⟨4,by go_num,by omega,kN.out,hbn⟩
           case measure=>simp[intOf];omega
          ·have hbf0:=eq_false_of_ne_true hbt;have ha0:bits .and .i64 (hs / 8) 1=0:=(by rw[ha];exact if_neg hbt);have kN:wr.heap[w8.heap.size]? = some (.cells #[.int .i64 (p:Int),.int .i64 ((k:Int)+1),.int .i64 0,.int .i64 (seeQ hs bf (3+1) 0),.int .i64 (seeQ hs bf (3+1) 1),.int .i64 (seeQ hs bf (3+1) 2),.int .i64 (seeQ hs bf (3+1) 3),.int .i64 (seeQ hs bf (3+1) 4)] 114):=(by rw[seeQ_ne (hs:=hs) (bf:=bf) (q:=3) (j:=0) (by decide),seeQ_ne (hs:=hs) (bf:=bf) (q:=3) (j:=1) (by decide),seeQ_ne (hs:=hs) (bf:=bf) (q:=3) (j:=2) (by decide),seeQ_miss (hs:=hs) (bf:=bf) (q:=3) hbf0,seeQ_ne (hs:=hs) (bf:=bf) (q:=3) (j:=4) (by decide)];exact kQ);replace kN:=qH kN;clear ha hbt hbf0 kQ;go_wp2_with fail
           go_roundw
           case rel=>exact⟨4,by go_num,by omega,kN.out,hbq⟩
           case measure=>simp[intOf];omega
         ·have ha:=and1 (x:=hs) (p:=4) hs0 hs1 (by decide) (by decide);rw[show twoI 4=16 from rfl] at ha;by_cases hbt:hasI hs ((4:Nat):Int)=true
          ·have ha1:bits .and .i64 (hs / 16) 1=1:=(by rw[ha];exact if_pos hbt);obtain⟨y0,y1,y2,y3,y4,y5,y6,y7⟩:=box8' kQ;have fz:=row_free kQ;have kN:=heap_setCell_same wr w8.heap.size 7 _ _ (.int .i64 (bf.getD 4 0)) kQ;replace kN:(wr.setCell ⟨w8.heap.size,7,none⟩ (.int .i64 (bf.getD 4 0))).heap[w8.heap.size]? = some (.cells #[.int .i64 (p:Int),.int .i64 ((k:Int)+1),.int .i64 0,.int .i64 (seeQ hs bf (4+1) 0),.int .i64 (seeQ hs bf (4+1) 1),.int .i64 (seeQ hs bf (4+1) 2),.int .i64 (seeQ hs bf (4+1) 3),.int .i64 (seeQ hs bf (4+1) 4)] 114):=(by rw[seeQ_ne (hs:=hs) (bf:=bf) (q:=4) (j:=0) (by decide),seeQ_ne (hs:=hs) (bf:=bf) (q:=4) (j:=1) (by decide),seeQ_ne (hs:=hs) (bf:=bf) (q:=4) (j:=2) (by decide),seeQ_ne (hs:=hs) (bf:=bf) (q:=4) (j:=3) (by decide),seeQ_hit (hs:=hs) (bf:=bf) (q:=4) hbt];exact kN);have hbn:=Below.setCell (p:=⟨w8.heap.size,7,none⟩) hbq (Nat.le_refl _) (.int .i64 (bf.getD 4 0));replace kN:=qH kN;obtain⟨i,hi⟩:=exE (bf.getD 4 0);rw[hi] at cn kN hbn;clear ha hbt kQ hbq hi;go_wp2_with fail
           go_roundw
           case rel=>exact⟨5,by go_num,by omega,kN.out,hbn⟩
           case measure=>simp[intOf];omega
          ·have hbf0:=eq_false_of_ne_true hbt;have ha0:bits .and .i64 (hs / 16) 1=0:=(by rw[ha];exact if_neg hbt);have kN:wr.heap[w8.heap.size]? = some (.cells #[.int .i64 (p:Int),.int .i64 ((k:Int)+1),.int .i64 0,.int .i64 (seeQ hs bf (4+1) 0),.int .i64 (seeQ hs bf (4+1) 1),.int .i64 (seeQ hs bf (4+1) 2),.int .i64 (seeQ hs bf (4+1) 3),.int .i64 (seeQ hs bf (4+1) 4)] 114):=(by rw[seeQ_ne (hs:=hs) (bf:=bf) (q:=4) (j:=0) (by decide),seeQ_ne (hs:=hs) (bf:=bf) (q:=4) (j:=1) (by decide),seeQ_ne (hs:=hs) (bf:=bf) (q:=4) (j:=2) (by decide),seeQ_ne (hs:=hs) (bf:=bf) (q:=4) (j:=3) (by decide),seeQ_miss (hs:=hs) (bf:=bf) (q:=4) hbf0];exact kQ);replace kN:=qH kN;clear ha hbt hbf0 kQ;go_wp2_with fail
           go_roundw
           case rel=>exact⟨5,by go_num,by omega,kN.out,hbq⟩
           case measure=>simp[intOf];omega
        ·have hqe:N=q:=(by omega);subst hqe
         have hfq:f2 p = [(p:Int),(k:Int)+1,0,seeQ hs bf N 0,seeQ hs bf N 1,seeQ hs bf N 2,seeQ hs bf N 3,seeQ hs bf N 4]:=by
          rw[hf2.out];show[(p:Int),((k+1:Nat):Int),0]++herL ([r0,r1,r2,r3,r4,r5,r6].getD (1+p) 0) bf=_
          rw[hhs.out,herL_seeQ hbl.symm];rfl
         have hSmf:SmV (f2 p):=by
          have hb2:=fun j=>seeQ_bd (hs:=hs) (bf:=bf) (q:=N) (j:=j) (hbB.out);have e0:=hb2 0;have e1:=hb2 1;have e2:=hb2 2;have e3:=hb2 3;have e4:=hb2 4;rw[hfq];refine⟨rfl,fun y hy=>?_⟩;simp only[List.mem_cons,List.not_mem_nil,or_false] at hy;rcases hy with rfl|rfl|rfl|rfl|rfl|rfl|rfl|rfl<;>omega
         have hvf:vwV (f2 p) = .agg #[.int .i64 (p:Int),.int .i64 ((k:Int)+1),.int .i64 0,.int .i64 (seeQ hs bf N 0),.int .i64 (seeQ hs bf N 1),.int .i64 (seeQ hs bf N 2),.int .i64 (seeQ hs bf N 3),.int .i64 (seeQ hs bf N 4)]:=(by rw[hfq];rfl);have hUw:=hU8.out.keep hbq;have hbx:=hUw.box;have hltq:w8.heap.size < wr.heap.size:=(Array.getElem?_eq_some_iff.1 kQ).1
         have hrow:∀v,wr.heap[bb]? = some (.cells #[.int .i64 (N:Int),v,.map (some mb)] 140)→v.ownBlock ≠ some w8.heap.size:=fun v hv=>by
          obtain⟨v8,k8,o8,_⟩:=hU8.out;rw[hbq.block bb hlt8.1,k8] at hv;injection hv with hv;injection hv with hv _
          have hv:v8=v:=by
           have:=congrArg (fun a:Array Value=>a.toList) hv
           simp only[List.cons.injEq,and_true,true_and] at this;first|exact this|exact this.1
          rw[←hv];exact ownNot o8 (Nat.le_refl _)
         have hw8s:w.heap.size≤wr.heap.size:=(by have:=hB3.size;have:=hB8.size;have:=hbq.size;omega);have hBs:B≤wr.heap.size:=Nat.le_trans hBw hw8s;have hHA:=qH (fun W (hb:Below wr.heap.size wr W)=>addC (hUw.keep hb) (Nat.le_trans hBs hb.size) hSmf (by have:=idN_le (f:=f2) (vs:=Vk) p;omega));simp only[hvf] at hHA;have horw:=hor8.out.keep hbq;have hstep:idN f2 Vk (p+1)=(putV (idN f2 Vk p).1 (f2 p),(idN f2 Vk p).2 ++ [(ixOf (putV (idN f2 Vk p).1 (f2 p)) (f2 p):Int)]):=rfl;have hil:=idN_len (f:=f2) (vs:=Vk) p;obtain⟨V1,hV1⟩:=exE ((idN f2 Vk p).1);obtain⟨I1,hI1⟩:=exE ((idN f2 Vk p).2);rw[hV1,hI1] at hstep;rw[hI1] at hil;simp only[hV1] at hHA;obtain⟨V2,hV2⟩:=exE (putV V1 (f2 p));rw[hV2] at hstep;simp only[hV2] at hHA;obtain⟨z,hz⟩:=exE (ixOf V2 (f2 p));rw[hz] at hstep;simp only[hz] at hHA
         have hset:(I1++List.replicate (N - p) 0).set p (z:Int)=(I1 ++ [(z:Int)])++List.replicate (N - (p+1)) 0:=by
          rw[List.set_append_right _ _ (by omega),hil,Nat.sub_self,show N - p=(N - (p+1))+1 by omega,List.replicate_succ,List.set_cons_zero,List.append_assoc];rfl
         rw[hI1] at horw;have hne2:w8.heap.size ≠ wz.heap.size+1:=(by have:=(World.ownsRow.lt hor8.out (wz.heap.size+1) rfl).2;omega);have p0:=box8' kQ;obtain⟨y0,y1,y2,y3,y4,y5,y6,y7⟩:=p0;replace hstep:=qH hstep;replace hset:=qH hset;replace hV1:=qH hV1;replace hI1:=qH hI1;replace hV2:=qH hV2;replace hz:=qH hz;replace hil:=qH hil;replace hfq:=qH hfq;replace hvf:=qH hvf;have hkQ:=qH kQ;have hrowh:=qH hrow;replace horw:=qH horw;have hpi:(p:Int) < (N:Int):=(by omega);clear kQ hrow;go_wp2_with fail
         refine(hHA.out _ (Below.refl _ _)).mono ?_;rintro e w9 ⟨rfl,hU9,hK9,hb9,hF9⟩;have ho9:=horw.out.keepB (by omega) hK9 hbx;have cN:=ho9.cell hlp;have fN:=ho9.free p;go_wp2_with fail
         have hB9:Below B W3 w9:=(hB8.trans (hbq.mono (by have:=hB8.size;have:=hB3s;omega))).trans hb9;have hbe:Below B W3 (w9.setCell ⟨wz.heap.size+1,p,none⟩ (.int .i64 (z:Int))):=Below.setCell (p:=⟨wz.heap.size+1,p,none⟩) hB9 (by show B≤wz.heap.size+1;omega) _;have hOn:=(ho9.store p (z:Int)).1;rw[hset.out] at hOn;have hUn:=hU9.storeI ho9 (by omega) p (.int .i64 (z:Int));have hKn:KeepB bb W3 (w9.setCell ⟨wz.heap.size+1,p,none⟩ (.int .i64 (z:Int))):=((hK8.out.trans (KeepB.below hbq)).trans hK9).newCell (by rw[hsW3.out];exact Nat.le_refl _) (ho9.made (by omega)).2.2.choose_spec;have hUn':Hid (BuV (w9.setCell ⟨wz.heap.size+1,p,none⟩ (.int .i64 (z:Int))) B bb mb (N:Int) (idN f2 Vk (p+1)).1):=(by show BuV _ _ _ _ _ _;rw[hstep.out];exact hUn);have hOn':Hid (OI (w9.setCell ⟨wz.heap.size+1,p,none⟩ (.int .i64 (z:Int))) B (.slice (some ⟨wz.heap.size+1,0,none⟩) N N) N ((idN f2 Vk (p+1)).2++List.replicate (N - (p+1)) 0)):=(by show OI _ _ _ _ _;rw[hstep.out];exact hOn);replace hKn:=qH hKn;clear hOn hUn hU9 hK9 ho9 cN fN hF9;go_roundw
         case rel=>exact⟨p+1,by go_num,hlp,hUn',hOn',hKn,hbe⟩
         case measure=>simp[intOf];omega
      ·have hpN3:p=N:=(by omega);have hOr:=hor.out;rw[hpN3,Nat.sub_self,List.replicate_zero,List.append_nil] at hOr;have hUr':=hUr.out;rw[hpN3] at hUr'
       have e1:plN N xs wd vs (k+1)=((idN f2 Vk N).1,(plN N xs wd vs k).2 ++ [(idN f2 Vk N).2]):=by
        rw[hf2.out,←hVk.out,←hr.out,←hbf.out];rfl
       have hil:=idN_len (f:=f2) (vs:=Vk) N;have hout:=hOut3.out.keepBV hkr.out hU3.out.box;have hK5:KeepB bb w wr:=hK3.out.trans hkr.out;have hB5:Below B w wr:=hB3.trans hbr3;have hpl:=plN_len N xs wd vs k;have hEl:EVi wr [.slice (some ⟨wz.heap.size+1,0,none⟩) N N] (idN f2 Vk N).2:=⟨_,rfl,by rw[hil];exact hOr.base (Nat.zero_le _)⟩;have hc9:∀u∈(#[.slice (some ⟨wz.heap.size+1,0,none⟩) N N]:Array Value).toList,u.oneCell'=true:=fun u hu=>by rw[List.mem_singleton.1 hu];rfl
       have hi9:k+1≤1000000000000:=(by omega);have hsz:w.heap.size≤wr.heap.size:=hB5.size
       have hmne:∀g',(Value.slice oa (k+1) oc).ownBlock=some g'→g' ≠ mb:=fun g' hg' e=>by
        obtain⟨ws,h1,_⟩:=hout;obtain⟨cs,hc⟩:=ownsRow_ty h1 g' hg';obtain⟨_,_,_,⟨es,c,hm,_⟩,_⟩:=hUr';rw[e] at hc;rw[hc] at hm;cases hm
       have hUh:=qH hUr';have hOh:=qH hOr;have hnN:(idN f2 Vk N).2.length=N:=hil;replace hEl:=qH hEl;replace hc9:=qH hc9;replace hK5:=qH hK5;replace e1:=qH e1;replace hpl:=qH hpl;replace hpN3:=qH hpN3;obtain⟨row,hrow⟩:=exE ((idN f2 Vk N).2);rw[hrow] at hEl hOh hnN e1;replace hrow:=qH hrow;clear hUr hor hkr hOr hUr' hil;go_wp2_with (at_builtin;refine wpAppX (x:=row) elemVv (by decide) (by decide) (EVi.stab (by decide)) rfl _ _ rfl rfl hout rfl rfl rfl hc9.out hEl.out hi9 hsz ?_)
       intro v9 w9 hO9 hg9 hb9 hx9
       have hU9:BuV w9 B bb mb (N:Int) (idN f2 Vk N).1:=by
        obtain⟨vv,h1,h2,h3,h4,h5,h6,h7⟩:=hUh.out;exact⟨vv,(hx9 bb _ _ h1 (by decide)).trans h1,h2.other (E':=48) (EI.stab _) (by decide) hx9,h3.keep (hg9.block mb h3.lt fun e=>hmne mb e.symm rfl),h4,h5,h6,h7⟩
       have hN9:=hOh.out.other (E:=48) (by decide) hx9;have hK9:KeepB bb w w9:=hK5.out.behind hb9;have hB9:Below B w w9:=hB5.trans (hb9.mono hBw);have hU9':Hid (BuV w9 B bb mb (N:Int) (plN N xs wd vs (k+1)).1):=(by show BuV _ _ _ _ _ _;rw[e1.out];exact hU9);have hO9':Hid (OwX 48 1 EVi w9 w.heap.size v9 (k+1+1) (plN N xs wd vs (k+1)).2):=by show OwX _ _ _ _ _ _ _ _;rw[e1.out];exact hO9
       have hN9':Hid (OI w9 B (.slice (some ⟨wz.heap.size+1,0,none⟩) N N) N ((plN N xs wd vs (k+1)).2.getD (k+1) [])):=by
        show OI _ _ _ _ _;rw[e1.out];show OI _ _ _ _ (((plN N xs wd vs k).2 ++ [row]).getD (k+1) []);rw[List.getD_eq_getElem?_getD,List.getElem?_append_right (by rw[hpl.out];exact Nat.le_refl _),hpl.out,Nat.sub_self];exact hN9
       replace hK9:=qH hK9;clear hO9 hU9 hN9 hg9 hb9 hx9 hout;go_wp2_with fail
       go_roundw
       case rel=>exact⟨k+1,wz.heap.size+1,rfl,by go_num,hlk,hN9',hO9',hU9',hK9,hB9⟩
       case measure=>simp[intOf];omega
    ·obtain rfl:k=wd.length:=(by omega);clear hNow;go_wp2_with fail
     go_ret;exact⟨_,rfl,hOut.out.base hBw,hUk.out,hKk.out,hbr⟩
end Go.Proofs.YtcnedkkcgdkioaaGreat
