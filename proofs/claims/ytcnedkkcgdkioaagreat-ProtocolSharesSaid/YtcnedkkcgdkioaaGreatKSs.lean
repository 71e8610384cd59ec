/- Texts of this claim, put together: V6 V7 TU. -/
import Derived.Test.YtcnedkkcgdkioaaGreatKSr

set_option maxRecDepth 100000
set_option maxHeartbeats 12800000
namespace Go.Proofs.YtcnedkkcgdkioaaGreat
open Go.RowKit
def wF (ss:Jc) (m:Nat) (ms:Jb):Jc:=ms.flatMap fun mv=>(wL ss m (mvTo mv)).map (rdOf mv::·)
theorem wF_step {ss:Jc}{m i:Nat}{ms:Jb}(h:i < ms.length) {mv:List Int}(hm:ms.getD i []=mv):wF ss m (ms.take (i+1))=wF ss m (ms.take i)++(wL ss m (mvTo mv)).map (rdOf mv::·):=by
 rw[take_snoc h [],hm,wF,List.flatMap_append];simp[wF]
theorem wF_le (ss:Jc) (m i:Nat) (ms:Jb):(wF ss m (ms.take i)).length<=(wF ss m ms).length:=by
 have:wF ss m ms=wF ss m (ms.take i)++wF ss m (ms.drop i):=by rw[wF,wF,wF,<-List.flatMap_append,List.take_append_drop]
 rw[this,List.length_append];omega
structure Bxs (w:World) (k:Nat) (n:Int) (sv fv:Value) (tf:TypeId) (g bo bk ba bf:Nat):Prop where
 k:w.heap[bk]? = some (.cells #[.int .i64 (k:Int)] 3)
 a:w.heap[ba]? = some (.cells #[.int .i64 n,sv] 27)
 f:w.heap[bf]? = some (.cells #[fv] tf)
 tf:tf ≠ 77
 kg:bk ≠ g
 ko:bk ≠ bo
 ag:ba ≠ g
 ao:ba ≠ bo
 fg:bf ≠ g
 fo:bf ≠ bo
 og:bo ≠ g
theorem Bxs.kw {w w':World}{k:Nat}{n:Int}{sv fv:Value}{tf:TypeId}{B g bo bk ba bf:Nat}(h:Bxs w k n sv fv tf g bo bk ba bf) (hk:KW B g bo w w'):Bxs w' k n sv fv tf g bo bk ba bf:=
 ⟨hk.box h.k h.kg h.ko (by decide),hk.box h.a h.ag h.ao (by decide),hk.box h.f h.fg h.fo h.tf,h.tf,h.kg,h.ko,h.ag,h.ao,h.fg,h.fo,h.og⟩
theorem OwX.wd7 {E:TypeId}{w w':World}{B g l cap:Nat}{x:Jb}(h:OwX E 7 EI w B (.slice (some ⟨g,0,none⟩) l cap) l x) (hk:w'.heap[g]? = w.heap[g]?):OwX E 7 EI w' B (.slice (some ⟨g,0,none⟩) l cap) l x:=
 h.sameB (fun j hj=>by injection hj with hj;rw[<-hj];exact hk) fun _ _ h=>h
theorem wordsRec {n:Int}{ss:Jc}(hM:LeadOK ss) {w0:World}{sv:Value}(hK:KSS 8 w0 sv ss) {k:Nat}(hk6:k<=6) {B g bo bk ba bf cap:Nat}{tf:TypeId}(hB0:w0.heap.size<=B) (hcap:k<=cap) (hgB:B<=g) :
  ∀(m:Nat) {w:World} {l s:Nat} {x:Jb} {out:Jc},l+m=k->s < ss.length->x.length=l->Below w0.heap.size w0 w->B<=w.heap.size->
  Bxs w k n sv (.func (.func 128) #[] #[.pointer (some ⟨bk,0,none⟩),.pointer (some ⟨bo,0,none⟩),.pointer (some ⟨ba,0,none⟩),.pointer (some ⟨bf,0,none⟩)]) tf g bo bk ba bf->
  OwX 148 7 EI w B (.slice (some ⟨g,0,none⟩) l cap) l x->WOut w B g bo out->out.length+(wL ss m s).length<=1000000->
  Calls Tryz.prog 128 #[.int .i64 (s:Int),.slice (some ⟨g,0,none⟩) l cap,.pointer (some ⟨bk,0,none⟩),.pointer (some ⟨bo,0,none⟩),.pointer (some ⟨ba,0,none⟩),.pointer (some ⟨bf,0,none⟩)] w fun e w'=>
   e = .returned (.tuple #[])/\WOut w' B g bo (out++(wL ss m s).map (x ++ ·))/\OwX 148 7 EI w' B (.slice (some ⟨g,0,none⟩) l cap) l x/\KW B g bo w w':=by
 intro m;induction m with
 | zero=>
  intro w l s x out hlk hs hxl hb0 hBw hX hx hW hbd;obtain rfl:l=k:=by omega
  have ck:=cell_of_one hX.k;obtain⟨ov,no,hbo,hrow,hboB⟩:=hW;have hno:=hrow.length;obtain⟨cb,cbf⟩:=And.intro (cell_of_one hbo) (free_of_one hbo);have hks:=hx.ks (by omega);have hCl:=cloneRdK (w:=w.drew) ((hx.wd7 (w':=w.drew) rfl).ks (by omega)) (by omega);rw[hxl] at hCl;replace hCl:=qH hCl;obtain⟨gcs,hgt⟩:=(hx.blockT (g:=g) rfl).2.2;have hgl:g < w.heap.size:=(Array.getElem?_eq_some_iff.1 hgt).1;have hn9:no<=1000000000000:=by rw[wL] at hbd;simp at hbd;omega
  obtain⟨oa,oc,hov⟩:=hrow.shape;subst hov;have hrow1:=hrow;replace hrow:=qH hrow;replace hx:=qH hx;replace hX:=qH hX;clear hks;go_enter Tryz.func128, Tryz.ntmps128
  go_wp2_with fail
  refine wp_region_any (by kernel_rfl) ?_;change wpAny _ _ _ _ _ _ _ (World.drew _)
  repeat' (first
   | ((first|refine wpAny_ready (rs:=[0,1]) (by decide +kernel) (by simp) ?_|refine wpAny_ready (rs:=[0,2]) (by decide +kernel) (by simp) ?_|refine wpAny_ready (rs:=[0,3]) (by decide +kernel) (by simp) ?_|refine wpAny_ready (rs:=[0]) (by decide +kernel) (by simp) ?_|refine wpAny_ready (rs:=[1]) (by decide +kernel) (by simp) ?_|refine wpAny_ready (rs:=[2]) (by decide +kernel) (by simp) ?_|refine wpAny_ready (rs:=[3]) (by decide +kernel) (by simp) ?_|refine wpAny_ready (rs:=[4]) (by decide +kernel) (by simp) ?_|refine wpAny_ready (rs:=[5]) (by decide +kernel) (by simp) ?_);(first|refine AllReady.cons rfl (fun K hK=>?_) AllReady.nil|refine AllReady.cons rfl (fun K hK=>?_) (AllReady.cons rfl (fun K hK=>?_) AllReady.nil)))
   | (
     refine wpAny_done (by decide +kernel) ?_ _;have hset7:=one_setCell (u:=.slice va7 (no+1) vc7) hbo7
     have hb37:∀(j:Nat) (cs:Array Value) (t:TypeId),w.heap[j]? = some (.cells cs t)->t ≠ 77->w7.heap[j]? = w.heap[j]?:=fun j cs t hj ht=>
      have h1:=hb3b.block j (Array.getElem?_eq_some_iff.1 hj).1;(hx7 j cs t (h1.trans hj) ht).trans h1
     have hsj:∀j,j ≠ bo->(w7.setCell ⟨bo,0,none⟩ (.slice va7 (no+1) vc7)).heap[j]? = w7.heap[j]?:=fun j hj=>Below.heap_setCell _ ⟨bo,0,none⟩ _ j hj;have hgo:g ≠ bo:=fun e=>hX.out.og e.symm
     have hfW:WOut (w7.setCell ⟨bo,0,none⟩ (.slice va7 (no+1) vc7)) B g bo (out++(wL ss 0 s).map (x ++ ·)):=by
      have hl:out++(wL ss 0 s).map (x ++ ·)=out ++ [x]:=(by simp[wL]);rw[hl];exact⟨_,_,hset7,ho7.other (E':=133) (EWg.stab g (by decide)) (by decide) (KeepX.setCell (p:=⟨bo,0,none⟩) hbo7 _),hboB⟩
     have hfX:=hx.out.wd7 (w':=w7.setCell ⟨bo,0,none⟩ (.slice va7 (no+1) vc7)) ((hsj g hgo).trans (hb37 g _ _ hgt (by decide)));have hfK:KW B g bo w (w7.setCell ⟨bo,0,none⟩ (.slice va7 (no+1) vc7)):=⟨Below.setCell (p:=⟨bo,0,none⟩) ((hb3b.mono hBw).trans hb7) hboB _,fun j cs t hj h1 h2 h3=>(hsj j h2).trans (hb37 j cs t hj h3)⟩;replace hfW:=qH hfW;replace hfX:=qH hfX;replace hfK:=qH hfK;clear hset7 hb37 hsj ho7 hx7 hrow3 hu3 hEl3 hbo7;go_wp2;refine bodyPost_ret (results_none rfl _ _ _) rfl ?_;exact⟨rfl,hfW.out,hfX.out,hfK.out⟩)
   | (
     refine step_appX (B:=B) (cs:=[.slice ua3 l uc3]) (x:=x) elemRs (by decide) (by decide) (EWg.stab g (by decide)) (by rfl) _ _ (by rfl) (by rfl) hrow3 ⟨w3.heap.size,0,none⟩ 1 (by rfl) rfl (cell_one_new _ _ _) hon3 hEl3 hn9 hsz3 ?_;intro v7 w7 ho7 hg7 hn7 hb7 hx7;obtain⟨va7,vc7,hvs7⟩:=ho7.shape;subst hvs7;have hbo7:=(hx7 bo _ _ ((hb3b.block bo (Array.getElem?_eq_some_iff.1 hbo).1).trans hbo) (by decide)).trans ((hb3b.block bo (Array.getElem?_eq_some_iff.1 hbo).1).trans hbo);have cc7:=cell_of_one hbo7;have cf7:=free_of_one hbo7;refine hK _ _ ?_;clear hK K)
   | (
     go_simp
     first
      | (refine hK _ _ ?_;clear hK K)
      | (
        go_at_call 76
        refine hCl.out.mono ?_;rintro e w3 ⟨u3,rfl,hu3,hb3'⟩;have hb3:Below w.heap.size w w3:=below_of_drew hb3';obtain⟨ua3,uc3,hus3⟩:=hu3.shape;subst hus3;have cb3:=cell_kept hb3 cb;have hb3b:=hb3.alloc hb3.size (.cells #[.slice ua3 l uc3] 77);have cb3b:=cell_kept hb3b cb;have hrow3:=OwX.keep (EWg.stab g (by decide)) hrow1 hb3b;have hEl3:EWg g (w3.alloc (.cells #[.slice ua3 l uc3] 77)) [.slice ua3 l uc3] x:=⟨_,rfl,by rw[hxl];exact(OwX.keep (EI.stab _) hu3 ((Below.refl w3.heap.size w3).alloc (Nat.le_refl _) _)).base (Nat.zero_le _),fun e=>(by have h9:=(hu3.blockT e).1;have h8:w.drew.heap.size=w.heap.size:=rfl;omega)⟩;have hsz3:=Nat.le_trans hBw hb3b.size;have hon3:∀u ∈ [Value.slice ua3 l uc3],u.oneCell'=true:=fun u hu=>by rw[List.mem_singleton.1 hu];rfl
        dsimp only
        refine hK _ _ ?_;clear hK K)))
 | succ m ih=>
  intro w l s x out hlk hs hxl hb0 hBw hX hx hW hbd;have hlne:((l:Int) == (k:Int))=false:=beq_eq_false_iff_ne.2 (by omega);have ck:=cell_of_one hX.k;have hsl:=hK;obtain⟨sa,sc,sb,so,rfl,hsa,hsc,_⟩:=hsl;obtain rfl:=hsa (by omega);obtain⟨ca0,ca⟩:=box2 hX.a;obtain⟨u,hu,hks⟩:=hsc s hs;have hur:=cell_kept hb0 hu;have hmem:ss.getD s []∈ss:=by rw[getD_eq hs];exact List.getElem_mem hs
  have hmt:Hid (∀mv∈ss.getD s [],0<=mv.getD 7 0/\mv.getD 7 0 < (ss.length:Int)):=fun mv hmv=>hM _ hmem mv hmv;obtain⟨ms,hms⟩:=exE (ss.getD s []);have hwl:wL ss (m+1) s=wF ss m ms:=by rw[wL,hms];rfl
  rw[hms] at hks hmt;rw[hwl] at hbd|-;obtain⟨ua,uc,ub,uo,rfl,hua,hmc,hul⟩:=hks;have hmcw:=qH (fun W (hW:Below w0.heap.size w0 W) j (hj:j < ms.length)=>And.intro (hmc j hj).1 ((hmc j hj).2.keep hW));have hsi:(s:Int) < (ss.length:Int):=by omega
  have hW0:WOut w B g bo (out++(wF ss m (ms.take 0)).map (x ++ ·)):=by
   have:out++(wF ss m (ms.take 0)).map (x ++ ·)=out:=by simp[wF]
   rw[this];exact hW
  have hk0:=KW.refl B g bo w;have hx0:=hx;replace hX:=qH hX;replace hms:=qH hms;replace hbd:=qH hbd;clear hwl hmem hu hmc hW hsc;go_enter Tryz.func128, Tryz.ntmps128
  go_wp2_with fail
  go_loopw [25] (fun iv wr=>∃i:Nat,iv = .int .i64 i/\i<=ms.length/\WOut wr B g bo (out++(wF ss m (ms.take i)).map (x ++ ·))/\OwX 148 7 EI wr B (.slice (some ⟨g,0,none⟩) l cap) l x/\KW B g bo w wr) (fun iv _=>ms.length - (intOf iv).toNat)
  case atStart=>exact⟨0,rfl,by omega,hW0,hx0,hk0⟩
  case round=>
   clear hW0 hx0 hk0 hx ck ca0 ca hur;obtain⟨i,rfl,hi,hWr,hxr,hkr⟩:=hrel;have hXr:=hX.out.kw hkr;have hb0r:Below w0.heap.size w0 wr:=hb0.trans (hkr.1.mono hB0);have hBr:B<=wr.heap.size:=Nat.le_trans hBw hkr.1.size;by_cases hlt:i < ms.length
   ·have hii:(i:Int) < (ms.length:Int):=(by omega);obtain rfl:=hua (by omega);obtain⟨hm8,hmk⟩:=hmcw.out wr hb0r i hlt;obtain⟨mv,hmv⟩:=exE (ms.getD i []);have hmr:=hmt.out mv (by rw[<-hmv,getD_eq hlt];exact List.getElem_mem hlt);rw[hmv] at hm8 hmk;obtain⟨y0,y1,y2,y3,y4,y5,y6,y7,rfl⟩:=eight hm8;replace hmr:0<=y7/\y7 < (ss.length:Int):=hmr;obtain⟨q,rfl⟩:∃q:Nat,y7=(q:Int):=⟨y7.toNat,by omega⟩;have hqs:q < ss.length:=(by omega);obtain⟨c0,c1,c2,c3,c4,c5,c6,c7⟩:=hmk.all8;have hstep:=wF_step (ss:=ss) (m:=m) hlt hmv;have hmq:mvTo [y0,y1,y2,y3,y4,y5,y6,(q:Int)]=q:=rfl;have hrq:rdOf [y0,y1,y2,y3,y4,y5,y6,(q:Int)] = [y0,y1,y2,y3,y4,y5,y6]:=rfl;rw[hmq,hrq] at hstep
    have hfin:Hid (out++(wF ss m (ms.take i)).map (x ++ ·)++(wL ss m q).map ((x ++ [[y0,y1,y2,y3,y4,y5,y6]]) ++ ·)=out++(wF ss m (ms.take (i+1))).map (x ++ ·)):=by
     show _=_;rw[hstep,List.map_append,List.map_map,List.append_assoc];congr 2
     refine List.map_congr_left fun y _=>?_;show(x ++ [[y0,y1,y2,y3,y4,y5,y6]])++y=x++([y0,y1,y2,y3,y4,y5,y6]::y)
     rw[List.append_assoc];rfl
    have hbd2:(out++(wF ss m (ms.take i)).map (x ++ ·)).length+(wL ss m q).length<=1000000:=by
     have h1:=wF_le ss m (i+1) ms;have h2:=hbd.out;rw[hstep,List.length_append,List.length_map] at h1;rw[List.length_append,List.length_map];omega
    obtain⟨Wb,hWb⟩:=exF (wr.alloc (.cells #[.int .i64 y0,.int .i64 y1,.int .i64 y2,.int .i64 y3,.int .i64 y4,.int .i64 y5,.int .i64 y6,.int .i64 (q:Int)] 178));have hbb:Below wr.heap.size wr Wb:=(by rw[hWb];exact(Below.refl _ _).alloc (Nat.le_refl _) _);have mb:Wb.heap[wr.heap.size]? = some (.cells #[.int .i64 y0,.int .i64 y1,.int .i64 y2,.int .i64 y3,.int .i64 y4,.int .i64 y5,.int .i64 y6,.int .i64 (q:Int)] 178):=(by rw[hWb];exact heap_alloc_new _ _);obtain⟨p0,p1,p2,p3,p4,p5,p6,p7⟩:=box8 mb;have hXb:=hXr.kw (KW.below hbb hBr);have cfb:=cell_of_one hXb.f;obtain⟨hgB',hgl,gcs,hgt⟩:=hxr.blockT (g:=g) rfl;have hbol:bo < wr.heap.size:=(by obtain⟨_,_,h1,_⟩:=hWr;exact(Array.getElem?_eq_some_iff.1 h1).1);have hrg:wr.heap.size ≠ g:=(by omega);have hro:wr.heap.size ≠ bo:=(by omega);have hbA:Below wr.heap.size wr (Wb.alloc (.cells #[.int .i64 y0,.int .i64 y1,.int .i64 y2,.int .i64 y3,.int .i64 y4,.int .i64 y5,.int .i64 y6] 148)).drew:=(hbb.alloc hbb.size _).drew;have hxA:OwX 148 7 EI (Wb.alloc (.cells #[.int .i64 y0,.int .i64 y1,.int .i64 y2,.int .i64 y3,.int .i64 y4,.int .i64 y5,.int .i64 y6] 148)).drew B (.slice (some ⟨g,0,none⟩) l cap) l x:=hxr.wd7 (hbA.block g hgl);have mA:(Wb.alloc (.cells #[.int .i64 y0,.int .i64 y1,.int .i64 y2,.int .i64 y3,.int .i64 y4,.int .i64 y5,.int .i64 y6] 148)).drew.heap[wr.heap.size]? = some (.cells #[.int .i64 y0,.int .i64 y1,.int .i64 y2,.int .i64 y3,.int .i64 y4,.int .i64 y5,.int .i64 y6,.int .i64 (q:Int)] 178):=(Below.heap_alloc Wb (.cells #[.int .i64 y0,.int .i64 y1,.int .i64 y2,.int .i64 y3,.int .i64 y4,.int .i64 y5,.int .i64 y6] 148) wr.heap.size (Array.getElem?_eq_some_iff.1 mb).1).trans mb;have hnA:∀j u,([.int .i64 y0,.int .i64 y1,.int .i64 y2,.int .i64 y3,.int .i64 y4,.int .i64 y5,.int .i64 y6]:List Value)[j]? = some u->(Wb.alloc (.cells #[.int .i64 y0,.int .i64 y1,.int .i64 y2,.int .i64 y3,.int .i64 y4,.int .i64 y5,.int .i64 y6] 148)).drew.cell? ((⟨Wb.heap.size,0,none⟩:Addr).add j)=some u:=World.news_of_block (heap_alloc_new Wb (.cells #[.int .i64 y0,.int .i64 y1,.int .i64 y2,.int .i64 y3,.int .i64 y4,.int .i64 y5,.int .i64 y6] 148))
    have hc7:∀u∈([.int .i64 y0,.int .i64 y1,.int .i64 y2,.int .i64 y3,.int .i64 y4,.int .i64 y5,.int .i64 y6]:List Value),u.oneCell'=true:=fun u hu=>by
     simp only[List.mem_cons,List.not_mem_nil,or_false] at hu;rcases hu with rfl|rfl|rfl|rfl|rfl|rfl|rfl<;>rfl
    have hroom:l+1<=cap:=(by omega);have hkA:KW B g bo wr (Wb.alloc (.cells #[.int .i64 y0,.int .i64 y1,.int .i64 y2,.int .i64 y3,.int .i64 y4,.int .i64 y5,.int .i64 y6] 148)).drew:=KW.below hbA hBr;have hBA:B<=(Wb.alloc (.cells #[.int .i64 y0,.int .i64 y1,.int .i64 y2,.int .i64 y3,.int .i64 y4,.int .i64 y5,.int .i64 y6] 148)).drew.heap.size:=Nat.le_trans hBr hbA.size
    have hst9:=qH (fun w7 (ho7:OwX 148 7 EI w7 B (.slice (some ⟨g,0,none⟩) (l+1) cap) (l+1) (x ++ [[y0,y1,y2,y3,y4,y5,y6]])) (hg7:(Wb.alloc (.cells #[.int .i64 y0,.int .i64 y1,.int .i64 y2,.int .i64 y3,.int .i64 y4,.int .i64 y5,.int .i64 y6] 148)).drew.grownBy w7 (some g))=>
     have hk7:KW B g bo wr w7:=hkA.trans (KW.grown hg7 hBA hgB)
     ih (w:=w7) (l:=l+1) (s:=q) (x:=x ++ [[y0,y1,y2,y3,y4,y5,y6]]) (out:=out++(wF ss m (ms.take i)).map (x ++ ·)) (by omega) hqs (by rw[List.length_append,hxl];rfl) (hb0r.trans (hk7.1.mono hB0)) (Nat.le_trans hBr hk7.1.size) (hXr.kw hk7) ho7
      (hWr.keepG ⟨gcs,hgt⟩ (fun j hj hjg=>(hg7.block j (Nat.lt_of_lt_of_le hj hbA.size) (by simpa using hjg)).trans (hbA.block j hj))) hbd2)
    replace hXr:=qH hXr;replace hXb:=qH hXb;replace hWr:=qH hWr;replace hmv:=qH hmv;replace mA:=qH mA;replace hgt:=qH hgt;clear hm8 hmk hmr hstep hbd2 mb hmq hrq;have ca1:=(box2 hXr.out.a).2;go_wp2_with fail
    rw[<-hWb];clear hWb
    go_region_held3 (fun w'=>w'.cell? ⟨bf,0,none⟩=some (.func (.func 128) #[] #[.pointer (some ⟨bk,0,none⟩),.pointer (some ⟨bo,0,none⟩),.pointer (some ⟨ba,0,none⟩),.pointer (some ⟨bf,0,none⟩)])/\w'.cell? ⟨wr.heap.size,0,none⟩=some (.int .i64 y0)/\w'.cell? ⟨wr.heap.size,1,none⟩=some (.int .i64 y1)/\w'.cell? ⟨wr.heap.size,2,none⟩=some (.int .i64 y2)/\w'.cell? ⟨wr.heap.size,3,none⟩=some (.int .i64 y3)/\w'.cell? ⟨wr.heap.size,4,none⟩=some (.int .i64 y4)/\w'.cell? ⟨wr.heap.size,5,none⟩=some (.int .i64 y5)/\w'.cell? ⟨wr.heap.size,6,none⟩=some (.int .i64 y6)/\w'.cell? ⟨wr.heap.size,7,none⟩=some (.int .i64 (q:Int)))
     (first
      | go_keep
      | (exact⟨cf9,r0,r1,r2,r3,r4,r5,r6,r7⟩)
      | (exact⟨cf7,z0,z1,z2,z3,z4,z5,z6,z7⟩))
     (first
      | ((refine step_appW (B:=B) (x:=x) (r:=[y0,y1,y2,y3,y4,y5,y6]) (cs:=[.int .i64 y0,.int .i64 y1,.int .i64 y2,.int .i64 y3,.int .i64 y4,.int .i64 y5,.int .i64 y6]) (by rfl) _ _ (by rfl) (by rfl) hxA ⟨Wb.heap.size,0,none⟩ 1 (by rfl) rfl hnA hc7 rfl hroom ?_;intro w7 ho7 hg7;have hk7:KW B g bo wr w7:=hkA.trans (KW.grown hg7 hBA hgB);have cf7:=cell_of_one (hXr.out.kw hk7).f;have m7:=(KW.grown (bo:=bo) hg7 hBA hgB).box mA.out hrg hro (by decide);obtain⟨z0,z1,z2,z3,z4,z5,z6,z7⟩:=box8 m7;replace m7:=qH m7))
      | (go_at_call 128;refine(hst9.out w7 ho7 hg7).mono ?_;rintro e w9 ⟨rfl,hW9,hx9,hk9⟩;have cf9:=cell_of_one ((hXr.out.kw hk7).kw hk9).f;obtain⟨r0,r1,r2,r3,r4,r5,r6,r7⟩:=box8 (hk9.box m7.out hrg hro (by decide))))
    rw[hfin.out] at hW9;have hxf:=hx9.pre hxl;have hkf:=hkr.trans (hk7.trans hk9);clear ho7 hx9 hk9 hk7;go_wp2;go_roundw
    case rel=>exact⟨i+1,by go_num,hlt,hW9,hxf,hkf⟩
    case measure=>simp[intOf];omega
   ·obtain rfl:i=ms.length:=(by omega);have hge : ¬((ms.length:Int) < (ms.length:Int)):=(by omega);rw[List.take_length] at hWr;go_wp2
    first
     | go_end0
     | refine bodyPost_ret (results_none rfl _ _ _) rfl ?_
    exact⟨rfl,hWr,hxr,hkr⟩
theorem run_make0 {T E:TypeId}{z:Value}{k bytes:Nat}(hE:ElemK Tryz.prog T E z k bytes) (c:Nat) (hc:c<=1000000) (hby:bytes<=128) (w:World) :
  (Instr.makeSlice T (.int .i64 0) (.int .i64 (c:Int))).run Tryz.prog w = .ok (.slice (some ⟨w.heap.size,0,none⟩) 0 c) (w.alloc (.cells (madeCells z.cells (c * k)) E)):=by
 obtain⟨i0,hi,hz0,hz1,hz2⟩:=info_parts hE.2.1
 have hb:(i0.bytes:Int) * (c:Int)<=281474976710656:=by
  have h:((i0.bytes * c:Nat):Int)<=281474976710656:=by
   have:i0.bytes * c<=128 * 1000000:=Nat.mul_le_mul (by omega) hc
   omega
  rwa [Int.natCast_mul] at h
 have hr:=run_make (P:=Tryz.prog) w T E i0 z hE.1 hi hz0 .i64 .i64 0 c (by omega) (by omega) hb (by omega);simp only[Int.toNat_natCast,hz1,Int.toNat_zero] at hr;exact hr
theorem owMade0 {α:Type}{E:TypeId}{z:Value}{k:Nat}{El:World->List Value->α->Prop}{w:World}{B c:Nat}(hB:B<=w.heap.size) (hc:c<=1000000) :
  OwX E k El (w.alloc (.cells (madeCells z.cells (c * k)) E)) B (.slice (some ⟨w.heap.size,0,none⟩) 0 c) 0 []:=
 ⟨[],⟨by simp,.inr ⟨w.heap.size,c,_,rfl,hB,heap_alloc_new w _,Nat.zero_le _,by unfold maxLen;omega,by rw[size_madeCells],by simp⟩⟩,rfl,by simp,by simp⟩
theorem runStore {W:World}{p:Addr}{v u:Value}(hc:W.cell? p=some u) (hf:W.frozen? p=false) (h1:v.oneCell'=true):(store p v).run Tryz.prog W = .ok () (W.setCell p v):=by
 rw[run_store Tryz.prog W p v _ h1,hc];simp[hf]
theorem wL_each (ss:Jc):∀(m s:Nat) (x:Jb),x∈wL ss m s->x.length=m
 | 0,_,x,h=>by rw[wL,List.mem_singleton] at h;subst h;rfl
 | m+1,s,x,h=>by
  rw[wL,List.mem_flatMap] at h;obtain⟨mv,_,h⟩:=h;obtain⟨y,hy,rfl⟩:=List.mem_map.1 h;rw[List.length_cons,wL_each ss m _ y hy]
theorem wordsW {w:World}{v:Value}{n:Int}{ss:Jc}(hA:AdvV w v n ss) (h0:chkA n ss=0) (hO:WdOK ss) {k:Nat}(hk:k<=6) (hz:num ss 4097 k<=4096) :
  Calls Tryz.prog 73 #[v,.int .i64 (k:Int)] w fun e w'=>∃u,e = .returned (.tuple #[u,.int .i64 0])/\KSS 7 w' u (wL ss k 0)/\Below w.heap.size w w':=by
 have hM:=LeadOK.ofWd hO;have hl0:=hO.2.2.1;have hcn:=numL_cnt hM (L:=4097) (by omega) k 0 hl0;have hcnt:(wL ss k 0).length<=4096:=by rw[wL_len];unfold num at hz;omega
 obtain⟨c,hc⟩:=exE (num ss 4097 k);have HC:=qH (fun W (hb:Below w.heap.size w W)=>countedW (hA.keep hb) h0 hO hk hz);rw[hc] at hz;simp only[hc] at HC;obtain⟨sv,rfl,hK⟩:=hA;obtain⟨sa,sc,hsv⟩:=hK.shape;subst hsv;obtain⟨W1,hW1⟩:=exF ((w.alloc (.cells #[.int .i64 n,.slice sa ss.length sc] 27)).alloc (.cells #[.int .i64 (k:Int)] 3));have hs1:W1.heap.size=w.heap.size+2:=by rw[hW1];simp
 have hb1:Below w.heap.size w W1:=by rw[hW1];exact((Below.refl _ w).alloc (Nat.le_refl _) _).alloc (by simp) _
 have kA:W1.heap[w.heap.size]? = some (.cells #[.int .i64 n,.slice sa ss.length sc] 27):=by
  rw[hW1];exact(Below.heap_alloc _ _ _ (by simp)).trans (World.alloc_heap_new w _)
 have kK:W1.heap[w.heap.size+1]? = some (.cells #[.int .i64 (k:Int)] 3 (0,0)):=by
  rw[hW1];have:=World.alloc_heap_new (w.alloc (.cells #[.int .i64 n,.slice sa ss.length sc] 27)) (.cells #[.int .i64 (k:Int)] 3)
  rwa [World.size_alloc] at this
 obtain⟨d0,d1⟩:=box2 kA;have ck:=cell_of_one kK
 have hm1:∀w:World,(Instr.makeSlice 133 (.int .i64 0) (.int .i64 (c:Int))).run Tryz.prog w = .ok (.slice (some ⟨w.heap.size,0,none⟩) 0 c) (w.alloc (.cells (madeCells #[.slice none 0 0] c) 77)):=fun w=>by
  have h:=run_make0 elemRs c (by omega) (by decide) w;rwa [Nat.mul_one] at h
 have hm2:∀w:World,(Instr.makeSlice 77 (.int .i64 0) (.int .i64 (k:Int))).run Tryz.prog w = .ok (.slice (some ⟨w.heap.size,0,none⟩) 0 k) (w.alloc (.cells (madeCells #[.int .i64 0,.int .i64 0,.int .i64 0,.int .i64 0,.int .i64 0,.int .i64 0,.int .i64 0] (k * 7)) 148)):=fun w=>run_make0 elemRd k (by omega) (by decide) w;replace hs1:=qH hs1;replace hK:=qH hK;replace hO:=qH hO;replace hc:=qH hc;go_enter Tryz.func73, Tryz.ntmps73
 go_wp2_with fail
 rw[<-hW1];replace hW1:=qH hW1;refine(HC.out W1 hb1).mono ?_;rintro e W2 ⟨rfl,hb2⟩;have hb12:=bt hb1 hb2 hb1.size;have ck2:=cell_kept hb2 ck;have cA2:=cell_kept hb2 d0;have cA3:=cell_kept hb2 d1;have hs12:w.heap.size+2<=W2.heap.size:=by have:=hs1.out;have:=hb2.size;omega
 have kA2:=(hb2.block w.heap.size (by have:=hs1.out;omega)).trans kA;have kK2:=(hb2.block (w.heap.size+1) (by have:=hs1.out;omega)).trans kK;obtain⟨W3,hW3⟩:=exF (W2.alloc (.cells (madeCells #[.slice none 0 0] c) 77));obtain⟨W5,hW5⟩:=exF ((((W2.alloc (.cells (madeCells #[.slice none 0 0] c) 77)).alloc (.cells #[.slice (some ⟨W2.heap.size,0,none⟩) 0 c] 133)).alloc (.cells #[Value.nilFunc] 198)));have hs3:W3.heap.size=W2.heap.size+1:=by rw[hW3];simp
 have hs5:W5.heap.size=W2.heap.size+3:=by rw[hW5];simp
 have kF5:W5.heap[W2.heap.size+1+1]? = some (.cells #[Value.nilFunc] 198 (0,0)):=by
  rw[hW5];have:=World.alloc_heap_new ((W2.alloc (.cells (madeCells #[.slice none 0 0] c) 77)).alloc (.cells #[.slice (some ⟨W2.heap.size,0,none⟩) 0 c] 133)) (.cells #[Value.nilFunc] 198)
  simpa only [World.size_alloc] using this
 have hst:=runStore (v:=(.func (.func 128) #[] #[.pointer (some ⟨w.heap.size+1,0,none⟩),.pointer (some ⟨W2.heap.size+1,0,none⟩),.pointer (some ⟨w.heap.size,0,none⟩),.pointer (some ⟨W2.heap.size+1+1,0,none⟩)])) (cell_of_one kF5) (free_of_one kF5) rfl;obtain⟨W6,hW6⟩:=exF (((W2.alloc (.cells (madeCells #[.slice none 0 0] c) 77)).alloc (.cells #[.slice (some ⟨W2.heap.size,0,none⟩) 0 c] 133)).alloc (.cells #[(.func (.func 128) #[] #[.pointer (some ⟨w.heap.size+1,0,none⟩),.pointer (some ⟨W2.heap.size+1,0,none⟩),.pointer (some ⟨w.heap.size,0,none⟩),.pointer (some ⟨W2.heap.size+1+1,0,none⟩)])] 198));have hs6:W6.heap.size=W2.heap.size+3:=by rw[hW6];simp
 have hb36:Below W3.heap.size W3 W6:=by rw[hW6,<-hW3];exact((Below.refl _ W3).alloc (Nat.le_refl _) _).alloc (by simp) _
 have hb26:Below W2.heap.size W2 W6:=by rw[hW6];exact(((Below.refl _ W2).alloc (Nat.le_refl _) _).alloc (by simp) _).alloc (by simp;omega) _
 have hrow3:OwX 77 1 (EWg W6.heap.size) W3 w.heap.size (.slice (some ⟨W2.heap.size,0,none⟩) 0 c) 0 []:=by
  have h:=owMade0 (E:=77) (z:=.slice none 0 0) (k:=1) (El:=EWg W6.heap.size) (w:=W2) (B:=w.heap.size) (c:=c) (by omega) (by omega);rw[Nat.mul_one] at h;rw[hW3];exact h
 have kO6:W6.heap[W2.heap.size+1]? = some (.cells #[.slice (some ⟨W2.heap.size,0,none⟩) 0 c] 133 (0,0)):=by
  rw[hW6];refine(Below.heap_alloc _ _ _ (by simp)).trans ?_;have:=World.alloc_heap_new (W2.alloc (.cells (madeCells #[.slice none 0 0] c) 77)) (.cells #[.slice (some ⟨W2.heap.size,0,none⟩) 0 c] 133)
  rwa [World.size_alloc] at this
 have kF6:W6.heap[W2.heap.size+1+1]? = some (.cells #[(.func (.func 128) #[] #[.pointer (some ⟨w.heap.size+1,0,none⟩),.pointer (some ⟨W2.heap.size+1,0,none⟩),.pointer (some ⟨w.heap.size,0,none⟩),.pointer (some ⟨W2.heap.size+1+1,0,none⟩)])] 198 (0,0)):=by
  rw[hW6];have:=World.alloc_heap_new ((W2.alloc (.cells (madeCells #[.slice none 0 0] c) 77)).alloc (.cells #[.slice (some ⟨W2.heap.size,0,none⟩) 0 c] 133)) (.cells #[(.func (.func 128) #[] #[.pointer (some ⟨w.heap.size+1,0,none⟩),.pointer (some ⟨W2.heap.size+1,0,none⟩),.pointer (some ⟨w.heap.size,0,none⟩),.pointer (some ⟨W2.heap.size+1+1,0,none⟩)])] 198)
  simpa only [World.size_alloc] using this
 have kA6:=(hb26.block w.heap.size (by omega)).trans kA2;have kK6:=(hb26.block (w.heap.size+1) (by omega)).trans kK2;have hbw6:=bt hb12 hb26 hb12.size;obtain⟨W7,hW7⟩:=exF ((W6.alloc (.cells (madeCells #[.int .i64 0,.int .i64 0,.int .i64 0,.int .i64 0,.int .i64 0,.int .i64 0,.int .i64 0] (k * 7)) 148)).drew);have h67:Below W6.heap.size W6 W7:=by rw[hW7];exact((Below.refl _ W6).alloc (Nat.le_refl _) _).drew
 have hbw7:=bt hbw6 h67 hbw6.size
 have hx7:OwX 148 7 EI W7 w.heap.size (.slice (some ⟨W6.heap.size,0,none⟩) 0 k) 0 []:=by
  have h:=owMade0 (E:=148) (z:=.agg #[.int .i64 0,.int .i64 0,.int .i64 0,.int .i64 0,.int .i64 0,.int .i64 0,.int .i64 0]) (k:=7) (El:=EI) (w:=W6) (B:=w.heap.size) (c:=k) hbw6.size (by omega);rw[hW7];exact h.wd7 rfl
 have hX7:Bxs W7 k n (.slice sa ss.length sc) (.func (.func 128) #[] #[.pointer (some ⟨w.heap.size+1,0,none⟩),.pointer (some ⟨W2.heap.size+1,0,none⟩),.pointer (some ⟨w.heap.size,0,none⟩),.pointer (some ⟨W2.heap.size+1+1,0,none⟩)]) 198 W6.heap.size (W2.heap.size+1) (w.heap.size+1) w.heap.size (W2.heap.size+1+1):=
  ⟨(h67.block _ (by omega)).trans kK6,(h67.block _ (by omega)).trans kA6,(h67.block _ (by omega)).trans kF6,by decide,by omega,by omega,by omega,by omega,by omega,by omega,by omega⟩
 have hO7:WOut W7 w.heap.size W6.heap.size (W2.heap.size+1) []:=by
  refine⟨_,0,(h67.block _ (by omega)).trans kO6,?_,by omega⟩;exact OwX.keep (EWg.stab _ (by decide)) (OwX.keep (EWg.stab _ (by decide)) hrow3 hb36) h67
 have hR:=wordsRec hM hK.out hk (B:=w.heap.size) (bo:=W2.heap.size+1) (cap:=k) (Nat.le_refl _) (Nat.le_refl _) (by omega:w.heap.size<=W6.heap.size) k (w:=W7) (l:=0) (s:=0) (x:=[]) (out:=[]) (by omega) hl0 rfl hbw7 hbw7.size hX7 hx7 hO7 (by simp;omega);rw[show((0:Nat):Int)=0 from rfl] at hR;replace hR:=qH hR;replace hs6:=qH hs6;replace hX7:=qH hX7;have cf6:=cell_of_one kF6;have ck6:=cell_of_one kK6;rw[hW5] at hst;replace hW3:=qH hW3;replace hW5:=qH hW5;replace hW6:=hW6.symm;have hW6h:=qH hW6;clear hO7 hx7 kF5 hrow3 h67 hb36 kA6 kO6 hs3 hs5 hW6;go_wp2_with fail
 rw[hW6h.out];clear hst
 go_region_held3 (fun w'=>w'.cell? ⟨W2.heap.size+1+1,0,none⟩=some (.func (.func 128) #[] #[.pointer (some ⟨w.heap.size+1,0,none⟩),.pointer (some ⟨W2.heap.size+1,0,none⟩),.pointer (some ⟨w.heap.size,0,none⟩),.pointer (some ⟨W2.heap.size+1+1,0,none⟩)])/\w'.cell? ⟨w.heap.size+1,0,none⟩=some (.int .i64 (k:Int)))
  (first
   | go_keep
   | (exact⟨cell_of_one (hX7.out.kw hk9).f,cell_of_one (hX7.out.kw hk9).k⟩))
  (first
   | (go_at_call 128;rw[<-hW7];refine hR.out.mono ?_;rintro e w9 ⟨rfl,hW9,hx9,hk9⟩))
 obtain⟨ov,no,hbo,hrow9,_⟩:=hW9;have cbo:=cell_of_one hbo;have hl9:([]:Jc)++(wL ss k 0).map (([]:Jb) ++ ·)=wL ss k 0:=by simp
 rw[hl9] at hrow9;have hno:=hrow9.length;obtain⟨oa,oc,hov⟩:=hrow9.shape;subst hov;have hks:KSS 7 w9 (.slice oa no oc) (wL ss k 0):=OwX.kss7 (hrow9.mono fun _ _ ⟨u,h1,h2,_⟩=>⟨u,h1,h2⟩) (by omega) (fun x hx=>by rw[wL_each ss k 0 x hx];omega);have hbf:=hbw7.trans hk9.1;go_wp2;go_ret2
 exact⟨_,rfl,hks,hbf⟩
attribute [local go_sem] Oper.semAt_some
def zSys:Array Value:=#[.int .i64 0,.int .i64 0,.int .i64 0,.slice none 0 0,.int .i64 0,.slice none 0 0,.int .i64 0,.int .i64 0,.slice none 0 0,.slice none 0 0]
theorem cnt_small {cs:List Cs}{ss:Jc}(hM:LeadOK ss) (h0:0 < ss.length) {k:Nat}(hl:1<=cs.length) (hn:numP cs ss k<=60):num ss 1048577 k=cnt ss k 0/\num ss 4097 k=cnt ss k 0/\cs.length * cnt ss k 0<=60:=by
 have h1:num ss 4097 k=min (cnt ss k 0) 4097:=by unfold num;rw[numL_cnt hM (by omega) k 0 h0]
 have h2:num ss 1048577 k=min (cnt ss k 0) 1048577:=by unfold num;rw[numL_cnt hM (by omega) k 0 h0]
 unfold numP at hn;rw[h1] at hn;have h3:1 * min (cnt ss k 0) 4097<=cs.length * min (cnt ss k 0) 4097:=Nat.mul_le_mul_right _ hl;have h4:min (cnt ss k 0) 4097=cnt ss k 0:=by omega
 rw[h4] at hn;exact⟨by omega,by omega,hn⟩
theorem cnt_posW {ss:Jc}(h:WdOK ss):∀(k s:Nat),s < ss.length->1<=cnt ss k s
 | 0,_,_=>Nat.le_refl _
 | k+1,s,hs=>by
  have hm:ss.getD s []∈ss:=by rw[getD_eq hs];exact List.getElem_mem hs
  obtain⟨h0,h8⟩:=h.2.2.2 _ hm;rw[cnt];cases hl:ss.getD s [] with
  | nil=>rw[hl] at h0;cases h0
  | cons a r=>
   rw[hl] at h8;obtain⟨_,h1,h2⟩:=h8 a (by simp);have:=cnt_posW h k (mvTo a) (by rw[mvTo];omega)
   simp only[List.map_cons,List.sum_cons];omega
theorem buildGood {w:World}{v:Value}{n i o an r:Int}{cs:List Cs}{ss:Jc}{N k:Nat}(h:PrV w v n i o cs an ss r) (hN:n=(N:Int)) (hr:r=(k:Int)) (hf:fewA ss=true) (hft:fewT cs=true) (hc:chkP n i o cs an ss r=0) (hn:numP cs ss k<=60) :
  Calls Tryz.prog 28 #[v] w fun e w'=>∃v',e = .returned (.tuple #[v',.int .i64 0])/\SysV w' v' n i o cs an ss r n (sysP N cs (wL ss k 0)).1 (sysP N cs (wL ss k 0)).2/\Below w.heap.size w w':=by
 have hmx : Tryz.prog.follows .mixedOrders=true:=by kernel_rfl
 have hmm:=@run_makeMap Tryz.prog;subst hN hr;have hc0:=hc;obtain⟨c1,c2,c3,c4,c5⟩:=chkP_zero hc;obtain⟨l1,l2⟩:=chkT_len c1;obtain⟨⟨n1,n5⟩,hin⟩:=task_in c1;have HCn0:=qH (fun W (hb:Below w.heap.size w W)=>execCount (h.keep hb) hf);have HCp0:=qH (fun W (hb:Below w.heap.size w W) (h1:1<=ss.length) (h2:ss.length<=1000) (h3:∀x∈ss,x.length<=1000000)=>copiedO (h.keep hb) l1 l2 h1 h2 (few_sm hft) h3);obtain⟨a,c,a',c',rfl,hT,hA⟩:=h;have hO:=(chk_cls hA hf c2).wd;obtain⟨cm1,cm2,cm3⟩:=cnt_small (LeadOK.ofWd hO) hO.2.2.1 l1 hn;have hcs:cnt ss k 0<=60:=by have:=Nat.mul_le_mul_right (cnt ss k 0) l1;omega
 have hWd:=qH (fun W (hb:Below w.heap.size w W)=>wordsW (hA.keep hb) c2 hO (k:=k) (by omega) (by omega));have h8:=hA.len8;have hwl:=qH (wL_each ss k 0);have hwb:=qH (wL_bd h8 c2 k 0);have hwn:=wL_len ss k 0;have hw1:1<=(wL ss k 0).length:=by rw[hwn];exact cnt_posW hO k 0 hO.2.2.1
 have hsl:∀x∈ss,x.length<=1000000:=fun x hx=>by
  have:=hO.2.1
  have h2:x.length<=movesN ss:=mem_movesN hx;omega
 have hsn0:ss.length<=100000:=by have:=hO.1;omega
 have hsl':=qH hsl;have HCp:=qH (fun W (hb:Below w.heap.size w W)=>HCp0.out W hb hO.2.2.1 (by have:=hO.1;omega) hsl)
 have e1:(if chkP (N:Int) i o cs an ss (k:Int) ≠ 0 then ((0:Int),chkP (N:Int) i o cs an ss (k:Int)) else cntP cs ss ((k:Int)).toNat)=(((cnt ss k 0 * cs.length:Nat):Int),0):=by
  rw[if_neg (fun h=>h hc0),Int.toNat_natCast];unfold cntP;rw[cm1,if_neg (by omega),if_neg (by rw[Nat.mul_comm];omega)]
 rw[e1] at HCn0;rw[Nat.mul_comm] at cm3;obtain⟨M,hM⟩:=exE (cnt ss k 0 * cs.length);rw[hM] at HCn0 cm3;obtain⟨ws,hws⟩:=exE (wL ss k 0);rw[hws] at hWd hwl hwb hwn hw1|-;have hMl:cs.length * ws.length<=60:=by rw[hwn,Nat.mul_comm,hM];exact cm3
 have hk6:k<=6:=by omega
 obtain⟨sv,hsv,hTS⟩:=hT;injection hsv with hsv
 have hsv:Value.slice a cs.length c=sv:=by
  have:=congrArg (fun a:Array Value=>a.toList) hsv
  simpa using this
 subst hsv
 obtain⟨cb,co,rfl,hcc⟩:∃b off,a=some ⟨b,off,none⟩/\CsC w b off cs:=by
  obtain⟨a2,c2,b,off,h1,h2,h3,_⟩:=hTS;injection h1 with e1 _ _;exact⟨b,off,e1.trans (h2 l1),h3⟩
 have hcbw:cb < w.heap.size:=by
  obtain⟨_,_,_,h1,_⟩:=hcc 0 (by omega);exact World.block_lt_of_cell? _ _ h1
 replace hcc:=qH hcc;clear HCp0 hsl hO hn hc hc0 c1 c2 c3 c4 c5 cm1 cm2 hcs e1 hM hwn h8 hws hTS hA;obtain⟨W1,hW1⟩:=exF (((w.alloc (.cells #[.int .i64 (N:Int),.int .i64 i,.int .i64 o,.slice (some ⟨cb,co,none⟩) cs.length c,.int .i64 an,.slice a' ss.length c',.int .i64 (k:Int)] 29)).alloc (.cells #[.int .i64 0,.int .i64 0,.int .i64 0,.slice none 0 0,.int .i64 0,.slice none 0 0,.int .i64 0,.int .i64 0,.slice none 0 0,.slice none 0 0] 35)).alloc (.cells #[.int .i64 0] 41));have hs1:W1.heap.size=w.heap.size+3:=by rw[hW1];simp
 have hb1:Below w.heap.size w W1:=by rw[hW1];exact(((Below.refl _ w).alloc (Nat.le_refl _) _).alloc (by simp) _).alloc (by simp;omega) _
 have kP:W1.heap[w.heap.size]? = some (.cells #[.int .i64 (N:Int),.int .i64 i,.int .i64 o,.slice (some ⟨cb,co,none⟩) cs.length c,.int .i64 an,.slice a' ss.length c',.int .i64 (k:Int)] 29):=by
  rw[hW1];exact(Below.heap_alloc _ _ _ (by simp;omega)).trans ((Below.heap_alloc _ _ _ (by simp)).trans (heap_alloc_new w _))
 have kS:W1.heap[w.heap.size+1]? = some (.cells #[.int .i64 0,.int .i64 0,.int .i64 0,.slice none 0 0,.int .i64 0,.slice none 0 0,.int .i64 0,.int .i64 0,.slice none 0 0,.slice none 0 0] 35):=by
  rw[hW1];have:=heap_alloc_new (w.alloc (.cells #[.int .i64 (N:Int),.int .i64 i,.int .i64 o,.slice (some ⟨cb,co,none⟩) cs.length c,.int .i64 an,.slice a' ss.length c',.int .i64 (k:Int)] 29)) (.cells #[.int .i64 0,.int .i64 0,.int .i64 0,.slice none 0 0,.int .i64 0,.slice none 0 0,.int .i64 0,.int .i64 0,.slice none 0 0,.slice none 0 0] 35)
  rw[World.size_alloc] at this;exact(Below.heap_alloc _ _ _ (by simp)).trans this
 have kE:W1.heap[w.heap.size+1+1]? = some (.cells #[.int .i64 0] 41):=by
  rw[hW1];have:=heap_alloc_new ((w.alloc (.cells #[.int .i64 (N:Int),.int .i64 i,.int .i64 o,.slice (some ⟨cb,co,none⟩) cs.length c,.int .i64 an,.slice a' ss.length c',.int .i64 (k:Int)] 29)).alloc (.cells #[.int .i64 0,.int .i64 0,.int .i64 0,.slice none 0 0,.int .i64 0,.slice none 0 0,.int .i64 0,.int .i64 0,.slice none 0 0,.slice none 0 0] 35)) (.cells #[.int .i64 0] 41)
  rwa [World.size_alloc,World.size_alloc] at this
 have HK:=qH (fun W (hb:Below W1.heap.size W1 W)=>keep7 hb (box7' kP));obtain⟨g0,g1,g2,g3,g4,g5,g6⟩:=HK.out W1 (Below.refl _ _);rw[hW1] at g0 g1 g2 g3 g4 g5 g6;have hkP:=qH kP;have hkS:=qH kS;have hkE:=qH kE;have dM:decide ((4096:Int) < (M:Int))=false:=decide_eq_false (by omega);clear kP kS kE;refine callsIn_wide.1 (callsIn_of_wp_marks (n:=0) Tryz.func28 rfl trivial ?_);simp only[Tryz.ntmps28,List.size_toArray,List.length_cons,List.length_nil,Nat.reduceAdd,Nat.reduceSub,Array.replicate_succ,Array.replicate_zero,List.push_toArray,List.append_toArray,List.nil_append,List.cons_append];refine wpIn_wide.2 ?_;go_wp2_with fail
 rw[<-hW1];replace hW1:=qH hW1;refine(HCn0.out W1 hb1).mono ?_;rintro e w3 ⟨rfl,hb3⟩;clear g0 g1 g2 g3 g4 g5 g6;obtain⟨g0,g1,g2,g3,g4,g5,g6⟩:=HK.out w3 hb3;go_wp2_with fail
 refine(hWd.out w3 (btt hb1 hb3)).mono ?_;rintro e w4 ⟨u,rfl,hu,hb4⟩;obtain⟨ua,uc,rfl⟩:=hu.shape
 obtain⟨wb,wo,rfl,hww⟩:∃b off,ua=some ⟨b,off,none⟩/\CKK 7 w4 b off ws:=by
  obtain⟨a2,c2,b,off,h1,h2,h3,_⟩:=hu;injection h1 with e1 _ _;exact⟨b,off,e1.trans (h2 hw1),h3⟩
 obtain⟨fw,hfw⟩:∃f:Nat->Value,∀j,j < ws.length->w4.cell? ⟨wb,wo+j,none⟩=some (f j)/\KS 7 w4 (f j) (ws.getD j []):=by
  refine Classical.axiomOfChoice (r:=fun j (t:Value)=>j < ws.length->w4.cell? ⟨wb,wo+j,none⟩=some t/\KS 7 w4 t (ws.getD j [])) fun j=>?_;by_cases hj:j < ws.length
  ·obtain⟨u,h1,h2⟩:=hww j hj;exact⟨u,fun _=>⟨h1,h2⟩⟩
  ·exact⟨undef,fun h=>absurd h hj⟩
 replace hfw:=qH hfw;clear hww hu;have hb14:=btt hb3 hb4;clear g0 g1 g2 g3 g4 g5 g6;obtain⟨g0,g1,g2,g3,g4,g5,g6⟩:=HK.out w4 hb14;go_wp2_with fail
 refine(HCp.out w4 (btt hb1 hb14)).mono ?_;rintro e w5 ⟨v5,rfl,hP5,hb5⟩;have hPO:=hP5;obtain⟨a5,c5,a5',c5',B5,B5',f5,f5',rfl,-,-⟩:=hP5;replace hPO:=qH hPO;have hb15:=btt hb14 hb5;clear g0 g1 g2 g3 g4 g5 g6;obtain⟨W7,hW7⟩:=exF (w5.alloc (.cells #[.int .i64 (N:Int),.int .i64 i,.int .i64 o,.slice a5 cs.length c5,.int .i64 an,.slice a5' ss.length c5',.int .i64 (k:Int),.int .i64 0,.slice none 0 0,.slice none 0 0] 35));have hb57:Below w5.heap.size w5 W7:=by rw[hW7];exact(Below.refl _ _).alloc (Nat.le_refl _) _
 have hs7:W7.heap.size=w5.heap.size+1:=by rw[hW7];simp
 have h7:W7.heap[w5.heap.size]? = some (.cells #[.int .i64 (N:Int),.int .i64 i,.int .i64 o,.slice a5 cs.length c5,.int .i64 an,.slice a5' ss.length c5',.int .i64 (k:Int),.int .i64 0,.slice none 0 0,.slice none 0 0] 35):=by rw[hW7];exact heap_alloc_new _ _
 have hb17:Below W1.heap.size W1 W7:=btt hb15 hb57;have hh7:=qH h7;clear h7;go_upto_region 10 with fail
 rw[<-hW7];replace hW7:=qH hW7;obtain⟨g0,g1,g2,g3,g4,g5,g6⟩:=HK.out W7 hb17;have hmade:IM vwV (W7.alloc (.map #[] 0)) W7.heap.size []:=MX.made W7;go_upto_region 11 with fail
 obtain⟨B,hB⟩:=exE (w5.heap.size);rw[hB] at hs7 hh7|-;obtain⟨W10,hW10⟩:=exF (((W7.alloc (.map #[] 0)).alloc (.cells #[.int .i64 (N:Int),.slice none 0 0,.map (some (B+1))] 140)).alloc (.cells #[.pointer (some ⟨B+1+1,0,none⟩)] 137));rw[<-hW10];have hs10:W10.heap.size=B+4:=by rw[hW10];simp[hs7]
 have hb710:Below W7.heap.size W7 W10:=by rw[hW10];exact(((Below.refl _ W7).alloc (Nat.le_refl _) _).alloc (by simp) _).alloc (by simp;omega) _
 have kM:IM vwV W10 (B+1) []:=by
  rw[hs7] at hmade;refine hmade.keep ?_;rw[hW10];exact(Below.heap_alloc _ _ _ (by simp[hs7])).trans (Below.heap_alloc _ _ _ (by simp[hs7]))
 have kB:W10.heap[B+1+1]? = some (.cells #[.int .i64 (N:Int),.slice none 0 0,.map (some (B+1))] 140):=by
  rw[hW10];have:=heap_alloc_new (W7.alloc (.map #[] 0)) (.cells #[.int .i64 (N:Int),.slice none 0 0,.map (some (B+1))] 140)
  rw[World.size_alloc,hs7] at this;exact(Below.heap_alloc _ _ _ (by simp[hs7])).trans this
 have k8:W10.heap[B+1+1+1]? = some (.cells #[.pointer (some ⟨B+1+1,0,none⟩)] 137):=by
  rw[hW10];have:=heap_alloc_new ((W7.alloc (.map #[] 0)).alloc (.cells #[.int .i64 (N:Int),.slice none 0 0,.map (some (B+1))] 140)) (.cells #[.pointer (some ⟨B+1+1,0,none⟩)] 137)
  rwa [World.size_alloc,World.size_alloc,hs7] at this
 have k7:=keptO hb710 hh7.out;have hU:BuV W10 B (B+1+1) (B+1) (N:Int) []:=⟨_,kB,OwX.nil _ _,kM,List.nodup_nil,by simp,by omega,by omega⟩;have hb110:Below W1.heap.size W1 W10:=btt hb17 hb710;have hb510:Below w5.heap.size w5 W10:=btt hb57 hb710;clear hmade kM kB g0 g1 g2 g3 g4 g5 g6 hh7 hb57 hb17;replace hW10:=qH hW10;obtain⟨g0,g1,g2,g3,g4,g5,g6⟩:=HK.out W10 hb110;go_wp2_with fail
 refine executionsC.mono ?_;rintro e w11 ⟨rfl,hw11⟩;rw[hs10];have hb1011:Below W10.heap.size W10 w11:=by rw[hw11];exact((Below.refl _ _).alloc (Nat.le_refl _) _).alloc (by simp) _
 have hs11:w11.heap.size=B+4+2:=by rw[hw11];simp[hs10]
 have kX:w11.heap[B+4]? = some (.cells #[.int .i64 (N:Int),.int .i64 i,.int .i64 o,.slice (some ⟨cb,co,none⟩) cs.length c,.int .i64 an,.slice a' ss.length c',.int .i64 (k:Int)] 29):=by
  rw[hw11,<-hs10];exact(Below.heap_alloc _ _ _ (by simp)).trans (heap_alloc_new _ _)
 have kY:w11.heap[B+4+1]? = some (.cells #[.slice (some ⟨wb,wo,none⟩) ws.length uc] 133):=by
  rw[hw11];have:=heap_alloc_new (W10.alloc (.cells #[.int .i64 (N:Int),.int .i64 i,.int .i64 o,.slice (some ⟨cb,co,none⟩) cs.length c,.int .i64 an,.slice a' ss.length c',.int .i64 (k:Int)] 29)) (.cells #[.slice (some ⟨wb,wo,none⟩) ws.length uc] 133)
  rwa [World.size_alloc,hs10] at this
 have hb111:Below W1.heap.size W1 w11:=btt hb110 hb1011;have hb511:Below w5.heap.size w5 w11:=btt hb510 hb1011;have hBs1:w.heap.size < B:=by have:=hb15.size;omega
 have hI0:BdI w5 w11 B B (B+1+1+1) (B+1+1) (B+1) N (fun u=>.cells #[.int .i64 (N:Int),.int .i64 i,.int .i64 o,.slice a5 cs.length c5,.int .i64 an,.slice a5' ss.length c5',.int .i64 (k:Int),.int .i64 0,.slice none 0 0,u] 35) [] w11:=
  ⟨by rw[<-hB];exact hb511,fun _ _ _ _ _ _ _ _=>rfl,hU.keep hb1011,⟨none,0,OwX.nil _ _,keptO hb1011 k7⟩,keptO hb1011 k8⟩
 have hexR:∀pre W,BdI w5 w11 B B (B+1+1+1) (B+1+1) (B+1) N (fun u=>.cells #[.int .i64 (N:Int),.int .i64 i,.int .i64 o,.slice a5 cs.length c5,.int .i64 an,.slice a5' ss.length c5',.int .i64 (k:Int),.int .i64 0,.slice none 0 0,u] 35) (List.map (prD cs ws) pre) W->exRd (B+4) (B+4+1) wb wo cs.length ws.length (some ⟨cb,co,none⟩) c uc fw W:=fun pre W h=>by
  refine⟨?_,?_,fun j hj=>?_⟩
  ·exact(box7' ((h.kx _ _ _ kX (by decide) (by decide) (by decide) (by decide)).trans kX)).2.2.2.1
  ·exact cell_of_one ((h.kx _ _ _ kY (by decide) (by decide) (by decide) (by decide)).trans kY)
  ·obtain⟨q1,q2⟩:=hfw.out j hj;obtain⟨xa,xc,hx⟩:=q2.shape;have q3:=cell_kept hb5 q1;refine⟨xa,_,xc,hx,?_⟩;rw[<-hx];exact(h.bl.cell (by show wb < B;rw[<-hB];exact World.block_lt_of_cell? _ _ q3)).trans q3
 clear g0 g1 g2 g3 g4 g5 g6 k7 k8 hU;replace hw11:=qH hw11;replace kX:=qH kX;replace kY:=qH kY;go_wp2_with fail
 refine wpIn_wide.1 (wpIn_rfN2 (gf:=134) (lb:=#[.pointer (some ⟨B+4,0,none⟩),.pointer (some ⟨B+4+1,0,none⟩)]) rfl (enters_of Tryz.func134 (by kernel_rfl) rfl) (exSeq (b1:=B+4) (b2:=B+4+1) (wb:=wb) (wo:=wo) (n:=cs.length) (m:=ws.length) (ca:=some ⟨cb,co,none⟩) (cc:=c) (wc:=uc) (fw:=fw) (by omega) (by have:=Nat.mul_le_mul_right ws.length l1;omega)) (fun _=>rfl)
  (fun pre W=>BdI w5 w11 B B (B+1+1+1) (B+1+1) (B+1) N (fun u=>.cells #[.int .i64 (N:Int),.int .i64 i,.int .i64 o,.slice a5 cs.length c5,.int .i64 an,.slice a5' ss.length c5',.int .i64 (k:Int),.int .i64 0,.slice none 0 0,u] 35) (List.map (prD cs ws) pre) W) (fun _ _ _=>False)
  (fun pre W q o o' hq _ h hqo ho=>h.putObj (fun _ h=>h) (by omega) hqo ho) (fun _ _ _ _ _ _ _ _ h _ _=>h) (fun W o ho h=>h.below (by rw[<-hB];exact h.bl.size) ((Below.refl _ W).alloc (Nat.le_refl _) _)) hexR hI0
  (fun x t=>(((t.setIfInBounds 47 (.int .i64 (x.1:Int))).setIfInBounds 48 (fw x.2)).setIfInBounds 9 (.int .i64 (x.1:Int))).setIfInBounds 10 (fw x.2)) ?assign ?body ?done ?stop)
 case assign=>
  intro l x W K hK;simp only[List.setIfInBounds_toArray,List.set_cons_succ,List.set_cons_zero] at hK;simp only[exEnc];gi_wp2;exact hK
 case body=>
  rintro l pre x W hI ⟨r,hr⟩;obtain⟨hx1,hx2⟩:=ouR_prefix hr;obtain⟨hbl,hkx,hbu,⟨ea,ec,hex,h7W⟩,h8W⟩:=hI;obtain⟨u0,u1,u2,d0,d1,d2,i0,i1,i2⟩:=hcc.out x.1 hx1;obtain⟨q1,q2⟩:=hfw.out x.2 hx2;obtain⟨x0,y0,hs⟩:=i0.shape;subst hs;obtain⟨wd,hwd⟩:=exE (ws.getD x.2 []);rw[hwd] at q2;obtain⟨wa,wc,hwv⟩:=q2.shape;rw[hwv] at q1 q2|-;obtain⟨xi,hxi⟩:=exE ((cs.getD x.1 csNil).1);obtain⟨hxl,hxb⟩:=hin x.1 hx1;rw[hxi] at d0 i0 hxl hxb;have hwm:wd∈ws:=by rw[<-hwd,getD_eq hx2];exact List.getElem_mem hx2
  have hwk:=hwl.out wd hwm;have hwb':=wd_bd (hwb.out wd hwm);simp only[List.setIfInBounds_toArray,List.set_cons_succ,List.set_cons_zero]
  have hpl:pre.length+1<=60:=by
   have h1:(pre++x::r).length=cs.length * ws.length:=by
    rw[hr,<-pairsP_len (cs:=cs) (ws:=ws),<-ouR_map,List.length_map]
   rw[List.length_append,List.length_cons] at h1;omega
  obtain⟨L,hL⟩:=exE (List.map (prD cs ws) pre);have hLl:L.length+1<=60:=by rw[<-hL,List.length_map];exact hpl
  have hLk:∀y∈L,y.2.2.length<=k:=fun y hy=>by
   rw[<-hL] at hy;obtain⟨z,_,rfl⟩:=List.mem_map.1 hy;show(ws.getD z.2 []).length<=k
   by_cases hz:z.2 < ws.length
   ·rw[getD_eq hz];exact Nat.le_of_eq (hwl.out _ (List.getElem_mem hz))
   ·rw[List.getD_eq_getElem?_getD,List.getElem?_eq_none (by omega)];exact Nat.zero_le _
  have hsn:exeL N [] (List.map (prD cs ws) (pre ++ [x]))=((plN N xi wd (exeL N [] L).1 wd.length).1,(exeL N [] L).2 ++ [((x.1:Int),wd,(plN N xi wd (exeL N [] L).1 wd.length).2)]):=by
   rw[List.map_append,List.map_cons,List.map_nil,hL];show exeL N [] (L ++ [((x.1:Int),(cs.getD x.1 csNil).1,ws.getD x.2 [])])=_;rw[hxi,hwd,exeL_snoc]
  rw[hL] at hbu hex h7W;have hvl0:=exeL_le N L [] hLk;have hxn:=exeL_len N L [];have hN5:N * (k+1)<=5 * 7:=Nat.mul_le_mul (by omega) (by omega);have hvl1:L.length * (N * (k+1))<=60 * (5 * 7):=Nat.mul_le_mul (by omega) hN5;obtain⟨vs,hvs⟩:=exE ((exeL N [] L).1);obtain⟨xs,hxs⟩:=exE ((exeL N [] L).2);rw[hvs,hxs] at hsn;rw[hvs] at hbu hvl0;rw[hxs] at hex h7W hxn;have hvl:vs.length<=2100:=by simp only[List.length_nil] at hvl0;omega
  have hpv:(plN N xi wd vs wd.length).1.length<=8000:=by
   have h1:=plN_le N xi wd vs wd.length;have h2:N * (wd.length+1)<=5 * 7:=Nat.mul_le_mul (by omega) (by omega);omega
  have hxn':xs.length<=60:=by omega
  have hbl5:Below w.heap.size w w5:=btt hb1 hb15;have c3:=(hbl.cell (p:=⟨w.heap.size,3,none⟩) hBs1).trans (HK.out w5 hb15).2.2.2.1;have ci:=(hbl.cell (p:=⟨cb,co+x.1 * 3,none⟩) (by show cb < B;omega)).trans (cell_kept hbl5 d0);have HR:=qH (And.intro (i0.keep hbl5) (And.intro (q2.keep hb5) (And.intro hex (And.intro h7W (And.intro h8W (And.intro c3 ci))))));have hsn':=qH hsn;clear hvs hxs hL hLk hvl0 hvl1 hN5 hLl hpl d0 d1 d2 i0 i1 i2 q1 q2 hex h7W h8W c3 ci hsn hr;gi_wp2;obtain⟨r1,r2,r3,r4,r5,r6,r7⟩:=HR.out;refine regBuild14 (w0:=w5) (bb:=B+1+1) (mb:=B+1) (N:=N) (xi:=xi) (xs:=xs) (vs:=vs) (by rintro⟨a,wx,h⟩;first|exact h|(obtain⟨h,_⟩:=h;cases h;done)|(obtain⟨_,h,_⟩:=h;cases h;done)) (by rw[hB];exact hbl) hB hbu r1 (by omega) (fun j _=>hxb j) r2 (by omega) (fun k' _ p _=>hwb' k' (1+p)) ⟨by omega,by omega⟩ (by omega) r6 r7 hBs1 (by omega) hx1 r4 r5 r3 (by omega) (Nat.le_refl _) ?_;rintro y4 y14 y15 y16 y17 y19 W2 ⟨G1,G2,-,G4,-,G6,-,G8,G9,G10⟩ - - - - - -;obtain⟨⟨ea',ec',rfl⟩,hO17⟩:=G6 rfl;have hU2:=G4 rfl;have h72:=G8 rfl;obtain⟨vv,kb,ko,-⟩:=id hU2;obtain⟨va,vc,hvv⟩:=ko.shape;subst hvv;have c8:=cell_of_one G9;have cb1:W2.cell? ⟨B+1+1,1,none⟩=some (.slice va (plN N xi wd vs wd.length).1.length vc):=by rw[cell_of_row _ _ 1 _ _ _ kb];rfl
  have hfin:BdI w5 w11 B B (B+1+1+1) (B+1+1) (B+1) N (fun u=>.cells #[.int .i64 (N:Int),.int .i64 i,.int .i64 o,.slice a5 cs.length c5,.int .i64 an,.slice a5' ss.length c5',.int .i64 (k:Int),.int .i64 0,.slice none 0 0,u] 35) (List.map (prD cs ws) (pre ++ [x])) W2:=by
   refine⟨hbl.trans G1,hkx.trans G10,by rw[hsn'.out];exact hU2,⟨ea',ec',?_,?_⟩,G9⟩
   ·rw[hsn'.out];simp only[List.length_append,List.length_cons,List.length_nil];exact hO17
   ·rw[hsn'.out];simp only[List.length_append,List.length_cons,List.length_nil];exact h72
  replace hfin:=qH hfin;obtain⟨pl,hpl⟩:=exE ((plN N xi wd vs wd.length).1.length);rw[hpl] at cb1 hpv;have dv:decide ((8192:Int) < (pl:Int))=false:=decide_eq_false (by omega);clear G4 G6 G8 r1 r2 r3 r4 r5 r6 r7 kb ko hO17 h72 hU2 G9 G10 G1 hpl;gi_wp2;exact⟨G2,hfin.out⟩
 case done=>
  intro d xs W hS hI hd hdef;rw[hS,ouR_map] at hI;obtain⟨hbl,hkx,hbu,⟨ea,ec,hex,h7W⟩,h8W⟩:=hI;obtain⟨vs,hvs⟩:=exE ((exeL N [] (pairsP cs ws)).1);obtain⟨xs',hxs⟩:∃xs,(exeL N [] (pairsP cs ws)).2=xs:=⟨_,rfl⟩;have hsy:sysP N cs ws=(vs,xs'):=by rw[<-hvs,<-hxs];rfl
  rw[hvs] at hbu;rw[hxs] at hex h7W;obtain⟨vv,kb,ko,-⟩:=id hbu;obtain⟨va,vc,hvv⟩:=ko.shape;subst hvv;have c8:=cell_of_one h8W;have cb0:W.cell? ⟨B+1+1,0,none⟩=some (.int .i64 (N:Int)):=by rw[cell_of_row _ _ 0 _ _ _ kb];rfl
  have cb1:W.cell? ⟨B+1+1,1,none⟩=some (.slice va vs.length vc):=by rw[cell_of_row _ _ 1 _ _ _ kb];rfl
  obtain⟨⟨z0,z1,z2,z3,z4,z5,z6⟩,z7,z8,z9⟩:=box10' h7W;have fz:=row_free h7W;have hkx8:W.drew.heap[B]? = W.heap[B]?:=rfl;clear z0 z1 z2 z3 z4 z5 z6 z9;go_wp2;go_still_tail 10,(by kernel_rfl)
  change wpList _ _ _ _ _ W.drew;go_upto_region 18 with fail
  refine storeMid10 (u7:=.int .i64 (N:Int)) (u8:=.slice va vs.length vc) h7W ?_;intro W20 hW20 hbl20 hX20 h20 ho20;rw[<-hW20];replace hW20:=qH hW20;clear z7 z8 fz c8 cb0 cb1;have hbB:Below w5.heap.size w5 W:=by rw[hB];exact hbl
  have hS20:W20.drew.heap[w.heap.size+1]? = some (.cells #[.int .i64 0,.int .i64 0,.int .i64 0,.slice none 0 0,.int .i64 0,.slice none 0 0,.int .i64 0,.int .i64 0,.slice none 0 0,.slice none 0 0] 35):=
   (ho20 (w.heap.size+1) (by have:=hb15.size;omega)).trans (keptO hbB (keptO hb15 hkS.out))
  have hE20:W20.drew.heap[w.heap.size+1+1]? = some (.cells #[.int .i64 0] 41):=
   (ho20 (w.heap.size+1+1) (by have:=hb15.size;omega)).trans (keptO hbB (keptO hb15 hkE.out))
  have h20':W20.drew.heap[B]? = some (.cells #[.int .i64 (N:Int),.int .i64 i,.int .i64 o,.slice a5 cs.length c5,.int .i64 an,.slice a5' ss.length c5',.int .i64 (k:Int),.int .i64 (N:Int),.slice va vs.length vc,.slice ea xs'.length ec] 35):=h20;obtain⟨⟨z0,z1,z2,z3,z4,z5,z6⟩,z7,z8,z9⟩:=box10' h20';obtain⟨⟨s0,s1,s2,s3,s4,s5,s6⟩,s7,s8,s9⟩:=box10' hS20;have s10:=cell_of_one hE20;have fz1:=row_free hS20;have fz2:=row_free hE20;have hS21:W20.heap[w.heap.size+1]? = some (.cells #[.int .i64 0,.int .i64 0,.int .i64 0,.slice none 0 0,.int .i64 0,.slice none 0 0,.int .i64 0,.int .i64 0,.slice none 0 0,.slice none 0 0] 35):=hS20;have hE21:W20.heap[w.heap.size+1+1]? = some (.cells #[.int .i64 0] 41):=hE20;obtain⟨⟨y0,y1,y2,y3,y4,y5,y6⟩,y7,y8,y9⟩:=box10' hS21;have y10:=cell_of_one hE21;have fz3:=row_free hS21;have fz4:=row_free hE21;go_wp2;refine storeEnd10 (u0:=.int .i64 (N:Int)) (u1:=.int .i64 i) (u2:=.int .i64 o) (u3:=.slice a5 cs.length c5) (u4:=.int .i64 an) (u5:=.slice a5' ss.length c5') (u6:=.int .i64 (k:Int)) (u7:=.int .i64 (N:Int)) (u8:=.slice va vs.length vc) (u9:=.slice ea xs'.length ec) hS21 ?_;intro W21 hW21 hbl21 hX21 h21 ho21;rw[<-hW21];obtain⟨W22,hW22⟩:=exF (W21.setCell ⟨w.heap.size+1+1,0,none⟩ (.int .i64 0));rw[<-hW22];have hB1:w.heap.size+3<=B:=by have:=hb15.size;omega
  have hdB:B+6<=d:=by omega
  have hE22:W21.heap[w.heap.size+1+1]? = some (.cells #[.int .i64 0] 41):=(ho21 _ (by omega)).trans hE21;have ho22:∀q,q ≠ w.heap.size+1+1->W22.heap[q]? = W21.heap[q]?:=fun q hq=>by rw[hW22];exact Below.heap_setCell _ ⟨w.heap.size+1+1,0,none⟩ _ q hq
  have hd22:W22.drew.heap[d]? = some (.deferred (some [])):=(ho22 d (by omega)).trans ((ho21 d (by omega)).trans ((ho20 d (by omega)).trans hdef));obtain⟨WF,hWF⟩:=exF (W22.drew.putObj d (.deferred none))
  have hcF:WF.heap[w.heap.size+1]? = some (.cells #[.int .i64 (N:Int),.int .i64 i,.int .i64 o,.slice a5 cs.length c5,.int .i64 an,.slice a5' ss.length c5',.int .i64 (k:Int),.int .i64 (N:Int),.slice va vs.length vc,.slice ea xs'.length ec] 35):=by
   rw[hWF];exact(World.putObj_heap_other (by omega)).trans ((ho22 _ (by omega)).trans h21)
  have heF:WF.heap[w.heap.size+1+1]? = some (.cells #[.int .i64 0] 41):=by
   rw[hWF];refine(World.putObj_heap_other (by omega)).trans ?_;show W22.heap[w.heap.size+1+1]? = _;rw[hW22];exact one_setCell hE22
  have hx2:KeepX 35 W W21:=hX20.trans hX21
  have hx3:KeepX 41 W21 WF:=by
   rw[hWF];refine KeepX.trans ?_ (KeepX.putObjLo (W:=W22.drew) hd22 trivial);have:=KeepX.setCell (p:=⟨w.heap.size+1+1,0,none⟩) hE22 (.int .i64 0)
   rw[<-hW22] at this;exact this.trans (fun _ _ _ _ _=>rfl)
  have hPF:=((((hPO.out).other (E:=35) (by decide) (by decide) (by decide) (by decide) (by decide) (KeepX.below hbB)).other (by decide) (by decide) (by decide) (by decide) (by decide) hx2).other (by decide) (by decide) (by decide) (by decide) (by decide) hx3).pr (by omega) hsn0 (few_sm hft) hsl'.out
  have hVF:=((ko.other (EI.stab _) (by decide) hx2).other (EI.stab _) (by decide) hx3).ks (by
   have h1:=exeL_le N (K:=k) (pairsP cs ws) [] (fun y hy=>Nat.le_of_eq (hwl.out _ (pairsP_word hy)));have h2:(pairsP cs ws).length * (N * (k+1))<=60 * (5 * 7):=Nat.mul_le_mul (by rw[pairsP_len];exact hMl) (Nat.mul_le_mul (by omega) (by omega));rw[hvs] at h1;simp only[List.length_nil] at h1;omega)
  have hxn:=exeL_len N (pairsP cs ws) [];rw[hxs,pairsP_len] at hxn
  have hXF:=((hex.other (EEx.stab (by decide) (by decide) (by decide)) (by decide) hx2).other (EEx.stab (by decide) (by decide) (by decide)) (by decide) hx3).exs (by omega) (fun y hy=>by
   rw[<-hxs] at hy;obtain⟨⟨z,hz,e⟩,h2,h3⟩:=exeL_bd N _ _ y hy;have h4:=hwl.out _ (pairsP_word hz);exact⟨by rw[e];omega,by rw[h2,e];omega,fun r hr=>by rw[h3 r hr];omega⟩)
  have hbF:Below w.heap.size w WF:=by
   have h1:Below w.heap.size w W20:=hbl20 _ _ (by omega) (btt (btt hb1 hb15) hbB);have h2:Below w.heap.size w W21:=hbl21 _ _ (by omega) h1;rw[hWF];refine below_putObj (below_drewN ?_ 1) (by omega) _;rw[hW22];exact h2.setCell (p:=⟨w.heap.size+1+1,0,none⟩) (by show w.heap.size<=w.heap.size+1+1;omega) _
  refine⟨by simp,.inl ⟨_,_,rfl,run_takeDeferred hd22,?_⟩⟩;rw[<-hWF];refine⟨_,results_sys rfl _ _ _ _ 0 rfl rfl hcF (cell_of_one heF),_,rfl,?_,hbF⟩;rw[hsy];exact⟨_,_,_,_,_,_,_,_,rfl,hPF,hVF,hXF⟩
 case stop=>
  intro d c pre W h;exact h.elim
end Go.Proofs.YtcnedkkcgdkioaaGreat
