/- Texts of this claim, put together: E2 E3 E4 B0 B1 Itb B3. -/
import Derived.Test.YtcnedkkcgdkioaaGreatKAd
import Derived.OwnWalkIn
import Derived.RangeFuncBox
import Derived.Sort.LoopGhostIn
import Derived.TacticsInMore
import Derived.LoopNIn
import Derived.LoopIn
import Derived.Shelf.RegionOpen
import Derived.Laws.Rows

set_option maxRecDepth 100000
set_option maxHeartbeats 12800000
namespace Go.Proofs.YtcnedkkcgdkioaaGreat
open Go.RowKit Go.ChangeMaps Go.MapKept
theorem OwX.intCells {E:TypeId}{k:Nat}{w:World}{B g n cap:Nat}{xs:List (List Int)}(h:OwX E k EI w B (.slice (some ⟨g,0,none⟩) n cap) n xs) {j:Nat}(hj:j < n):(xs.getD j []).length=k∧CI w g (j * k) (xs.getD j []):=by
 have hl:=h.length;obtain⟨cs,h1,h2,h3⟩:=h.cells (x:=xs.getD j []) (j:=j) (by rw[getD_eq (by omega)];exact List.getElem?_eq_some_iff.2 ⟨by omega,rfl⟩);have h2:cs=(xs.getD j []).map (Value.int .i64):=h2;have h1':=h1;rw[h2,List.length_map] at h1';refine⟨h1',fun i hi=>h3 i _ ?_⟩;rw[h2,List.getElem?_map,List.getElem?_eq_some_iff.2 ⟨hi,rfl⟩,getD_eq hi];rfl
theorem OwX.ks {E:TypeId}{k:Nat}{w:World}{B n:Nat}{v:Value}{xs:List (List Int)}(h:OwX E k EI w B v n xs) (hn:n≤2199023255552):KS k w v xs:=by
 obtain rfl:=h.length;rcases Nat.eq_zero_or_pos xs.length with h0|h0
 ·obtain⟨a,c,rfl⟩:=h.shape;obtain rfl:=List.length_eq_zero_iff.1 h0;exact KS.nil k w a c
 ·obtain⟨g,cap,rfl,_⟩:=h.form h0;refine⟨_,cap,g,0,rfl,fun _=>rfl,fun j hj=>?_,hn⟩;rw[Nat.zero_add];exact h.intCells hj
def ESt (w:World) (cs:List Value) (x:List (List Int)):Prop:=∃u,cs = [u]∧OwX 178 8 EI w 0 u x.length x
theorem ESt.stab {E:TypeId}(h:178 ≠ E):Stab E ESt:=fun _ _ _ _ ⟨u,h1,h2⟩ hx=>⟨u,h1,h2.other (EI.stab _) h hx⟩
theorem KeepX.setCell {E:TypeId}{w:World}{p:Addr}{cs:Array Value}(h:w.heap[p.block]? = some (.cells cs E)) (v:Value):KeepX E w (w.setCell p v):=fun k cs' t hk ht=>by
 refine Below.heap_setCell _ _ _ _ fun e=>?_;subst e;rw[h] at hk;injection hk with hk;injection hk with _ hk;exact ht hk.symm
theorem mem_movesN {ss:List (List (List Int))}{ms:List (List Int)}(h:ms∈ss):ms.length≤movesN ss:=by
 obtain⟨a,b,rfl⟩:=List.append_of_mem h;rw[movesN_app,show ms::b = [ms]++b from rfl,movesN_app];have:movesN [ms]=ms.length:=by simp[movesN]
 omega
open Go.RowKit Go.ChangeMaps Go.MapKept
theorem row_free {w:World}{b:Nat}{cs:Array Value}{t:TypeId}(h:w.heap[b]? = some (.cells cs t)) (j:Nat):w.frozen? ⟨b,j,none⟩=false:=by simp[World.frozen?,h]
end Go.Proofs.YtcnedkkcgdkioaaGreat
namespace Go.Proofs.YtcnedkkcgdkioaaGreat
open Go.RowKit
theorem takes_next {α:Type}{xs ys:List α}{i:Nat}(h:xs.take i=ys.take i) (hx:i < xs.length) (hy:i < ys.length) {d:α}(he:xs.getD i d=ys.getD i d):xs.take (i+1)=ys.take (i+1):=by
 rw[take_snoc hx d,take_snoc hy d,h,he]
theorem takes_all {α:Type}{xs ys:List α}{i:Nat}(h:xs.take i=ys.take i) (hx:i=xs.length) (hy:i=ys.length):xs=ys:=by
 have h1:xs.take i=xs:=List.take_of_length_le (by omega);have h2:ys.take i=ys:=List.take_of_length_le (by omega);rw[←h1,←h2,h]
theorem Qt.step {a b:World}(h:Qt a b) (n:Nat):Qt a (b.drewN n):=h.trans (Qt.mk' b n)
attribute [local go_sem] Oper.semAt_some
def mvs:Nat→List (List (List Int))→List (Nat × List Int)
 | _,[]=>[]
 | s,l::r=>l.map (fun m=>(s,m))++mvs (s+1) r
def mvEnc (x:Nat × List Int):Array Value:=#[.int .i64 (x.1:Int),.agg (x.2.map (Value.int .i64)).toArray]
def mvR (L pre:List (Nat × List Int)) (x:Nat × List Int) (_:World):Prop:=∃r,pre++x::r=L
theorem mvs_step {ss:List (List (List Int))}{k:Nat}(h:k < ss.length) {ms:List (List Int)}(hm:ss.getD k []=ms):mvs k (ss.drop k)=(ms.drop 0).map (fun m=>(k,m))++mvs (k+1) (ss.drop (k+1)):=by
 rw[drop_cons h [],hm,mvs,List.drop_zero]
theorem mvs_in {ms:List (List Int)}{i k:Nat}(h:i < ms.length) {m:List Int}(hm:ms.getD i []=m):(ms.drop i).map (fun m=>(k,m))=(k,m)::(ms.drop (i+1)).map (fun m=>(k,m)):=by
 rw[drop_cons h [],hm,List.map_cons]
theorem mvSeq {wA w0:World}{sv:Value}{ss:List (List (List Int))}{Bx:Nat}(hK:KSS 8 wA sv ss) (hbA:Below wA.heap.size wA w0) (hc0:w0.cell? ⟨Bx,1,none⟩=some sv) :
  SeqOK Tryz.prog 247 #[.pointer (some ⟨Bx,0,none⟩)] mvEnc (mvR (mvs 0 ss)) (fun xs=>xs=mvs 0 ss) (fun _=>True) (mvs 0 ss).length (fun k=>k=Bx∨k < wA.heap.size) w0:=by
 intro l J Jx D W hb hBd hDC hJ hJx hY h0;have hBx : ¬D Bx:=fun h=>hDC _ h (.inl rfl);have hAn:∀k,k < wA.heap.size→¬D k:=fun k hk h=>hDC _ h (.inr hk);have hcW:=cell_kept hb hc0;have hbW:Below wA.heap.size wA W:=bt hbA hb hbA.size;obtain⟨sa,sc,sb,so,rfl,hsa,hsc,hsl⟩:=hK;clear hDC hc0 hb hbA;replace hJ:=qH hJ;replace hJx:=qH hJx;replace hY:=qH hY;show CallsIn Fence.wide 0 Tryz.prog 247 #[.func (.yield l) #[] #[],.pointer (some ⟨Bx,0,none⟩)] W _;refine callsIn_of_wp Tryz.func247 rfl trivial ?_
 simp only[Tryz.ntmps247,List.size_toArray,List.length_cons,List.length_nil,Nat.reduceAdd,Nat.reduceSub,Array.replicate_succ,
   Array.replicate_zero,List.push_toArray,List.append_toArray,List.nil_append,List.cons_append]
 gi_wp2;have hOn0:Only D W W:=Only.refl _ _;have hGr0:Gr D W D:=Gr.refl _ _;replace hsc:=qH hsc;replace hcW:=qH hcW;obtain⟨L,hL⟩:=exE (mvs 0 ss);rw[hL] at hY;have hL0:Hid ([]++mvs 0 (ss.drop 0)=L):=by show _=_;rw[List.drop_zero,List.nil_append];exact hL
 replace hL:=qH hL;obtain⟨wo,hwo⟩:=exF (W);have h00:J [] D wo:=by rw[hwo];exact h0
 have hBd0:Bd D wo:=by rw[hwo];exact hBd
 have hOn0:Only D W wo:=by rw[hwo];exact hOn0
 rw[←hwo];clear hwo h0 hBd;gi_loopw [10] (fun kv wr=>∃(k:Nat) (pre:List (Nat × List Int)) (D1:Nat→Prop),kv = .int .i64 k∧k≤ss.length∧J pre D1 wr∧Bd D1 wr∧Only D W wr∧Gr D W D1∧Hid (pre++mvs k (ss.drop k)=L)) (fun kv _=>ss.length - (intOf kv).toNat)
 case atStart=>exact⟨0,[],D,rfl,by omega,h00,hBd0,hOn0,hGr0,hL0⟩
 case round=>
  clear h00 hBd0 hOn0 hGr0 hL0;obtain⟨k,pre,D1,rfl,hk,hJk,hBk,hOn,hGr,hp⟩:=hrel;by_cases hlt:k < ss.length
  ·obtain rfl:=hsa (by omega);obtain⟨u,hcu,hu⟩:=hsc.out k hlt;have hlu:=World.block_lt_of_cell? wA _ hcu;have hcu2:wr.cell? ⟨sb,so+k,none⟩=some u:=hOn.cell (p:=⟨sb,so+k,none⟩) (hAn _ hlu) (cell_kept hbW hcu);obtain⟨ms,hms⟩:=exE (ss.getD k []);rw[hms] at hu;have hp1:Hid (pre++((ms.drop 0).map (fun m=>(k,m))++mvs (k+1) (ss.drop (k+1)))=L):=(by show _=_;rw[←mvs_step hlt hms];exact hp);obtain⟨ma,mc,mb,mo,rfl,hma,hmc,hml⟩:=hu;clear hp hms hcu hlu;replace hmc:=qH hmc;gi_wp2;gi_loopw [17] (fun iv wr=>∃(i:Nat) (pre:List (Nat × List Int)) (D1:Nat→Prop),iv = .int .i64 i∧i≤ms.length∧J pre D1 wr∧Bd D1 wr∧Only D W wr∧Gr D W D1∧Hid (pre++((ms.drop i).map (fun m=>(k,m))++mvs (k+1) (ss.drop (k+1)))=L)) (fun iv _=>ms.length - (intOf iv).toNat)
   case atStart=>exact⟨0,pre,D1,rfl,by omega,hJk,hBk,hOn,hGr,hp1⟩
   case round=>
    clear hp1 hJk hBk hOn hGr hcu2;obtain⟨i,pre,D1,rfl,hi,hJk,hBk,hOn,hGr,hp⟩:=hrel;by_cases hlti:i < ms.length
    ·obtain rfl:=hma (by omega);obtain⟨hx8,hxc⟩:=hmc.out i hlti;obtain⟨x,hx⟩:=exE (ms.getD i []);have hp1:Hid (pre++((k,x)::((ms.drop (i+1)).map (fun m=>(k,m))++mvs (k+1) (ss.drop (k+1))))=L):=(by show _=_;rw[←List.cons_append,←mvs_in hlti hx];exact hp);rw[hx] at hx8 hxc;obtain⟨y0,y1,y2,y3,y4,y5,y6,y7,rfl⟩:=eight hx8;obtain⟨c0,c1,c2,c3,c4,c5,c6,c7⟩:=hxc.all8;have hmn : ¬D mb:=hAn _ (World.block_lt_of_cell? wA _ c0);have e0:=hOn.cell (p:=⟨mb,_,none⟩) hmn (cell_kept hbW c0);have e1:=hOn.cell (p:=⟨mb,_,none⟩) hmn (cell_kept hbW c1);have e2:=hOn.cell (p:=⟨mb,_,none⟩) hmn (cell_kept hbW c2);have e3:=hOn.cell (p:=⟨mb,_,none⟩) hmn (cell_kept hbW c3);have e4:=hOn.cell (p:=⟨mb,_,none⟩) hmn (cell_kept hbW c4);have e5:=hOn.cell (p:=⟨mb,_,none⟩) hmn (cell_kept hbW c5);have e6:=hOn.cell (p:=⟨mb,_,none⟩) hmn (cell_kept hbW c6);have e7:=hOn.cell (p:=⟨mb,_,none⟩) hmn (cell_kept hbW c7);clear c0 c1 c2 c3 c4 c5 c6 c7 hxc hx8 hx hp;have hbn:=(Below.refl wr.heap.size wr).alloc (Nat.le_refl _) (.cells #[.int .i64 y0,.int .i64 y1,.int .i64 y2,.int .i64 y3,.int .i64 y4,.int .i64 y5,.int .i64 y6,.int .i64 y7] 178);have hOn2:=hOn.thenBelow (hbn.mono (by have:=hOn.size;omega));have hBk2:Bd D1 (wr.alloc (.cells #[.int .i64 y0,.int .i64 y1,.int .i64 y2,.int .i64 y3,.int .i64 y4,.int .i64 y5,.int .i64 y6,.int .i64 y7] 178)):=fun q hq=>Nat.lt_of_lt_of_le (hBk q hq) hbn.size;have hJk2:=hJ.out _ _ _ _ hJk hbn.size (fun q hq=>hbn.block q (hBk q hq));have hlen:pre.length < L.length:=(by rw[←hp1.out];simp);have hRx:mvR L pre (k,[y0,y1,y2,y3,y4,y5,y6,y7]) (wr.alloc (.cells #[.int .i64 y0,.int .i64 y1,.int .i64 y2,.int .i64 y3,.int .i64 y4,.int .i64 y5,.int .i64 y6,.int .i64 y7] 178)):=⟨_,hp1.out⟩;obtain⟨fn,tmps,assign,body,hy,hR⟩:=hY.out pre (k,[y0,y1,y2,y3,y4,y5,y6,y7]) D1 _ hJk2 hBk2 hOn2 hGr hRx hlen;simp only[mvEnc,List.map] at hy hR;replace hR:=qH hR;clear hJk hlen hRx hBk;gi_wp2;refine⟨rfl,hR.out.mono ?_⟩;rintro e W' ⟨D',hO',hG',hB',(⟨rfl,hJ'⟩|⟨rfl,hJ'⟩)⟩
     ·clear e0 e1 e2 e3 e4 e5 e6 e7 hy hR;have hOn3:=hOn2.trans hO' hGr;have hGr3:=hGr.trans hG' hOn2.size;gi_wp2;go_roundw
      case rel=>exact⟨i+1,_,D',by go_num,hlti,hJ',hB',hOn3,hGr3,by show _=_;rw[List.append_assoc];exact hp1.out⟩
      case measure=>simp[intOf];omega
     ·gi_wp2;refine bodyPost_ret (results_none rfl _ _ _) rfl ?_;exact⟨⟨_,rfl⟩,D',hOn2.trans hO' hGr,hGr.trans hG' hOn2.size,hB',.inr ⟨_,trivial,hJ'⟩⟩
    ·obtain rfl:i=ms.length:=(by omega);have hp1:Hid (pre++mvs (k+1) (ss.drop (k+1))=L):=(by show _=_;rw[←hp.out,List.drop_length];rfl);clear hp;gi_wp2;go_roundw
     case rel=>exact⟨k+1,pre,D1,by go_num,hlt,hJk,hBk,hOn,hGr,hp1⟩
     case measure=>simp[intOf];omega
  ·obtain rfl:k=ss.length:=(by omega);have hpe:pre=L:=(by rw[←hp.out,List.drop_length,mvs,List.append_nil]);have hpf:=qH (hpe.trans hL.out.symm);clear hJ hJx hY hpe hp hL;gi_wp2;first|refine bodyPost_end (results_none rfl _ _ _) rfl ?_|refine bodyPost_ret (results_none rfl _ _ _) rfl ?_
   exact⟨⟨_,rfl⟩,D1,hOn,hGr,hBk,.inl ⟨_,hpf.out,hJk⟩⟩
attribute [local go_sem] Oper.semAt_some
def Box1 (Bn:Nat) (D:Nat→Prop) (W:World) (n:Int):Prop:=(∀k,D k↔k=Bn)∧W.heap[Bn]? = some (.cells #[.int .i64 n] 3 (0,0))
theorem Box1.stable {α:Type}(Bn:Nat) (f:List α→Int):Stable (fun pre D W=>Box1 Bn D W (f pre)):=fun _ _ _ _ h _ hk=>⟨h.1,(hk Bn ((h.1 Bn).2 rfl)).trans h.2⟩
theorem mvs_length:∀(ss:List (List (List Int))) (k:Nat),(mvs k ss).length=movesN ss
 | [],_=>rfl
 | l::r,k=>by rw[mvs,List.length_append,List.length_map,mvs_length r];rfl
theorem mvR_put {L:List (Nat × List Int)}(pre:List (Nat × List Int)) (x:Nat × List Int) (W:World) (k:Nat) (r:Loop) (o:Obj) (h:mvR L pre x W) (_:W.heap[k]? = some (.loop r)):mvR L pre x (W.putObj k o):=h
def szE (ss:List (List (List Int))):Int:=if ss.length < 1∨256 < ss.length∨4096 < movesN ss then 5 else 0
theorem movesCall (n:Int) (sa:Option Addr) (l c:Nat) (w:World):Calls Tryz.prog 219 #[.agg #[.int .i64 n,.slice sa l c]] w fun e w'=>
  e = .returned (.func (.func 247) #[] #[.pointer (some ⟨w.heap.size,0,none⟩)])∧w'=w.alloc (.cells #[.int .i64 n,.slice sa l c] 27):=by
 go_enter Tryz.func219, Tryz.ntmps219
 go_wp2;go_ret;exact⟨rfl,rfl⟩
theorem sized {w:World}{v:Value}{n:Int}{ss:List (List (List Int))}(hA:AdvV w v n ss) (hN:movesN ss≤1000000000) :
  Calls Tryz.prog 217 #[v] w fun e w'=>e = .returned (.int .i64 (szE ss))∧Below w.heap.size w w':=by
 obtain⟨sv,rfl,hK⟩:=hA;obtain⟨sa,sc,hsv⟩:=hK.shape;have hsl:ss.length≤5864062014805:=by obtain⟨_,_,_,_,_,_,_,h⟩:=hK;exact h
 refine callsIn_wide.1 (callsIn_of_wp_marks (n:=0) Tryz.func217 rfl trivial ?_);simp only[Tryz.ntmps217,List.size_toArray,List.length_cons,List.length_nil,Nat.reduceAdd,Nat.reduceSub,Array.replicate_succ,Array.replicate_zero,List.push_toArray,List.append_toArray,List.nil_append,List.cons_append];subst hsv;refine wpIn_wide.2 ?_;go_wp2_with (go_at_call 219;refine(movesCall _ _ _ _ _).mono ?_;rintro e w2 ⟨rfl,rfl⟩)
 obtain⟨wL,hwL⟩:=exF (((w.alloc (.cells #[.int .i64 n,.slice sa ss.length sc] 27)).alloc (.cells #[.int .i64 0] 3)).alloc (.cells #[.int .i64 n,.slice sa ss.length sc] 27));obtain⟨N,hNe⟩:=exF (w.heap.size);have hsL:wL.heap.size=N+3:=by rw[hwL,hNe];simp
 have hbW:Below w.heap.size w wL:=by rw[hwL];exact(((Below.refl _ w).alloc (Nat.le_refl _) _).alloc (by simp) _).alloc (by simp;omega) _
 have hBa:wL.heap[N]? = some (.cells #[.int .i64 n,.slice sa ss.length sc] 27):=by
  rw[hwL,hNe];exact(Below.heap_alloc _ _ _ (by simp;omega)).trans ((Below.heap_alloc _ _ _ (by simp)).trans (World.alloc_heap_new w _))
 have hBn:wL.heap[N+1]? = some (.cells #[.int .i64 0] 3 (0,0)):=by
  rw[hwL,hNe];refine(Below.heap_alloc _ _ _ (by simp)).trans ?_;have:=World.alloc_heap_new (w.alloc (.cells #[.int .i64 n,.slice sa ss.length sc] 27)) (.cells #[.int .i64 0] 3)
  rwa [World.size_alloc] at this
 have hBx:wL.heap[N+2]? = some (.cells #[.int .i64 n,.slice sa ss.length sc] 27):=by
  rw[hwL,hNe];have:=World.alloc_heap_new ((w.alloc (.cells #[.int .i64 n,.slice sa ss.length sc] 27)).alloc (.cells #[.int .i64 0] 3)) (.cells #[.int .i64 n,.slice sa ss.length sc] 27)
  simpa only [World.size_alloc] using this
 have hcx:wL.cell? ⟨N+2,1,none⟩=some (.slice sa ss.length sc):=box_cell hBx rfl;rw[←hwL,←hNe];have hbWN:Below N w wL:=hNe▸hbW;have hwN:w.heap.size=N:=hNe.symm;clear hwL hNe;have hML:=mvs_length ss 0
 refine wpIn_wide.1 (wpIn_rf (gf:=247) (lb:=#[.pointer (some ⟨N+2,0,none⟩)]) rfl (enters_of Tryz.func247 (by kernel_rfl) rfl) (mvSeq hK hbW hcx) (Below.refl _ _) (fun _=>rfl) mvR_put
  (fun pre D W=>Box1 (N+1) D W pre.length) (fun _ _ _ _=>False) (Box1.stable (N+1) (fun pre:List (Nat × List Int)=>(pre.length:Int))) (fun _ _ _ _ _ h _ _=>h)
  (fun k=>k=N+1) (fun k hk=>by rw[hk];omega) (fun k hk=>by omega) (fun k hk=>by omega) ⟨fun _=>Iff.rfl,hBn⟩
  (fun x=>{ tmps:=#[.agg #[.int .i64 n,.slice sa ss.length sc],.pointer (some ⟨N,0,none⟩),.int .i64 0,.pointer (some ⟨N+1,0,none⟩),.agg #[.int .i64 n,.slice sa ss.length sc],.func (.func 247) #[] #[.pointer (some ⟨N+1+1,0,none⟩)],.int .i64 x.1,.agg (x.2.map (Value.int .i64)).toArray,undef,undef,undef,undef,undef,undef,undef,undef,undef,undef,undef,undef,undef,undef,undef,undef],defers:=[] }) ?assign ?body ?done ?stop)
 case assign=>
  intro l x W K hK;unfold mvEnc;gi_wp2;simp only[List.zip_toArray,List.zip_cons_cons,List.zip_nil_right,List.foldl_toArray,List.foldl_cons,List.foldl_nil,List.setIfInBounds_toArray,List.set_cons_succ,List.set_cons_zero];exact hK
 case body=>
  rintro l pre ⟨s,m⟩ D W ⟨hD,hbox⟩ hBd hOn hGr ⟨r,hr⟩ hlen;have hcn:=cell_of_one hbox;have hfn:=free_of_one hbox;have hset:=one_setCell (u:=.int .i64 (↑pre.length+1)) hbox;have hle:pre.length≤1000000000:=by omega
  clear hr hOn hGr hBn hBx hcx hBa hlen hML;gi_wp2;refine⟨D,(Only.refl D W).setCell (p:=⟨N+1,0,none⟩) ((hD (N+1)).2 rfl) _,Gr.refl _ _,fun i hi=>by have:=hBd i hi;simpa [World.setCell] using this,⟨hD,?_⟩⟩;rw[List.length_append,List.length_singleton];exact hset
 case done=>
  intro d xs D W hS hI hOn hGr hd hnd hdef;obtain⟨hD,hbox⟩:=hI;have hcn:=cell_of_one hbox;rw[hS,hML] at hcn;have hbE:Below w.heap.size w (W.putObj d (.deferred none)):=below_putObj (hbW.trans (hOn.below hbW.size (fun i hi=>by omega))) (by omega) _;have kA:W.heap[N]? = some (.cells #[.int .i64 n,.slice sa ss.length sc] 27):=(hOn.same N (by omega) (by omega)).trans hBa;have k1:W.cell? ⟨N,1,none⟩=some (.slice sa ss.length sc):=box_cell kA rfl;clear hbox hBx hBn hcx hBa kA hK hOn hGr hML;obtain⟨M,hM⟩:=exE (movesN ss);obtain⟨q,hq⟩:=exE (ss.length);have hE:szE ss=if q < 1∨256 < q∨4096 < M then 5 else 0:=by rw[szE,hM,hq]
  rw[hM] at hcn hN;rw[hq] at k1 hsl;replace hE:=qH hE;replace hbE:=qH hbE;clear hM;by_cases h1:q < 1
  ·have h1':decide ((q:Int) < 1)=true:=decide_eq_true (by omega);have hE2:=qH (show szE ss=5 by rw[hE.out,if_pos (.inl h1)]);go_wp2;refine⟨by simp,.inl ⟨_,_,rfl,run_takeDeferred hdef,?_⟩⟩;exact⟨_,results_tmp rfl _ _ _,by rw[hE2.out];rfl,hbE.out⟩
  ·have h1':decide ((q:Int) < 1)=false:=decide_eq_false (by omega);by_cases h2:256 < q
   ·have h2':decide ((256:Int) < (q:Int))=true:=decide_eq_true (by omega);have hE2:=qH (show szE ss=5 by rw[hE.out,if_pos (.inr (.inl h2))]);go_wp2;refine⟨by simp,.inl ⟨_,_,rfl,run_takeDeferred hdef,?_⟩⟩;exact⟨_,results_tmp rfl _ _ _,by rw[hE2.out];rfl,hbE.out⟩
   ·have h2':decide ((256:Int) < (q:Int))=false:=decide_eq_false (by omega);by_cases h3:4096 < M
    ·have h3':decide ((4096:Int) < (M:Int))=true:=decide_eq_true (by omega);have hE2:=qH (show szE ss=5 by rw[hE.out,if_pos (.inr (.inr h3))]);go_wp2;refine⟨by simp,.inl ⟨_,_,rfl,run_takeDeferred hdef,?_⟩⟩;exact⟨_,results_tmp rfl _ _ _,by rw[hE2.out];rfl,hbE.out⟩
    ·have h3':decide ((4096:Int) < (M:Int))=false:=decide_eq_false (by omega);have hE2:=qH (show szE ss=0 by rw[hE.out,if_neg (by omega)]);go_wp2;refine⟨by simp,.inl ⟨_,_,rfl,run_takeDeferred hdef,?_⟩⟩;exact⟨_,results_tmp rfl _ _ _,by rw[hE2.out];rfl,hbE.out⟩
 case stop=>
  intro d c pre D W _ h;exact h.elim
theorem wpIn_rfB {P:Program}{α:Type}{g:Operand}{ps:Array Tmp}{assign body:Code}{Q:Exit→Act→World→Prop}{a:Act}{w:World}
  {gf:Nat} {lb:Array Value} (hg:a.eval g = .func (.func gf) #[] lb) (eg:∀args w,(callFunc gf args).run P w = .ok (.enter gf args) w)
  {enc:α→Array Value} {R:List α→α→World→Prop} {S Sp:List α→Prop} {N:Nat} {C:Nat→Prop} {w0:World} (hseq:SeqOK P gf lb enc R S Sp N C w0)
  (hb0:Below w0.heap.size w0 w) (hps:∀x,(enc x).size=ps.size) (hR:∀pre x W k r o,R pre x W→W.heap[k]? = some (.loop r)→R pre x (W.putObj k o)) (hRa:∀pre x W o,R pre x W→R pre x (W.alloc o))
  (I:List α→(Nat→Prop)→World→Prop) (Ix:Code→List α→(Nat→Prop)→World→Prop) (hI:Stable I) (hIx:∀c,Stable (Ix c))
  (D0:Nat→Prop) (hD0:Bd D0 w) (hC:∀k,D0 k→¬C k) (hC':Bd C w) (h0:I [] D0 w) (cs:α→Array Value) (tB:TypeId) (fx:α→Nat→Array Value→Array Value)
  (hassign:∀(l:Nat) (pre:List α) (x:α) (W:World) (K:Act→World→Prop),R pre x W→K { tmps:=fx x W.heap.size a.tmps,defers:=[] } (W.alloc (.cells (cs x) tB))→
   assign.wpIn (Fence.wide.inRound l) 0 P (Exit.then K (fun _ _ _=>False)) { tmps:=(ps.zip (enc x)).foldl (fun t (p,v)=>t.setIfInBounds p v) a.tmps,defers:=[] } W)
  (hbody:∀(l:Nat) (pre:List α) (x:α) (D:Nat→Prop) (W:World) (b:Nat),I pre D W→Bd D W→Only D0 w W→Gr D0 w D→R pre x W→pre.length < N→W.heap[b]? = some (.cells (cs x) tB)→¬D b→w.heap.size≤b→body.wpIn (Fence.wide.inRound l) 0 P (bodyQ I Ix (pre ++ [x]) D W) { tmps:=fx x b a.tmps,defers:=[] } W)
  (hdone:∀(d:Nat) (xs:List α) (D:Nat→Prop) (W:World),S xs→I xs D W→Only D0 w W→Gr D0 w D→w.heap.size≤d→¬D d→W.heap[d]? = some (.deferred (some []))→Q .normal { a with defers:={ target:=.collected d,args:=#[] }::a.defers } W)
  (hstop:∀(d:Nat) (c:Code) (pre:List α) (D:Nat→Prop) (W:World),Sp pre→Ix c pre D W→Only D0 w W→Gr D0 w D→w.heap.size≤d→¬D d→W.heap[d]? = some (.deferred (some []))→c.wpIn Fence.wide 0 P Q { a with defers:={ target:=.collected d,args:=#[] }::a.defers } W) :
  (Code.rangeFunc g ps assign body).wpIn Fence.wide 0 P Q a w:=by
 refine wpIn_rangeFunc fun fn _=>?_;obtain⟨d,hd⟩:=exF (w.heap.size);obtain⟨l,hl⟩:=exF (w.heap.size+1);obtain⟨rec,hrec⟩:∃rec:LoopState→Option Code→Loop,rec=fun st pe=>{ state:=st,pending:=pe,fn:=fn,tmps:=a.tmps,params:=ps,assign:=assign,body:=body,defers:=d }:=⟨_,rfl⟩;obtain⟨W1,hW1⟩:=exE ((w.alloc (.deferred (some []))).alloc (.loop (rec .ready none)));have hs1:W1.heap.size=w.heap.size+2:=by rw[←hW1];simp
 have hold:∀k,k < w.heap.size→W1.heap[k]? = w.heap[k]?:=fun k hk=>by
  rw[←hW1];exact(Below.heap_alloc _ _ _ (by simp;omega)).trans (Below.heap_alloc _ _ _ hk)
 have hl1:W1.heap[l]? = some (.loop (rec .ready none)):=by
  rw[←hW1,hl];have:=World.alloc_heap_new (w.alloc (.deferred (some []))) (.loop (rec .ready none));rwa [World.size_alloc] at this
 have hd1:W1.heap[d]? = some (.deferred (some [])):=by
  rw[←hW1,hd];exact(Below.heap_alloc _ _ _ (by simp)).trans (World.alloc_heap_new w _)
 have hbW:Below w.heap.size w W1:=by rw[←hW1];exact((Below.refl _ _).alloc (Nat.le_refl _) _).alloc (by simp) _
 have hDl : ¬D0 l:=fun h=>by have:=hD0 l h;omega
 have hDd : ¬D0 d:=fun h=>by have:=hD0 d h;omega
 -- what the caller's data and the two blocks of the statement's own are
 let J:List α→(Nat→Prop)→World→Prop:=fun pre D W=>∃E,I pre E W∧Bd E W∧Gr D0 w E∧¬E l∧¬E d∧(∀k,D k↔E k∨k=l∨k=d)∧
  W.heap[l]? = some (.loop (rec .ready none))∧W.heap[d]? = some (.deferred (some []))
 let Jx:List α→(Nat→Prop)→World→Prop:=fun pre D W=>∃c E,Ix c pre E W∧Bd E W∧Gr D0 w E∧¬E l∧¬E d∧(∀k,D k↔E k∨k=l∨k=d)∧
  W.heap[l]? = some (.loop (rec .done (some c)))∧W.heap[d]? = some (.deferred (some []))
 have hJ:Stable J:=by
  rintro pre D W W' ⟨E,h1,h2,h3,h4,h5,h6,h7,h8⟩ hs hk;refine⟨E,hI pre E W W' h1 hs (fun k hkE=>hk k ((h6 k).2 (.inl hkE))),fun k hkE=>Nat.lt_of_lt_of_le (h2 k hkE) hs,h3,h4,h5,h6,(hk l ((h6 l).2 (.inr (.inl rfl)))).trans h7,(hk d ((h6 d).2 (.inr (.inr rfl)))).trans h8⟩
 have hJx:Stable Jx:=by
  rintro pre D W W' ⟨c,E,h1,h2,h3,h4,h5,h6,h7,h8⟩ hs hk;refine⟨c,E,hIx c pre E W W' h1 hs (fun k hkE=>hk k ((h6 k).2 (.inl hkE))),fun k hkE=>Nat.lt_of_lt_of_le (h2 k hkE) hs,h3,h4,h5,h6,(hk l ((h6 l).2 (.inr (.inl rfl)))).trans h7,(hk d ((h6 d).2 (.inr (.inr rfl)))).trans h8⟩
 let D1:Nat→Prop:=fun k=>D0 k∨k=l∨k=d
 have hD1:Bd D1 W1:=fun k hk=>by
  rcases hk with h|rfl|rfl
  ·have:=hD0 k h;omega
  ·omega
  ·omega
 have hwW:∀ {W:World},Only D1 W1 W→Only D0 w W:=fun {W} h=>
  ⟨h.os.trans hbW.os,h.tape.trans hbW.tape,h.output.trans hbW.output,Nat.le_trans hbW.size h.size,fun k hk hn=>
   (h.same k (by omega) (fun hh=>by rcases hh with hh|rfl|rfl;exact hn hh;omega;omega)).trans (hold k hk)⟩
 refine⟨l,[{ target:=.collected d,args:=#[] }],W1,{ target:=.fn (.func gf) lb,args:=#[.func (.yield l) #[] #[]] },W1,gf,#[.func (.yield l) #[] #[]]++lb,W1,?_,?_,?_,?_,?_,?_⟩
 ·rw[←hW1,hrec,hl,hd];exact run_enterLoop_outer _ _ _ _ _
 ·simp only[resolve,hg];simp[go_sem]
 ·intro f' hf';trivial
 ·simp[invoke,go_sem,eg]
 ·intro h;simp[Fence.wide] at h
 refine(hseq l J Jx D1 W1 (hb0.trans (hbW.mono hb0.size)) hD1 ?_ hJ hJx ?_ ?_).mono ?_
 ·intro k hk hkC;have:=hC' k hkC
  rcases hk with h|rfl|rfl
  ·exact hC k h hkC
  ·omega
  ·omega
 ·-- a round
  rintro pre x D W ⟨E,h1,h2,h3,h4,h5,h6,h7,h8⟩ hBd hOn hGr hRx hlen;have hlW:l < W.heap.size:=(Array.getElem?_eq_some_iff.1 h7).1;have hy:=run_yield (P:=P) (args:=enc x) h7 (by rw[hrec];exact hps x);rw[hrec] at hy;refine⟨fn,_,assign,body,hy,roundIn_of_wpIn trivial (hassign l pre x W _ hRx ⟨_,run_beginRound ((Below.heap_alloc _ _ _ hlW).trans h7) (by rw[hrec]),?_⟩)⟩;have h7a:(W.alloc (.cells (cs x) tB)).heap[l]? = some (.loop (rec .ready none)):=(Below.heap_alloc _ _ _ hlW).trans h7;obtain⟨W2,hW2⟩:∃W2,W2=(W.alloc (.cells (cs x) tB)).putObj l (.loop { rec .ready none with state:=.busy }):=⟨_,rfl⟩;have g7:W2.heap[l]? = some (.loop { rec .ready none with state:=.busy }):=by rw[hW2];exact World.putObj_heap_same (by simp;omega)
  have gO:∀k,k < W.heap.size→k ≠ l→W2.heap[k]? = W.heap[k]?:=fun k hks hk=>by rw[hW2];exact(World.putObj_heap_other hk).trans (Below.heap_alloc _ _ _ hks)
  have gS:W2.heap.size=W.heap.size+1:=by rw[hW2];simp
  have gB:W2.heap[W.heap.size]? = some (.cells (cs x) tB):=by rw[hW2];exact(World.putObj_heap_other (by omega)).trans (heap_alloc_new _ _)
  have e0:Only D W W2:=by rw[hW2];exact((Only.refl D W).thenBelow ((Below.refl _ _).alloc (Nat.le_refl _) _)).trans (Only.putObj (D:=D) ((h6 l).2 (.inr (.inl rfl))) _) (Gr.refl _ _)
  have g8:W2.heap[d]? = some (.deferred (some [])):=(gO d (by omega) (by omega)).trans h8;have gI:I pre E W2:=hI pre E W W2 h1 (by omega) (fun k hk=>gO k (h2 k hk) (fun e=>h4 (e▸hk)));have gOn:Only D1 W1 W2:=hOn.trans e0 hGr;have gR:R pre x W2:=by rw[hW2];exact hR pre x _ l _ _ (hRa _ _ _ _ hRx) h7a
  rw[←hW2];refine wpIn_mono (hbody l pre x E W2 W.heap.size gI (fun k hk=>by rw[gS];have:=h2 k hk;omega) (hwW gOn) h3 gR hlen gB (fun h=>by have:=h2 _ h;omega) (by have:=hOn.size;omega)) ?_;-- what stands when the body has ended
  have fin:∀(jump:Option Code) (W3:World) (E':Nat→Prop),Only E W2 W3→Gr E W2 E'→Bd E' W3→
    (Instr.endRound l jump).run P W3 = .ok (.bool jump.isNone) (W3.putObj l (.loop (rec (if jump.isNone then .ready else .done) jump)))∧
    Only D W (W3.putObj l (.loop (rec (if jump.isNone then .ready else .done) jump)))∧Gr D W (fun k=>E' k∨k=l∨k=d)∧
    Bd (fun k=>E' k∨k=l∨k=d) (W3.putObj l (.loop (rec (if jump.isNone then .ready else .done) jump)))∧¬E' l∧¬E' d∧Gr D0 w E'∧
    (W3.putObj l (.loop (rec (if jump.isNone then .ready else .done) jump))).heap[l]? = some (.loop (rec (if jump.isNone then .ready else .done) jump))∧
    (W3.putObj l (.loop (rec (if jump.isNone then .ready else .done) jump))).heap[d]? = some (.deferred (some []))∧
    (∀k,E' k→(W3.putObj l (.loop (rec (if jump.isNone then .ready else .done) jump))).heap[k]? = W3.heap[k]?):=by
   intro jump W3 E' k1 k2 k3;have hdW:d < W2.heap.size:=(by omega);have hl3:=(k1.same l (by omega) h4).trans g7;have hl3':l < W3.heap.size:=(Array.getElem?_eq_some_iff.1 hl3).1;have nl : ¬E' l:=fun h=>by rcases k2 l h with h'|h';exact h4 h';omega
   have nd : ¬E' d:=fun h=>by rcases k2 d h with h'|h';exact h5 h';omega
   have hend:=run_endRound (P:=P) jump hl3;refine⟨by rw[hrec] at hend⊢;exact hend,?_,?_,?_,nl,nd,?_,World.putObj_heap_same hl3',(World.putObj_heap_other (by omega)).trans ((k1.same d hdW h5).trans g8),fun k hk=>World.putObj_heap_other (fun e=>nl (e▸hk))⟩
   ·have e1:Only D W W2:=e0;have e2:Only D W2 W3:=k1.mono fun k hk=>(h6 k).2 (.inl hk);exact(e1.trans e2 (Gr.refl _ _)).trans (Only.putObj (D:=D) ((h6 l).2 (.inr (.inl rfl))) _) (Gr.refl _ _)
   ·intro k hk;rcases hk with h|rfl|rfl
    ·rcases k2 k h with h'|h'
     ·exact .inl ((h6 k).2 (.inl h'))
     ·exact .inr (by omega)
    ·exact .inl ((h6 k).2 (.inr (.inl rfl)))
    ·exact .inl ((h6 k).2 (.inr (.inr rfl)))
   ·intro k hk;rw[World.putObj_size];rcases hk with h|rfl|rfl
    ·exact k3 k h
    ·omega
    ·have:=k1.size;omega
   ·intro k hk;rcases k2 k hk with h'|h'
    ·exact h3 k h'
    ·right;have:=hOn.size;omega
  rintro e a3 W3 hp;cases e with
  | normal=>
   obtain⟨E',k1,k2,k3,k4⟩:=hp;obtain⟨f1,f2,f3,f4,f5,f6,f7,f8,f9,f10⟩:=fin none W3 E' k1 k2 k3;exact⟨_,_,f1,_,f2,f3,f4,.inl ⟨rfl,E',hI _ E' W3 _ k4 (by rw[World.putObj_size];exact Nat.le_refl _) f10,fun k hk=>f4 k (.inl hk),f7,f5,f6,fun _=>Iff.rfl,f8,f9⟩⟩
  | ret=>
   obtain⟨E',k1,k2,k3,k4⟩:=hp;obtain⟨f1,f2,f3,f4,f5,f6,f7,f8,f9,f10⟩:=fin (some .ret) W3 E' k1 k2 k3;exact⟨_,_,f1,_,f2,f3,f4,.inr ⟨rfl,_,E',hIx _ _ E' W3 _ k4 (by rw[World.putObj_size];exact Nat.le_refl _) f10,fun k hk=>f4 k (.inl hk),f7,f5,f6,fun _=>Iff.rfl,f8,f9⟩⟩
  | exit id=>
   obtain⟨E',k1,k2,k3,k4⟩:=hp;obtain⟨f1,f2,f3,f4,f5,f6,f7,f8,f9,f10⟩:=fin (some (.exit id)) W3 E' k1 k2 k3;exact⟨_,_,f1,_,f2,f3,f4,.inr ⟨rfl,_,E',hIx _ _ E' W3 _ k4 (by rw[World.putObj_size];exact Nat.le_refl _) f10,fun k hk=>f4 k (.inl hk),f7,f5,f6,fun _=>Iff.rfl,f8,f9⟩⟩
  | goto t=>
   obtain⟨E',k1,k2,k3,k4⟩:=hp;obtain⟨f1,f2,f3,f4,f5,f6,f7,f8,f9,f10⟩:=fin (some (.goto t)) W3 E' k1 k2 k3;exact⟨_,_,f1,_,f2,f3,f4,.inr ⟨rfl,_,E',hIx _ _ E' W3 _ k4 (by rw[World.putObj_size];exact Nat.le_refl _) f10,fun k hk=>f4 k (.inl hk),f7,f5,f6,fun _=>Iff.rfl,f8,f9⟩⟩
  | panic ch=>exact hp.elim
  | outgrown=>exact hp.elim
 ·refine⟨D0,hI [] D0 w W1 h0 hbW.size (fun k hk=>hold k (hD0 k hk)),fun k hk=>by have:=hD0 k hk;omega,Gr.refl _ _,hDl,hDd,fun _=>Iff.rfl,hl1,hd1⟩
 ·-- behind the iterator
  rintro e W2 ⟨⟨v,rfl⟩,D,hOn,hGr,hBd,(⟨xs,hS,E,h1,h2,h3,h4,h5,h6,h7,h8⟩|⟨pre,hSp,c,E,h1,h2,h3,h4,h5,h6,h7,h8⟩)⟩
  ·have hend:=run_endLoop (P:=P) h7 (by rw[hrec];simp);rw[hrec] at hend;refine⟨none,_,hend,hdone d xs E _ hS (hI _ E W2 _ h1 (by simp) fun k hk=>World.putObj_heap_other (fun e=>h4 (e▸hk))) ?_ h3 (by omega) h5 ((World.putObj_heap_other (by omega)).trans h8)⟩;exact hwW (hOn.trans (Only.putObj (D:=D) ((h6 l).2 (.inr (.inl rfl))) _) hGr)
  ·have hend:=run_endLoop (P:=P) h7 (by rw[hrec];simp);rw[hrec] at hend;refine⟨some c,_,hend,hstop d c pre E _ hSp (hIx c _ E W2 _ h1 (by simp) fun k hk=>World.putObj_heap_other (fun e=>h4 (e▸hk))) ?_ h3 (by omega) h5 ((World.putObj_heap_other (by omega)).trans h8)⟩;exact hwW (hOn.trans (Only.putObj (D:=D) ((h6 l).2 (.inr (.inl rfl))) _) hGr)
attribute [local go_sem] Oper.semAt_some
theorem andNot_ok:((List.range 32).all fun x=>(List.range 32).all fun y=>decide ((bits .andNot .i64 (x:Int) (y:Int) != 0) = !insideB x y))=true:=by decide +kernel
theorem andNot_in {x y:Int}(h0:0≤x) (h1:x≤31) (k0:0≤y) (k1:y≤31):(bits .andNot .i64 x y != 0) = !insideB x y:=by
 have:=List.all_eq_true.1 (List.all_eq_true.1 andNot_ok x.toNat (by rw[List.mem_range];omega)) y.toNat (by rw[List.mem_range];omega)
 have:=of_decide_eq_true this
 rwa [show((x.toNat:Nat):Int)=x by omega,show((y.toNat:Nat):Int)=y by omega] at this
def goodM (ss:List (List (List Int))) (x:Nat × List Int):Bool:=gr3 (x.2.getD 6 0) (ss.getD (x.2.getD 7 0).toNat [])
theorem mvs_all (f:List Int→Bool):∀(ss:List (List (List Int))) (k:Nat),(mvs k ss).all (fun x=>f x.2)=ss.all fun ms=>ms.all f
 | [],_=>rfl
 | l::r,k=>by
  rw[mvs,List.all_append,mvs_all f r,List.all_cons,List.all_map];rfl
theorem grows_mvs (ss:List (List (List Int))):(mvs 0 ss).all (goodM ss)=growsB ss:=mvs_all (fun m=>gr3 (m.getD 6 0) (ss.getD (m.getD 7 0).toNat [])) ss 0
theorem mvs_mem:∀ {ss:List (List (List Int))}{k:Nat}{x:Nat × List Int},x∈mvs k ss→∃ms∈ss,x.2∈ms
 | [],_,_,h=>by cases h
 | l::r,k,x,h=>by
  rw[mvs,List.mem_append] at h;rcases h with h|h
  ·obtain⟨m,hm,rfl⟩:=List.mem_map.1 h;exact⟨l,by simp,hm⟩
  ·obtain⟨ms,h1,h2⟩:=mvs_mem h;exact⟨ms,by simp[h1],h2⟩
def BoxE (Bn:Nat) (D:Nat→Prop) (W:World) (n:Int):Prop:=(∀k,D k↔k=Bn)∧W.heap[Bn]? = some (.cells #[.int .i64 n] 41 (0,0))
theorem BoxE.stable {α:Type}(Bn:Nat) (n:Int) (p:List α→Prop):Stable (fun pre D W=>BoxE Bn D W n∧p pre):=fun _ _ _ _ h _ hk=>⟨⟨h.1.1,(hk Bn ((h.1.1 Bn).2 rfl)).trans h.1.2⟩,h.2⟩
theorem results_cellE {fn:Func}{p:Tmp}(h:fn.results = #[.cell p 41]) (tmps:Array Value) (w:World) (g:Nat) (x:Int) (hp:tmps.getD p undef = .pointer (some ⟨g,0,none⟩)) (hc:w.cell? ⟨g,0,none⟩=some (.int .i64 x)) :
  (results fn tmps).run Tryz.prog w = .ok (.int .i64 x) w:=by
 have hp':tmps[p]?.getD undef = .pointer (some ⟨g,0,none⟩):=by simpa using hp
 have u:=Tryz.underlying41;have a:=Tryz.isAgg41;have z:=Tryz.sizeOf41;simp only[results,h];simp[Sem.run_bind,Result.andThen,hp',asAddr,loadVar]
 go_simp
theorem checkA {w:World}{v:Value}{n:Int}{ss:List (List (List Int))}(hA:AdvV w v n ss) (hN:movesN ss≤1000000000) :
  Calls Tryz.prog 189 #[v] w fun e w'=>e = .returned (.int .i64 (chkA n ss))∧Below w.heap.size w w':=by
 have h8:=hA.len8;have hA':=hA;obtain⟨sv,rfl,hK⟩:=hA';have hK':=hK;obtain⟨sa,sc,sb,so,rfl,hsa,hsc,hsl⟩:=hK';refine callsIn_wide.1 (callsIn_of_wp_marks (n:=0) Tryz.func189 rfl trivial ?_);simp only[Tryz.ntmps189,List.size_toArray,List.length_cons,List.length_nil,Nat.reduceAdd,Nat.reduceSub,Array.replicate_succ,Array.replicate_zero,List.push_toArray,List.append_toArray,List.nil_append,List.cons_append];refine wpIn_wide.2 ?_;obtain⟨W1,hW1⟩:=exF ((w.alloc (.cells #[.int .i64 n,.slice sa ss.length sc] 27)).alloc (.cells #[.int .i64 0] 41));have hs1:W1.heap.size=w.heap.size+2:=by rw[hW1];simp
 have hb:Below w.heap.size w W1:=by rw[hW1];exact((Below.refl _ w).alloc (Nat.le_refl _) _).alloc (by simp) _
 have k0:W1.heap[w.heap.size]? = some (.cells #[.int .i64 n,.slice sa ss.length sc] 27):=by
  rw[hW1];exact(Below.heap_alloc _ _ _ (by simp)).trans (World.alloc_heap_new w _)
 have kE:W1.heap[w.heap.size+1]? = some (.cells #[.int .i64 0] 41 (0,0)):=by
  rw[hW1];have:=World.alloc_heap_new (w.alloc (.cells #[.int .i64 n,.slice sa ss.length sc] 27)) (.cells #[.int .i64 0] 41)
  rwa [World.size_alloc] at this
 have hAb:=hA.keep hb;obtain⟨d0,d1⟩:=box2 k0;have hcE:=cell_of_one kE;have hfE:=free_of_one kE;replace hsc:=qH hsc;replace hW1:=qH hW1
 have hnew:∀x:Int,((w.alloc (.cells #[.int .i64 n,.slice sa ss.length sc] 27)).alloc (.cells #[.int .i64 x] 41)).cell? ⟨w.heap.size+1,0,none⟩=some (.int .i64 x):=fun x=>by
  have:=World.alloc_heap_new (w.alloc (.cells #[.int .i64 n,.slice sa ss.length sc] 27)) (.cells #[.int .i64 x] 41)
  rw[World.size_alloc] at this;exact cell_of_one this
 have hbn:∀x:Int,Below w.heap.size w ((w.alloc (.cells #[.int .i64 n,.slice sa ss.length sc] 27)).alloc (.cells #[.int .i64 x] 41)):=fun x=>((Below.refl _ w).alloc (Nat.le_refl _) _).alloc (by simp) _;replace hnew:=qH hnew;replace hbn:=qH hbn;replace hK:=qH hK;by_cases hn:n < 1∨5 < n
 ·have hE:=qH (show chkA n ss=2 by rw[chkA,if_pos hn]);clear d0 d1 hcE hfE k0 kE hb hAb;by_cases hn1:n < 1
  ·have hn1':decide (n < 1)=true:=decide_eq_true hn1;go_wp2_with fail
   exact⟨_,results_cellE rfl _ _ (w.heap.size+1) 2 rfl (hnew.out 2),by rw[hE.out],hbn.out 2⟩
  ·have hn1':decide (n < 1)=false:=decide_eq_false hn1;have hn5':decide (5 < n)=true:=decide_eq_true (by omega);go_wp2_with fail
   exact⟨_,results_cellE rfl _ _ (w.heap.size+1) 2 rfl (hnew.out 2),by rw[hE.out],hbn.out 2⟩
 ·have hn1':decide (n < 1)=false:=decide_eq_false (by omega);have hn5':decide (5 < n)=false:=decide_eq_false (by omega);go_wp2_with fail
  rw[←hW1.out];clear hnew hbn hW1;refine(sized hAb hN).mono ?_;rintro e w2 ⟨rfl,hb2⟩;have hbB2:=bt hb hb2 hb.size;have k2:=(hb2.block w.heap.size (by omega)).trans k0;have kE2:=(hb2.block (w.heap.size+1) (by omega)).trans kE;have hs2:=hb2.size;have hAb2:=hAb.keep hb2;clear d0 d1 hcE hfE k0 kE hb2 hAb hb;obtain⟨d0,d1⟩:=box2 k2;have hcE:=cell_of_one kE2;have hfE:=free_of_one kE2;have hN2:w.heap.size+2≤w2.heap.size:=by omega
  clear hs1 hs2;by_cases hz:ss.length < 1∨256 < ss.length∨4096 < movesN ss
  ·have hE:=qH (show chkA n ss=5 by rw[chkA,if_neg hn,if_pos hz]);have hsz:szE ss=5:=(by rw[szE,if_pos hz]);rw[hsz];have hset:=one_setCell (u:=.int .i64 5) kE2;have hbs:Below w.heap.size w (w2.setCell ⟨w.heap.size+1,0,none⟩ (.int .i64 5)):=hbB2.setCell (p:=⟨w.heap.size+1,0,none⟩) (by show w.heap.size≤w.heap.size+1;omega) _;clear hz hn hsz;go_wp2_with fail
   exact⟨_,results_cellE rfl _ _ (w.heap.size+1) 5 rfl (cell_of_one hset),by rw[hE.out],hbs⟩
  ·have hsz:szE ss=0:=(by rw[szE,if_neg hz]);rw[hsz];have hl:ss.length≤256:=(by omega);obtain⟨G,hG⟩:=exE (chkA n ss);have hG2:Hid ((if ssGo n ss.length ss ≠ 0 then ssGo n ss.length ss else if growsB ss then 0 else 21)=G):=(by show _=_;rw[←hG,chkA,if_neg hn,if_neg hz]);have hst0:Hid (ssGo n ss.length ss=0→StOK ss):=stOK_of h8;have hE0:Hid (ssGo n ss.length (ss.drop 0)=ssGo n ss.length ss):=rfl;replace hG:=qH hG;clear hz hn hsz;replace h8:=qH h8;go_wp2_with fail
   go_loopw [27] (fun kv wr=>∃k:Nat,k≤ss.length∧kv = .int .i64 k∧Hid (ssGo n ss.length (ss.drop k)=ssGo n ss.length ss)∧Below w2.heap.size w2 wr) (fun kv _=>ss.length - (intOf kv).toNat)
   case atStart=>exact⟨0,by omega,rfl,hE0,Below.refl _ _⟩
   case round=>
    clear hE0;obtain⟨k,hk,rfl,hg,hbr⟩:=hrel;have hbB:=bt hbB2 hbr hbB2.size;have k3:=(hbr.block w.heap.size (by omega)).trans k2;have kE3:=(hbr.block (w.heap.size+1) (by omega)).trans kE2;have hAr:=hAb2.keep hbr;clear d0 d1 hcE hfE;obtain⟨d0,d1⟩:=box2 k3;have hcE:=cell_of_one kE3;have hfE:=free_of_one kE3;have hNr:w.heap.size+2≤wr.heap.size:=(by have:=hbr.size;omega);by_cases hlt:k < ss.length
    ·obtain rfl:=hsa (by omega);obtain⟨ms,hms⟩:=exE (ss.getD k []);obtain⟨u,hcu,hu⟩:=(hsc.out.keep hbB) k hlt;rw[hms] at hu;have hdr:=qH (by have:=drop_cons hlt ([]:List (List Int));rw[hms] at this;exact this);have HS:=stateCall hAr hu hl;obtain⟨E,hE⟩:=exE (stErr n ss.length ms);rw[hE] at HS;replace HS:=qH HS;obtain⟨ua,uc,rfl⟩:=hu.shape;clear hu hms;go_wp2_with fail
     refine HS.out.mono ?_;rintro e w4 ⟨rfl,hb4⟩;have k4:=(hb4.block w.heap.size (by omega)).trans k3;have kE4:=(hb4.block (w.heap.size+1) (by omega)).trans kE3;have hbB4:=bt hbB hb4 hbB.size;have hbr4:=bt hbr hb4 hbr.size;clear d0 d1 hcE hfE HS hcu;obtain⟨d0,d1⟩:=box2 k4;have hcE:=cell_of_one kE4;have hfE:=free_of_one kE4;by_cases hz:E=0
     ·have hF:Hid (ssGo n ss.length (ss.drop (k+1))=ssGo n ss.length ss):=(by show _=_;rw[←hg.out,hdr.out,ssGo,hE,hz];rfl);subst hz;clear hg hdr hE;go_wp2_with fail
      go_roundw
      case rel=>exact⟨k+1,by omega,by go_num,hF,hbr4⟩
      case measure=>simp[intOf];omega
     ·have hz':(E != 0)=true:=by simpa using hz
      have hF:=qH (show chkA n ss=E by
       have hX:ssGo n ss.length ss=E:=(by rw[←hg.out,hdr.out];exact ssGo_stop hE hz);rw[hG.out,←hG2.out,if_pos (by rw[hX];exact hz),hX])
      have hset:=one_setCell (u:=.int .i64 E) kE4;have hbs:Below w.heap.size w (w4.setCell ⟨w.heap.size+1,0,none⟩ (.int .i64 E)):=hbB4.setCell (p:=⟨w.heap.size+1,0,none⟩) (by show w.heap.size≤w.heap.size+1;omega) _;clear hg hdr hE hz;go_wp2_with fail
      exact⟨_,results_cellE rfl _ _ (w.heap.size+1) E rfl (cell_of_one hset),by rw[hF.out],hbs⟩
    ·obtain rfl:k=ss.length:=(by omega);have hX:ssGo n ss.length ss=0:=(by rw[←hg.out,List.drop_length,ssGo]);have hO:=qH (hst0.out hX);have hG3:Hid ((if growsB ss then 0 else 21)=G):=(by have:=hG2.out;rw[hX,if_neg (by decide)] at this;exact this);clear hg hX hst0 hG2;go_wp2_with (go_at_call 219;refine(movesCall _ _ _ _ _).mono ?_;rintro e w5 ⟨rfl,rfl⟩)
     obtain⟨wL,hwL⟩:=exF (wr.alloc (.cells #[.int .i64 n,.slice sa ss.length sc] 27));have hbL:Below wr.heap.size wr wL:=(by rw[hwL];exact(Below.refl _ _).alloc (Nat.le_refl _) _);have hsL:wL.heap.size=wr.heap.size+1:=(by rw[hwL];simp);have kX:wL.heap[wr.heap.size]? = some (.cells #[.int .i64 n,.slice sa ss.length sc] 27):=(by rw[hwL];exact heap_alloc_new _ _);have kL:=(hbL.block w.heap.size (by omega)).trans k3;have kEL:=(hbL.block (w.heap.size+1) (by omega)).trans kE3;have hbW:Below w.heap.size w wL:=bt hbB hbL hbB.size;rw[←hwL];have hcx:wL.cell? ⟨wr.heap.size,1,none⟩=some (.slice sa ss.length sc):=box_cell kX rfl;obtain⟨X,hX⟩:=exF (wr.heap.size);rw[←hX] at hcx hsL hNr kX⊢;clear hwL d0 d1 hcE hfE k2 kE2 k3 kE3 hbL hbr hbB hbB2 hAb2 hAr hX hN2 hsL kX;have hsL2:w.heap.size+2≤wL.heap.size:=by have:=World.block_lt_of_cell? wL _ hcx;have h:X < wL.heap.size:=this;omega
     refine wpIn_wide.1 (wpIn_rfB (gf:=247) (lb:=#[.pointer (some ⟨X,0,none⟩)]) rfl (enters_of Tryz.func247 (by kernel_rfl) rfl) (mvSeq hK.out hbW hcx) (Below.refl _ _) (fun _=>rfl) mvR_put (fun _ _ _ _ h=>h)
      (fun pre D W=>BoxE (w.heap.size+1) D W 0∧pre.all (goodM ss)=true) (fun c _ D W=>BoxE (w.heap.size+1) D W 21∧(c = .ret∧growsB ss=false)) (BoxE.stable _ _ _) (fun c=>BoxE.stable _ _ _)
      (fun k=>k=w.heap.size+1) (fun k hk=>by rw[hk];omega) (fun k hk=>by omega) (fun k hk=>by rcases hk with rfl|hk;exact World.block_lt_of_cell? wL _ hcx;omega) ⟨⟨fun _=>Iff.rfl,kEL⟩,rfl⟩
      (fun x=>(x.2.map (Value.int .i64)).toArray) 178 (fun x b t=>((t.setIfInBounds 40 (.int .i64 x.1)).setIfInBounds 41 (.agg (x.2.map (Value.int .i64)).toArray)).setIfInBounds 8 (.pointer (some ⟨b,0,none⟩))) ?assign ?body ?done ?stop)
     case assign=>
      rintro l pre ⟨s,m⟩ W K ⟨r,hr⟩ hK;obtain⟨ms,hms,hm⟩:=mvs_mem (x:=(s,m)) (k:=0) (by rw[←hr];simp);obtain⟨y0,y1,y2,y3,y4,y5,y6,y7,rfl⟩:=eight (h8.out ms hms m hm);clear hr hms hm;simp only[List.setIfInBounds_toArray,List.set_cons_succ,List.set_cons_zero,List.map_cons,List.map_nil] at hK;simp only[mvEnc,List.map_cons,List.map_nil];gi_wp2;exact hK
     case body=>
      rintro l pre ⟨s,m⟩ D W b ⟨⟨hD,hbox⟩,hall⟩ hBd hOn hGr ⟨r,hr⟩ hlen hBb hnb hbb;obtain⟨ms,hms,hm⟩:=mvs_mem (x:=(s,m)) (k:=0) (by rw[←hr];simp);obtain⟨hm8,⟨hf0,hf1⟩,ht0,ht1⟩:=hO.out ms hms m hm;obtain⟨y0,y1,y2,y3,y4,y5,y6,y7,rfl⟩:=eight hm8;replace hf0:0≤y6:=hf0;replace hf1:y6≤31:=hf1;replace ht0:0≤y7:=ht0;replace ht1:y7 < (ss.length:Int):=ht1;obtain⟨q,rfl⟩:∃q:Nat,y7=(q:Int):=⟨y7.toNat,by omega⟩;have hq:q < ss.length:=(by omega);obtain rfl:=hsa (by omega);obtain⟨ks,hks⟩:=exE (ss.getD q []);have hkm:ks∈ss:=(by rw[←hks,getD_eq hq];exact List.getElem_mem hq);obtain⟨u,hcu,hu⟩:=hsc.out q hq;rw[hks] at hu
      have hgood:Hid (goodM ss (s,[y0,y1,y2,y3,y4,y5,y6,(q:Int)])=ks.all fun k=>insideB y6 (k.getD 6 0)):=by
       show gr3 y6 (ss.getD ((q:Int)).toNat [])=_;rw[Int.toNat_natCast,hks];rfl
      have hmemL:Hid ((s,[y0,y1,y2,y3,y4,y5,y6,(q:Int)])∈mvs 0 ss):=(by show _∈_;rw[←hr];simp);have hkO:=qH (hO.out ks hkm);have hsn : ¬sb=w.heap.size+1:=(by have:=World.block_lt_of_cell? w _ hcu;have h:sb < w.heap.size:=this;omega);have hcu2:W.cell? ⟨sb,so+q,none⟩=some u:=hOn.cell (p:=⟨sb,so+q,none⟩) hsn (cell_kept hbW hcu);have kA:=(hOn.same w.heap.size (by omega) (by omega)).trans kL;obtain⟨a0,a1⟩:=box2 kA;simp only[List.map_cons,List.map_nil] at hBb;obtain⟨p0,p1,p2,p3,p4,p5,p6,p7⟩:=box8 hBb;obtain⟨ka,kc,kb,ko,rfl,hka,hkc,hkl⟩:=hu;have hbW':b < W.heap.size:=(Array.getElem?_eq_some_iff.1 hBb).1;clear hr hms hm hm8 hks hkm hcu hlen hN a0;simp only[List.setIfInBounds_toArray,List.set_cons_succ,List.set_cons_zero,List.map_cons,List.map_nil];have hin0:Hid ((ks.drop 0).all (fun k=>insideB y6 (k.getD 6 0))=goodM ss (s,[y0,y1,y2,y3,y4,y5,y6,(q:Int)])):=(by show _=_;rw[List.drop_zero,hgood.out]);clear hgood;gi_wp2;gi_loopw [49] (fun iv wr=>∃i:Nat,i≤ks.length∧iv = .int .i64 i∧Hid ((ks.drop i).all (fun k=>insideB y6 (k.getD 6 0))=goodM ss (s,[y0,y1,y2,y3,y4,y5,y6,(q:Int)]))∧Below W.heap.size W wr) (fun iv _=>ks.length - (intOf iv).toNat)
      case atStart=>exact⟨0,by omega,rfl,hin0,Below.refl _ _⟩
      case round=>
       clear hin0;obtain⟨i,hi,rfl,hg,hbi⟩:=hrel;by_cases hlti:i < ks.length
       ·obtain rfl:=hka (by omega);obtain⟨hx8,hxc⟩:=hkc i hlti;obtain⟨x,hx⟩:=exE (ks.getD i []);have hxm:x∈ks:=(by rw[←hx,getD_eq hlti];exact List.getElem_mem hlti);obtain⟨_,⟨hz0,hz1⟩,_,_⟩:=hkO.out x hxm;have hdr:=qH (all_step (f:=fun k:List Int=>insideB y6 (k.getD 6 0)) hlti hx);rw[hx] at hx8 hxc;obtain⟨z0,z1,z2,z3,z4,z5,z6,z7,rfl⟩:=eight hx8;replace hz0:0≤z6:=hz0;replace hz1:z6≤31:=hz1;obtain⟨c0,c1,c2,c3,c4,c5,c6,c7⟩:=hxc.all8;have hkn : ¬kb=w.heap.size+1:=(by have:=World.block_lt_of_cell? w _ c0;have h:kb < w.heap.size:=this;omega);have e0:=cell_kept hbi (hOn.cell (p:=⟨kb,_,none⟩) hkn (cell_kept hbW c0));have e1:=cell_kept hbi (hOn.cell (p:=⟨kb,_,none⟩) hkn (cell_kept hbW c1));have e2:=cell_kept hbi (hOn.cell (p:=⟨kb,_,none⟩) hkn (cell_kept hbW c2));have e3:=cell_kept hbi (hOn.cell (p:=⟨kb,_,none⟩) hkn (cell_kept hbW c3));have e4:=cell_kept hbi (hOn.cell (p:=⟨kb,_,none⟩) hkn (cell_kept hbW c4));have e5:=cell_kept hbi (hOn.cell (p:=⟨kb,_,none⟩) hkn (cell_kept hbW c5));have e6:=cell_kept hbi (hOn.cell (p:=⟨kb,_,none⟩) hkn (cell_kept hbW c6));have e7:=cell_kept hbi (hOn.cell (p:=⟨kb,_,none⟩) hkn (cell_kept hbW c7));have hb1:Below W.heap.size W (wr.alloc (.cells #[.int .i64 z0,.int .i64 z1,.int .i64 z2,.int .i64 z3,.int .i64 z4,.int .i64 z5,.int .i64 z6,.int .i64 z7] 178)):=hbi.alloc hbi.size _;have hbit:=andNot_in hf0 hf1 hz0 hz1;have kEi:(wr.alloc (.cells #[.int .i64 z0,.int .i64 z1,.int .i64 z2,.int .i64 z3,.int .i64 z4,.int .i64 z5,.int .i64 z6,.int .i64 z7] 178)).heap[w.heap.size+1]? = some (.cells #[.int .i64 0] 41 (0,0)):=(hb1.block _ (by omega)).trans hbox;have p6a:=cell_kept hb1 p6;clear c0 c1 c2 c3 c4 c5 c6 c7 hx8 hxc hx hxm p0 p1 p2 p3 p4 p5 p6 p7;by_cases hI:insideB y6 z6=true
        ·rw[hI] at hbit
         have hg2:Hid ((ks.drop (i+1)).all (fun k=>insideB y6 (k.getD 6 0))=goodM ss (s,[y0,y1,y2,y3,y4,y5,y6,(q:Int)])):=by
          show _=_;rw[←hg.out,hdr.out];show _=(insideB y6 z6 && _);rw[hI,Bool.true_and]
         have hbit':(bits .andNot .i64 y6 z6 != 0)=false:=hbit;clear hg hdr hI hbit;gi_wp2;go_roundw
         case rel=>exact⟨i+1,by omega,by go_num,hg2,hb1⟩
         case measure=>simp[intOf];omega
        ·have hI2:=eq_false_of_ne_true hI;rw[hI2] at hbit;have hbit':(bits .andNot .i64 y6 z6 != 0)=true:=hbit
         have hgr:Hid (growsB ss=false):=by
          show _=_
          have h1:goodM ss (s,[y0,y1,y2,y3,y4,y5,y6,(q:Int)])=false:=by
           rw[←hg.out,hdr.out];show(insideB y6 z6 && _)=_
           rw[hI2,Bool.false_and]
          rw[←grows_mvs,Bool.eq_false_iff];intro h;have:=List.all_eq_true.1 h _ hmemL.out
          rw[h1] at this;cases this
         have hcE:=cell_of_one kEi;have hfE:=free_of_one kEi;have hset:=one_setCell (u:=.int .i64 21) kEi;clear hg hdr hI hI2 hbit;gi_wp2;exact⟨D,(Only.of_below hb1).setCell (p:=⟨w.heap.size+1,0,none⟩) ((hD _).2 rfl) _,Gr.refl _ _,fun j hj=>by have h:=Nat.lt_of_lt_of_le (hBd j hj) hb1.size;simpa [World.setCell] using h,⟨⟨hD,hset⟩,rfl,hgr.out⟩⟩
       ·obtain rfl:i=ks.length:=(by omega);have hg2:Hid (goodM ss (s,[y0,y1,y2,y3,y4,y5,y6,(q:Int)])=true):=(by show _=_;rw[←hg.out,List.drop_length];rfl);clear hg;gi_wp2;exact⟨D,Only.of_below hbi,Gr.refl _ _,fun j hj=>Nat.lt_of_lt_of_le (hBd j hj) hbi.size,⟨⟨hD,(hbi.block _ (by omega)).trans hbox⟩,by rw[List.all_append,hall,Bool.true_and];simp[hg2.out]⟩⟩
     case done=>
      intro d xs D W hS hI hOn hGr hd hnd hdef;obtain⟨⟨hD,hbox⟩,hall⟩:=hI;have hF:=qH (show chkA n ss=0 by rw[hG.out,←hG3.out,if_pos (by rw[←grows_mvs,←hS];exact hall)]);have hcE:=cell_of_one hbox;have hfE:=free_of_one hbox;have hset:=one_setCell (u:=.int .i64 0) hbox;clear hall hS;have hdne:d ≠ w.heap.size+1:=(by omega);have hbE:=((hbW.trans (hOn.below hbW.size (fun i hi=>by omega))).setCell (p:=⟨w.heap.size+1,0,none⟩) (by show w.heap.size≤w.heap.size+1;omega) (.int .i64 0));go_wp2;refine⟨by simp,.inl ⟨_,_,rfl,run_takeDeferred ((Below.heap_setCell W ⟨w.heap.size+1,0,none⟩ _ d hdne).trans hdef),?_⟩⟩;exact⟨_,results_cellE rfl _ _ (w.heap.size+1) 0 rfl (cell_of_one ((World.putObj_heap_other (by omega)).trans hset)),by rw[hF.out],below_putObj hbE (by omega) _⟩
     case stop=>
      rintro d c pre D W _ ⟨⟨hD,hbox⟩,rfl,hgr⟩ hOn hGr hd hnd hdef;have hF:=qH (show chkA n ss=21 by rw[hG.out,←hG3.out,if_neg (by rw[hgr];decide)]);have hbE:=hbW.trans (hOn.below hbW.size (fun i hi=>by omega));gi_wp2;refine⟨by simp,.inl ⟨_,_,rfl,run_takeDeferred hdef,?_⟩⟩;exact⟨_,results_cellE rfl _ _ (w.heap.size+1) 21 rfl (cell_of_one ((World.putObj_heap_other (by omega)).trans hbox)),by rw[hF.out],below_putObj hbE (by omega) _⟩
end Go.Proofs.YtcnedkkcgdkioaaGreat
