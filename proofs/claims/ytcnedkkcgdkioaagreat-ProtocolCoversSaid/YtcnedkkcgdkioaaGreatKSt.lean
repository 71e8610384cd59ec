/- Texts of this claim, put together: MA MB TV TW TX. -/
import Derived.Test.YtcnedkkcgdkioaaGreatKSs

set_option maxRecDepth 100000
set_option maxHeartbeats 12800000
namespace Go.Proofs.YtcnedkkcgdkioaaGreat
open Go.RowKit
def prs (cs:List Cs) (ws:Jc) (i j:Nat):List (Int × List Int × Jb):=
 ((List.range i).flatMap fun(p:Nat)=>ws.map fun w=>((p:Int),(cs.getD p csNil).1,w))++(ws.take j).map fun w=>((i:Int),(cs.getD i csNil).1,w)
theorem prs_snoc {cs:List Cs}{ws:Jc}{i j:Nat}(h:j < ws.length):prs cs ws i (j+1)=prs cs ws i j ++ [((i:Int),(cs.getD i csNil).1,ws.getD j [])]:=by
 unfold prs;rw[take_snoc h [],List.map_append,<-List.append_assoc];rfl
theorem prs_row {cs:List Cs}{ws:Jc}{i:Nat}:prs cs ws i ws.length=prs cs ws (i+1) 0:=by
 unfold prs;rw[List.take_length,List.take_zero,List.map_nil,List.append_nil,List.range_succ,List.flatMap_append];simp
theorem prs_end {cs:List Cs}{ws:Jc}:prs cs ws cs.length 0=pairsP cs ws:=by
 have hz:cs.zipIdx=(List.range cs.length).map fun p=>(cs.getD p csNil,p):=by
  refine List.ext_getElem (by simp) fun k h1 h2=>?_;have hk:k < cs.length:=by simpa using h1
  simp[List.getD_eq_getElem?_getD,List.getElem?_eq_getElem hk]
 unfold prs pairsP;rw[List.take_zero,List.map_nil,List.append_nil,hz,List.flatMap_map]
theorem prs_len {cs:List Cs}{ws:Jc}{i j:Nat}(hj:j<=ws.length):(prs cs ws i j).length=i * ws.length+j:=by
 unfold prs;rw[List.length_append,List.length_flatMap,List.length_map,List.length_take,Nat.min_eq_left hj]
 have:((List.range i).map fun(p:Nat)=>(ws.map fun w=>((p:Int),(cs.getD p csNil).1,w)).length)=List.replicate i ws.length:=by
  refine List.ext_getElem (by simp) fun k h1 h2=>by simp
 rw[this,List.sum_replicate_nat]
theorem prs_mem {cs:List Cs}{ws:Jc}{i j:Nat}{x:Int × List Int × Jb}(h:x∈prs cs ws i j):x.2.2∈ws:=by
 unfold prs at h;rcases List.mem_append.1 h with h|h
 ·obtain⟨p,_,h⟩:=List.mem_flatMap.1 h;obtain⟨w,hw,rfl⟩:=List.mem_map.1 h;exact hw
 ·obtain⟨w,hw,rfl⟩:=List.mem_map.1 h;exact List.mem_of_mem_take hw
theorem prs_le {cs:List Cs}{ws:Jc}{i j M:Nat}(hi:i < cs.length) (hj:j<=ws.length) (h:cs.length * ws.length<=M):(prs cs ws i j).length<=M:=by
 rw[prs_len hj];have h1:(i+1) * ws.length<=cs.length * ws.length:=Nat.mul_le_mul_right _ hi;rw[Nat.succ_mul] at h1;omega
def plM (n:Nat) (xs:List Int) (wd:Jb) (vs:Jb):Nat->Jb × Jb
 | 0=>(vs,[])
 | k+1=>plN n xs wd vs k
def rwF (n:Nat) (xs:List Int) (wd:Jb) (vs:Jb) (k p:Nat):List Int:=
 if k=0 then fstV (p:Int) (xs.getD p 0) else seeV (wd.getD (k - 1) []) k p ((plM n xs wd vs k).2.getD (k - 1) [])
theorem plM_step (n:Nat) (xs:List Int) (wd:Jb) (vs:Jb):∀k,plM n xs wd vs (k+1)=((idN (rwF n xs wd vs k) (plM n xs wd vs k).1 n).1,(plM n xs wd vs k).2 ++ [(idN (rwF n xs wd vs k) (plM n xs wd vs k).1 n).2])
 | 0=>by
  have:rwF n xs wd vs 0=fun(p:Nat)=>fstV (p:Int) (xs.getD p 0):=by funext p;unfold rwF;rw[if_pos rfl]
  rw[this];rfl
 | k+1=>by
  have:rwF n xs wd vs (k+1)=fun p=>seeV (wd.getD k []) (k+1) p ((plN n xs wd vs k).2.getD k []):=by funext p;unfold rwF;rw[if_neg (by omega)];rfl
  rw[this];rfl
theorem plM_len (n:Nat) (xs:List Int) (wd:Jb) (vs:Jb):∀k,(plM n xs wd vs k).2.length=k
 | 0=>rfl
 | k+1=>plN_len n xs wd vs k
theorem plM_le (n:Nat) (xs:List Int) (wd:Jb) (vs:Jb):∀k,(plM n xs wd vs k).1.length<=vs.length+n * k
 | 0=>Nat.le_refl _
 | k+1=>plN_le n xs wd vs k
theorem plM_rows (n:Nat) (xs:List Int) (wd:Jb) (vs:Jb) {k j:Nat}(hj:j < k):((plM n xs wd vs k).2.getD j []).length=n:=by
 cases k with
 | zero=>cases hj
 | succ k=>
  have hl:j < (plN n xs wd vs k).2.length:=by rw[plN_len];exact hj
  show((plN n xs wd vs k).2.getD j []).length=n
  rw[getD_eq hl];exact plN_rows n xs wd vs k _ (List.getElem_mem hl)
theorem rwF_len (n:Nat) (xs:List Int) (wd:Jb) (vs:Jb) (k p:Nat):(rwF n xs wd vs k p).length=8:=by
 unfold rwF;split
 ·rfl
 ·simp[seeV,herL]
def KpS (b:Nat) (W W':World):Prop:=W.heap.size<=W'.heap.size/\∀k,k < W.heap.size->k ≠ b->W'.heap[k]? = W.heap[k]?
theorem KpS.refl (b:Nat) (W:World):KpS b W W:=⟨Nat.le_refl _,fun _ _ _=>rfl⟩
theorem KpS.trans {b:Nat}{A B C:World}(h:KpS b A B) (g:KpS b B C):KpS b A C:=
 ⟨Nat.le_trans h.1 g.1,fun k hk hb=>(g.2 k (Nat.lt_of_lt_of_le hk h.1) hb).trans (h.2 k hk hb)⟩
theorem KpS.below {b:Nat}{A B:World}(h:Below A.heap.size A B):KpS b A B:=⟨h.size,fun k hk _=>h.block k hk⟩
theorem KpS.others {b:Nat}{A B C:World}(h:KpS b A B) (hs:B.heap.size<=C.heap.size) (ho:∀k,k ≠ b->C.heap[k]? = B.heap[k]?):KpS b A C:=⟨Nat.le_trans h.1 hs,fun k hk hb=>(ho k hb).trans (h.2 k hk hb)⟩
theorem KpS.keepX {b:Nat}{A B:World}{E:TypeId}{cs:Array Value}(h:KpS b A B) (hb:A.heap[b]? = some (.cells cs E)):KeepX E A B:=fun k cs' t hk ht=>by
 refine h.2 k (Array.getElem?_eq_some_iff.1 hk).1 fun e=>?_;subst e;rw[hb] at hk;injection hk with hk;injection hk with _ hk;exact ht hk.symm
theorem KpS.obj {b k:Nat}{A B:World}{o:Obj}(h:KpS b A B) (hk:k ≠ b) (ho:A.heap[k]? = some o):B.heap[k]? = some o:=(h.2 k (Array.getElem?_eq_some_iff.1 ho).1 hk).trans ho
theorem EVi.cell {w:World}{B g n cap:Nat}{us:Jb}(h:OwX 48 1 EVi w B (.slice (some ⟨g,0,none⟩) n cap) n us) {j:Nat}(hj:j < n):∃u,w.cell? ⟨g,j,none⟩=some u/\OI w 0 u (us.getD j []).length (us.getD j []):=by
 have hl:=h.length;obtain⟨cs,h1,⟨u,rfl,h2⟩,h3⟩:=OwX.cells h (j:=j) (x:=us.getD j []) (by rw[getD_eq (by omega)];exact List.getElem?_eq_getElem (by omega));refine⟨u,?_,h2⟩;have:=h3 0 u rfl
 rwa [Nat.mul_one,Nat.add_zero] at this
theorem mv_n {n:Int}{ss:Jc}(h0:chkA n ss=0) {s:Jb}(hs:s∈ss) {m:List Int}(hm:m∈s):m.getD 0 0=n:=by
 obtain⟨_,_,h1,_⟩:=chkA_facts h0;have h2:=ssGo_zero h1 s hs;unfold stErr at h2;split at h2
 ·cases h2
 ·obtain⟨i,hi,rfl⟩:=List.mem_iff_getElem.1 hm;have h3:=(mvErr_zero (mvGo_zero h2 i (Nat.zero_le _) (by omega))).2.1;rwa [getD_eq hi] at h3
theorem wL_n {n:Int}{ss:Jc}(h0:chkA n ss=0):∀(k s:Nat) (wd:Jb),wd∈wL ss k s->∀r∈wd,r.getD 0 0=n
 | 0,_,wd,h,r,hr=>by
  rw[wL,List.mem_singleton] at h;subst h;cases hr
 | k+1,s,wd,h,r,hr=>by
  rw[wL] at h;obtain⟨m,hm,h⟩:=List.mem_flatMap.1 h;obtain⟨w',hw',rfl⟩:=List.mem_map.1 h;rcases List.mem_cons.1 hr with rfl|hr
  ·by_cases hs:s < ss.length
   ·rw[getD_eq hs] at hm;have:=mv_n h0 (List.getElem_mem hs) hm
    rw[rdOf,List.getD_eq_getElem?_getD,List.getElem?_take_of_lt (by decide),<-List.getD_eq_getElem?_getD];exact this
   ·rw[List.getD_eq_getElem?_getD,List.getElem?_eq_none (by omega)] at hm;cases hm
  ·exact wL_n h0 k _ w' hw' r hr
end Go.Proofs.YtcnedkkcgdkioaaGreat
namespace Go.Proofs.YtcnedkkcgdkioaaGreat
open Go.RowKit
variable {w0 W0 W W':World} {S:Value->Value->Array Value} {P:Array Value} {wv xv lv:Value} {ws:Jc} {vs rows:Jb} {xs:List Ex} {l:List Int} {ci:Int}
structure BtS (w0:World) (S:Value->Value->Array Value) (P:Array Value) (wv:Value) (ws:Jc) (vs:Jb) (xs:List Ex) (W:World):Prop where
 bel:Below w0.heap.size w0 W
 kP:W.heap[w0.heap.size]? = some (.cells P 29)
 kZ:W.heap[w0.heap.size+1]? = some (.cells zSys 35)
 kS:∃va vc xa xc,W.heap[w0.heap.size+1+1]? = some (.cells (S (.slice va vs.length vc) (.slice xa xs.length xc)) 35)/\OwX 114 8 EI W 0 (.slice va vs.length vc) vs.length vs/\OwX 80 3 EEx W w0.heap.size (.slice xa xs.length xc) xs.length xs
 kW:OwX 77 1 EWd W 0 wv ws.length ws
structure BtK (w0 W0:World) (S:Value->Value->Array Value) (xv:Value) (ci:Int) (wv:Value) (vs rows:Jb) (W:World):Prop where
 bel:Below w0.heap.size w0 W
 kp:KpS (w0.heap.size+1+1) W0 W
 kS:∃va vc,W.heap[w0.heap.size+1+1]? = some (.cells (S (.slice va vs.length vc) xv) 35)/\OwX 114 8 EI W 0 (.slice va vs.length vc) vs.length vs
 kX:∃ya yc,W.heap[W0.heap.size]? = some (.cells #[.int .i64 ci,wv,.slice ya rows.length yc] 80)/\OwX 48 1 EVi W (W0.heap.size+1) (.slice ya rows.length yc) rows.length rows
structure BtQ (w0 W0:World) (S:Value->Value->Array Value) (xv:Value) (vs:Jb) (l:List Int) (lv:Value) (W:World):Prop where
 bel:Below w0.heap.size w0 W
 kp:KpS (w0.heap.size+1+1) W0 W
 kS:∃va vc,W.heap[w0.heap.size+1+1]? = some (.cells (S (.slice va vs.length vc) xv) 35)/\OwX 114 8 EI W 0 (.slice va vs.length vc) vs.length vs
 kL:OI W W0.heap.size lv l.length l
theorem EWd.stbS:Stab 35 EWd:=EWd.stab (by decide)
theorem EWd.stbX:Stab 80 EWd:=EWd.stab (by decide)
theorem BtQ.keep (h:BtQ w0 W0 S xv vs l lv W) (hb:Below W.heap.size W W'):BtQ w0 W0 S xv vs l lv W':=by
 obtain⟨h1,h2,⟨va,vc,h3,h4⟩,h5⟩:=h;exact⟨btt h1 hb,h2.trans (KpS.below hb),⟨va,vc,keptO hb h3,h4.keep (EI.stab _) hb⟩,h5.keep hb⟩
theorem BtQ.start (h:BtK w0 W0 S xv ci wv vs rows W):BtQ w0 W S xv vs [] (.slice none 0 0) W:=⟨h.bel,KpS.refl _ _,h.kS,OI.nil _ _⟩
theorem BtQ.put {vs':Jb}{va:Option Addr}{vc:Nat}{S':Array Value}(h:BtQ w0 W0 S xv vs l lv W) (_hk:W.heap[w0.heap.size+1+1]? = some (.cells S' 35)) (hx:KeepX 35 W W') (hs:W.heap.size<=W'.heap.size) (hbl:Below w0.heap.size w0 W') (ho:∀k,k ≠ w0.heap.size+1+1->W'.heap[k]? = W.heap[k]?)
  (hS:W'.heap[w0.heap.size+1+1]? = some (.cells (S (.slice va vs'.length vc) xv) 35)) (hV:OwX 114 8 EI W 0 (.slice va vs'.length vc) vs'.length vs'):BtQ w0 W0 S xv vs' l lv W':=
 ⟨hbl,h.kp.others hs ho,⟨va,vc,hS,hV.other (EI.stab _) (by decide) hx⟩,h.kL.other (by decide) hx⟩
theorem BtQ.app {y:Int}{lv':Value}(h:BtQ w0 W0 S xv vs l lv W) (hw:w0.heap.size<=W0.heap.size) (hO:OI W' W0.heap.size lv' (l.length+1) (l ++ [y])) (hg:W.grownBy W' lv.ownBlock) (hb:Below W0.heap.size W W'):BtQ w0 W0 S xv vs (l ++ [y]) lv' W':=by
 obtain⟨h1,h2,⟨va,vc,h3,h4⟩,h5⟩:=h;have hx:KeepX 3 W W':=KeepX.own h5 hg;exact⟨h1.trans (hb.mono hw),⟨Nat.le_trans h2.1 hb.size,fun k hk hne=>(hb.block k hk).trans (h2.2 k hk hne)⟩,⟨va,vc,(hx _ _ _ h3 (by decide)).trans h3,h4.other (EI.stab _) (by decide) hx⟩,by rw[List.length_append];exact hO⟩
theorem BtK.row {W3:World}{vs':Jb}(h:BtK w0 W0 S xv ci wv vs rows W3) (q:BtQ w0 W3 S xv vs' l lv W) (hw:w0.heap.size+1+1 < W0.heap.size):BtK w0 W0 S xv ci wv vs' rows W:=by
 obtain⟨_,_,h3,_⟩:=h.kS;obtain⟨ya,yc,h4,h5⟩:=h.kX;exact⟨q.bel,h.kp.trans q.kp,q.kS,ya,yc,q.kp.obj (by omega) h4,h5.other (EVi.stab (by decide)) (by decide) (q.kp.keepX h3)⟩
theorem BtK.put {v':Value}{ya:Option Addr}{yc:Nat}(h:BtK w0 W0 S xv ci wv vs rows W) (hw:w0.heap.size+1+1 < W0.heap.size) (hX:W.heap[W0.heap.size]? = some (.cells #[.int .i64 ci,wv,.slice ya rows.length yc] 80)) (hO:OwX 48 1 EVi W' (W0.heap.size+1) v' (rows.length+1) (rows ++ [l])) (hb:Below (W0.heap.size+1) W W') (hx:KeepX 48 W W') :
  BtK w0 W0 S xv ci wv vs (rows ++ [l]) (W'.setCell ⟨W0.heap.size,2,none⟩ v'):=by
 obtain⟨h1,h2,⟨va,vc,h3,h4⟩,-⟩:=h;have hX':=(hx _ _ _ hX (by decide)).trans hX;have hx2:=KeepX.setCell (p:=⟨W0.heap.size,2,none⟩) hX' v';obtain⟨a9,c9,rfl⟩:=hO.shape;refine⟨(h1.trans (hb.mono (by omega))).setCell (p:=⟨W0.heap.size,2,none⟩) (by show w0.heap.size<=W0.heap.size;omega) _,?_,⟨va,vc,(hx2 _ _ _ ((hx _ _ _ h3 (by decide)).trans h3) (by decide)).trans ((hx _ _ _ h3 (by decide)).trans h3),(h4.other (EI.stab _) (by decide) hx).other (EI.stab _) (by decide) hx2⟩,a9,c9,?_,?_⟩
 ·refine⟨by rw[World.size_setCell];exact Nat.le_trans h2.1 hb.size,fun k hk hne=>?_⟩;exact(Below.heap_setCell _ ⟨W0.heap.size,2,none⟩ _ k (by show k ≠ W0.heap.size;omega)).trans ((hb.block k (by omega)).trans (h2.2 k hk hne))
 ·rw[List.length_append];exact heap_setCell_same _ _ 2 _ _ _ hX'
 ·rw[List.length_append];exact hO.other (EVi.stab (by decide)) (by decide) hx2
theorem BtS.mid {wv':Value}{vs':Jb}{tv:Value}(h:BtS w0 S P wv ws vs xs W0) (hS:W0.heap[w0.heap.size+1+1]? = some (.cells (S tv xv) 35)) (hX:OwX 80 3 EEx W0 w0.heap.size xv xs.length xs) (k:BtK w0 W0 S xv ci wv' vs' rows W) :
  W.heap[w0.heap.size]? = some (.cells P 29)/\W.heap[w0.heap.size+1]? = some (.cells zSys 35)/\OwX 80 3 EEx W w0.heap.size xv xs.length xs/\OwX 77 1 EWd W 0 wv ws.length ws:=
 ⟨k.kp.obj (by omega) h.kP,k.kp.obj (by omega) h.kZ,hX.other (EEx.stab (by decide) (by decide) (by decide)) (by decide) (k.kp.keepX hS),h.kW.other EWd.stbS (by decide) (k.kp.keepX hS)⟩
theorem BtS.put {wv' v':Value}{vs':Jb}{x:Ex}(h9:∀t x v,(S t x).setIfInBounds 9 v=S t v) (k:BtK w0 W0 S xv ci wv' vs' rows W)
  (m:W.heap[w0.heap.size]? = some (.cells P 29)/\W.heap[w0.heap.size+1]? = some (.cells zSys 35)/\OwX 80 3 EEx W w0.heap.size xv xs.length xs/\OwX 77 1 EWd W 0 wv ws.length ws)
  (hO:OwX 80 3 EEx W' w0.heap.size v' (xs.length+1) (xs ++ [x])) (hb:Below w0.heap.size W W') (hx:KeepX 80 W W') :
  BtS w0 S P wv ws vs' (xs ++ [x]) (W'.setCell ⟨w0.heap.size+1+1,9,none⟩ v'):=by
 obtain⟨m1,m2,m3,m4⟩:=m;obtain⟨va,vc,h3,h4⟩:=k.kS;have h3':=(hx _ _ _ h3 (by decide)).trans h3;have hx2:=KeepX.setCell (p:=⟨w0.heap.size+1+1,9,none⟩) h3' v';obtain⟨a9,c9,rfl⟩:=hO.shape;refine⟨(k.bel.trans hb).setCell (p:=⟨w0.heap.size+1+1,9,none⟩) (by show w0.heap.size<=w0.heap.size+1+1;omega) _,?_,?_,⟨va,vc,a9,c9,?_,(h4.other (EI.stab _) (by decide) hx).other (EI.stab _) (by decide) hx2,?_⟩,(m4.other EWd.stbX (by decide) hx).other EWd.stbS (by decide) hx2⟩
 ·exact(Below.heap_setCell _ ⟨w0.heap.size+1+1,9,none⟩ _ _ (by show w0.heap.size ≠ w0.heap.size+1+1;omega)).trans ((hx _ _ _ m1 (by decide)).trans m1)
 ·exact(Below.heap_setCell _ ⟨w0.heap.size+1+1,9,none⟩ _ _ (by show w0.heap.size+1 ≠ w0.heap.size+1+1;omega)).trans ((hx _ _ _ m2 (by decide)).trans m2)
 ·rw[List.length_append];have:=heap_setCell_same _ _ 9 _ _ (.slice a9 (xs.length+1) c9) h3'
  rwa [h9] at this
 ·rw[List.length_append];exact hO.other (EEx.stab (by decide) (by decide) (by decide)) (by decide) hx2
end Go.Proofs.YtcnedkkcgdkioaaGreat
namespace Go.Proofs.YtcnedkkcgdkioaaGreat
open Go.RowKit
def zSysV:Value:=.agg #[.int .i64 0,.int .i64 0,.int .i64 0,.slice none 0 0,.int .i64 0,.slice none 0 0,.int .i64 0,.int .i64 0,.slice none 0 0,.slice none 0 0]
theorem buildBad {w:World}{v:Value}{n i o an r M E:Int}{cs:List Cs}{ss:Jc}(h:PrV w v n i o cs an ss r)
  (hC:∀W,Below w.heap.size w W->Calls Tryz.prog 72 #[v] W fun e w'=>e = .returned (.tuple #[.int .i64 M,.int .i64 E])/\Below W.heap.size W w') (hbad:E ≠ 0\/4096 < M) :
  Calls Tryz.prog 28 #[v] w fun e w'=>e = .returned (.tuple #[zSysV,.int .i64 (if E ≠ 0 then E else 17)])/\Below w.heap.size w w':=by
 replace hC:=qH hC;obtain⟨a,c,a',c',rfl,-,-⟩:=h;obtain⟨W1,hW1⟩:=exF (((w.alloc (.cells #[.int .i64 n,.int .i64 i,.int .i64 o,.slice a cs.length c,.int .i64 an,.slice a' ss.length c',.int .i64 r] 29)).alloc (.cells #[.int .i64 0,.int .i64 0,.int .i64 0,.slice none 0 0,.int .i64 0,.slice none 0 0,.int .i64 0,.int .i64 0,.slice none 0 0,.slice none 0 0] 35)).alloc (.cells #[.int .i64 0] 41));have hs1:W1.heap.size=w.heap.size+3:=by rw[hW1];simp
 have hb1:Below w.heap.size w W1:=by rw[hW1];exact(((Below.refl _ w).alloc (Nat.le_refl _) _).alloc (by simp) _).alloc (by simp;omega) _
 have kP:W1.heap[w.heap.size]? = some (.cells #[.int .i64 n,.int .i64 i,.int .i64 o,.slice a cs.length c,.int .i64 an,.slice a' ss.length c',.int .i64 r] 29):=by
  rw[hW1];exact(Below.heap_alloc _ _ _ (by simp;omega)).trans ((Below.heap_alloc _ _ _ (by simp)).trans (heap_alloc_new w _))
 have kS:W1.heap[w.heap.size+1]? = some (.cells #[.int .i64 0,.int .i64 0,.int .i64 0,.slice none 0 0,.int .i64 0,.slice none 0 0,.int .i64 0,.int .i64 0,.slice none 0 0,.slice none 0 0] 35):=by
  rw[hW1];have:=heap_alloc_new (w.alloc (.cells #[.int .i64 n,.int .i64 i,.int .i64 o,.slice a cs.length c,.int .i64 an,.slice a' ss.length c',.int .i64 r] 29)) (.cells #[.int .i64 0,.int .i64 0,.int .i64 0,.slice none 0 0,.int .i64 0,.slice none 0 0,.int .i64 0,.int .i64 0,.slice none 0 0,.slice none 0 0] 35)
  rw[World.size_alloc] at this;exact(Below.heap_alloc _ _ _ (by simp)).trans this
 have kE:W1.heap[w.heap.size+1+1]? = some (.cells #[.int .i64 0] 41):=by
  rw[hW1];have:=heap_alloc_new ((w.alloc (.cells #[.int .i64 n,.int .i64 i,.int .i64 o,.slice a cs.length c,.int .i64 an,.slice a' ss.length c',.int .i64 r] 29)).alloc (.cells #[.int .i64 0,.int .i64 0,.int .i64 0,.slice none 0 0,.int .i64 0,.slice none 0 0,.int .i64 0,.int .i64 0,.slice none 0 0,.slice none 0 0] 35)) (.cells #[.int .i64 0] 41)
  rwa [World.size_alloc,World.size_alloc] at this
 obtain⟨g0,g1,g2,g3,g4,g5,g6⟩:=box7' kP;rw[hW1] at g0 g1 g2 g3 g4 g5 g6;replace kS:=qH kS;replace kE:=qH kE;clear kP;by_cases hE:E=0
 ·subst hE;have hM:decide ((4096:Int) < M)=true:=decide_eq_true (by rcases hbad with h|h;exact absurd rfl h;exact h);rw[if_neg (fun h=>h rfl)];clear hbad;go_enter Tryz.func28, Tryz.ntmps28
  go_wp2_with fail
  rw[<-hW1];replace hW1:=qH hW1;refine(hC.out W1 hb1).mono ?_;rintro e w3 ⟨rfl,hb3⟩;clear g0 g1 g2 g3 g4 g5 g6;have hS:=keptO hb3 kS.out;have hEe:=keptO hb3 kE.out;obtain⟨⟨y0,y1,y2,y3,y4,y5,y6⟩,y7,y8,y9⟩:=box10' hS;have y10:=cell_of_one hEe;have fz3:=row_free hS;have fz4:=row_free hEe;go_wp2_with fail
  refine storeEnd10 (u0:=.int .i64 0) (u1:=.int .i64 0) (u2:=.int .i64 0) (u3:=.slice none 0 0) (u4:=.int .i64 0) (u5:=.slice none 0 0) (u6:=.int .i64 0) (u7:=.int .i64 0) (u8:=.slice none 0 0) (u9:=.slice none 0 0) hS ?_;intro W21 hW21 hbl21 hX21 h21 ho21;rw[<-hW21];have hE22:W21.heap[w.heap.size+1+1]? = some (.cells #[.int .i64 0] 41):=(ho21 _ (by omega)).trans hEe;have hcF:(W21.setCell ⟨w.heap.size+1+1,0,none⟩ (.int .i64 17)).heap[w.heap.size+1]? = _:=(Below.heap_setCell W21 ⟨w.heap.size+1+1,0,none⟩ _ (w.heap.size+1) (by show w.heap.size+1 ≠ w.heap.size+1+1;omega)).trans h21;have hbF:Below w.heap.size w (W21.setCell ⟨w.heap.size+1+1,0,none⟩ (.int .i64 17)):=(hbl21 _ _ (by omega) (btt hb1 hb3)).setCell (p:=⟨w.heap.size+1+1,0,none⟩) (by show w.heap.size<=w.heap.size+1+1;omega) _;exact⟨rfl,_,results_sys rfl _ _ _ _ 17 rfl rfl hcF (cell_of_one (one_setCell hE22)),rfl,hbF⟩
 ·have hE1:(E != 0)=true:=by simpa using hE
  rw[if_pos hE];clear hbad;go_enter Tryz.func28, Tryz.ntmps28
  go_wp2_with fail
  rw[<-hW1];replace hW1:=qH hW1;refine(hC.out W1 hb1).mono ?_;rintro e w3 ⟨rfl,hb3⟩;clear g0 g1 g2 g3 g4 g5 g6;have hS:=keptO hb3 kS.out;have hEe:=keptO hb3 kE.out;obtain⟨⟨y0,y1,y2,y3,y4,y5,y6⟩,y7,y8,y9⟩:=box10' hS;have y10:=cell_of_one hEe;have fz3:=row_free hS;have fz4:=row_free hEe;go_wp2_with fail
  refine storeEnd10 (u0:=.int .i64 0) (u1:=.int .i64 0) (u2:=.int .i64 0) (u3:=.slice none 0 0) (u4:=.int .i64 0) (u5:=.slice none 0 0) (u6:=.int .i64 0) (u7:=.int .i64 0) (u8:=.slice none 0 0) (u9:=.slice none 0 0) hS ?_;intro W21 hW21 hbl21 hX21 h21 ho21;rw[<-hW21];have hE22:W21.heap[w.heap.size+1+1]? = some (.cells #[.int .i64 0] 41):=(ho21 _ (by omega)).trans hEe;have hcF:(W21.setCell ⟨w.heap.size+1+1,0,none⟩ (.int .i64 E)).heap[w.heap.size+1]? = _:=(Below.heap_setCell W21 ⟨w.heap.size+1+1,0,none⟩ _ (w.heap.size+1) (by show w.heap.size+1 ≠ w.heap.size+1+1;omega)).trans h21;have hbF:Below w.heap.size w (W21.setCell ⟨w.heap.size+1+1,0,none⟩ (.int .i64 E)):=(hbl21 _ _ (by omega) (btt hb1 hb3)).setCell (p:=⟨w.heap.size+1+1,0,none⟩) (by show w.heap.size<=w.heap.size+1+1;omega) _;exact⟨rfl,_,results_sys rfl _ _ _ _ E rfl rfl hcF (cell_of_one (one_setCell hE22)),rfl,hbF⟩
def bldE (n i o:Int) (cs:List Cs) (an:Int) (ss:Jc) (r:Int):Int:=
 if chkP n i o cs an ss r ≠ 0 then chkP n i o cs an ss r else if 4096 < numP cs ss r.toNat then 17 else 0
def BldOut (w:World) (n i o:Int) (cs:List Cs) (an:Int) (ss:Jc) (r:Int) (e:Ending) (w':World):Prop:=
 ((bldE n i o cs an ss r ≠ 0/\e = .returned (.tuple #[zSysV,.int .i64 (bldE n i o cs an ss r)]))\/
  (bldE n i o cs an ss r=0/\∃v',e = .returned (.tuple #[v',.int .i64 0])/\SysV w' v' n i o cs an ss r n (sysP n.toNat cs (wL ss r.toNat 0)).1 (sysP n.toNat cs (wL ss r.toNat 0)).2))/\Below w.heap.size w w'
theorem buildAll {w:World}{v:Value}{n i o an r:Int}{cs:List Cs}{ss:Jc}(h:PrV w v n i o cs an ss r) (hfew:fewP n i o cs an ss r=true) :
  Calls Tryz.prog 28 #[v] w (BldOut w n i o cs an ss r):=by
 unfold fewP at hfew;simp only[Bool.and_eq_true,Bool.or_eq_true,decide_eq_true_eq] at hfew;obtain⟨hft,hf,_,hsz⟩:=hfew;have hC:=fun W (hb:Below w.heap.size w W)=>execCount (h.keep hb) hf;by_cases hc:chkP n i o cs an ss r=0
 ·have hb:bldE n i o cs an ss r=if 4096 < numP cs ss r.toNat then 17 else 0:=by unfold bldE;rw[if_neg (fun k=>k hc)]
  obtain⟨c1,c2,c3,c4,c5⟩:=chkP_zero hc;obtain⟨l1,l2⟩:=chkT_len c1;obtain⟨⟨n1,n5⟩,hin⟩:=task_in c1;by_cases hn:4096 < numP cs ss r.toNat
  ·rw[if_pos hn] at hb;rw[if_neg (fun k=>k hc)] at hC;obtain⟨_,_,_,_,_,_,hA⟩:=id h;have hO:=(chk_cls hA hf c2).wd;have h1:num ss 4097 r.toNat=min (cnt ss r.toNat 0) 4097:=(by unfold num;rw[numL_cnt (LeadOK.ofWd hO) (by omega) _ 0 hO.2.2.1]);have h2:num ss 1048577 r.toNat=min (cnt ss r.toNat 0) 1048577:=by unfold num;rw[numL_cnt (LeadOK.ofWd hO) (by omega) _ 0 hO.2.2.1]
   have h3:(cntP cs ss r.toNat).2=17\/(cntP cs ss r.toNat).2=0/\4096 < (cntP cs ss r.toNat).1:=by
    unfold cntP;split
    ·exact .inl rfl
    ·split
     ·exact .inl rfl
     ·refine .inr ⟨rfl,?_⟩;have h4:cs.length * num ss 4097 r.toNat<=cs.length * num ss 1048577 r.toNat:=Nat.mul_le_mul_left _ (by omega);unfold numP at hn;have h5:4096 < num ss 1048577 r.toNat * cs.length:=(by rw[Nat.mul_comm];omega);show(4096:Int) < ((num ss 1048577 r.toNat * cs.length:Nat):Int)
      omega
   refine(buildBad h hC (by rcases h3 with h|h;exact .inl (by rw[h];decide);exact .inr h.2)).mono ?_;rintro e w' ⟨rfl,hb'⟩;refine⟨.inl ⟨by rw[hb];decide,?_⟩,hb'⟩;rw[hb];rcases h3 with h|h
   ·rw[h];rfl
   ·rw[h.1];rfl
  ·rw[if_neg hn] at hb
   have hn60:numP cs ss r.toNat<=60:=by
    rcases hsz with h|h|h
    ·exact absurd hc h
    ·exact h
    ·exact absurd h hn
   refine(buildGood h (N:=n.toNat) (k:=r.toNat) (by omega) (by omega) hf hft hc hn60).mono ?_;rintro e w' ⟨v',rfl,hS,hb'⟩;exact⟨.inr ⟨hb,v',rfl,hS⟩,hb'⟩
 ·have hb:bldE n i o cs an ss r=chkP n i o cs an ss r:=by unfold bldE;rw[if_pos hc]
  rw[if_pos hc] at hC;refine(buildBad h hC (.inl hc)).mono ?_;rintro e w' ⟨rfl,hb'⟩;refine⟨.inl ⟨by rw[hb];exact hc,?_⟩,hb'⟩;rw[hb,if_pos hc]
theorem eqVws {w:World}{u v:Value}{xs ys:Jb}(hx:KS 8 w u xs) (hy:KS 8 w v ys) :
  Calls Tryz.prog 107 #[u,v] w fun e w'=>e = .returned (.bool (decide (xs=ys)))/\Qt w w':=by
 obtain⟨xa,xc,xb,xo,rfl,hxa,hxc,_⟩:=hx;obtain⟨ya,yc,yb,yo,rfl,hya,hyc,_⟩:=hy;obtain⟨B,hB⟩:∃B,decide (xs=ys)=B:=⟨_,rfl⟩;rw[hB];replace hB:=qH hB;replace hxc:=qH hxc;replace hyc:=qH hyc;by_cases hlen:xs.length=ys.length
 ·rw[<-hlen];replace hlen:=qH hlen;have h0:Hid (xs.take 0=ys.take 0):=rfl;go_enter Tryz.func107, Tryz.ntmps107
  go_wp2;go_loopw [13] (fun iv wr=>∃i:Nat,iv = .int .i64 i/\i<=xs.length/\Hid (xs.take i=ys.take i)/\Qt w wr) (fun iv _=>xs.length - (intOf iv).toNat)
  case atStart=>exact⟨0,rfl,by omega,h0,Qt.refl w⟩
  case round=>
   clear h0;obtain⟨i,rfl,hi,ht,n,rfl⟩:=hrel;by_cases hlt:i < xs.length
   ·obtain rfl:=hxa (by omega);obtain rfl:=hya (by rw[<-hlen.out];omega);have hlt':i < ys.length:=(by rw[<-hlen.out];exact hlt);obtain⟨hx8,hxi⟩:=hxc.out i hlt;obtain⟨hy8,hyi⟩:=hyc.out i hlt';obtain⟨x,hx⟩:=exE (xs.getD i []);obtain⟨y,hy⟩:=exE (ys.getD i []);rw[hx] at hx8 hxi;rw[hy] at hy8 hyi;obtain⟨x0,x1,x2,x3,x4,x5,x6,x7,rfl⟩:=eight hx8;obtain⟨y0,y1,y2,y3,y4,y5,y6,y7,rfl⟩:=eight hy8;obtain⟨c0,c1,c2,c3,c4,c5,c6,c7⟩:=hxi.all8;obtain⟨d0,d1,d2,d3,d4,d5,d6,d7⟩:=hyi.all8;clear hxi hyi hx8 hy8;by_cases he : [x0,x1,x2,x3,x4,x5,x6,x7] = [y0,y1,y2,y3,y4,y5,y6,y7]
    ·have hE:eqL [x0,x1,x2,x3,x4,x5,x6,x7] [y0,y1,y2,y3,y4,y5,y6,y7]=true:=eqL_true.2 he;have ht2:Hid (xs.take (i+1)=ys.take (i+1)):=takes_next ht.out hlt hlt' (by rw[hx,hy,he]);clear hx hy he ht;go_wp2;go_quiet (fail)
     go_wp2;go_roundw
     case rel=>exact⟨i+1,by go_num,hlt,ht2,by first|exact(Qt.mk' w n).step nq|exact Qt.mk' w _⟩
     case measure=>simp[intOf];omega
    ·have hE:eqL [x0,x1,x2,x3,x4,x5,x6,x7] [y0,y1,y2,y3,y4,y5,y6,y7]=false:=eqL_false.2 he
     have hBf:Hid (B=false):=by
      show _=_;rw[<-hB.out];refine decide_eq_false fun h=>he ?_;rw[<-hx,<-hy,h]
     clear hx hy he ht;go_wp2;go_quiet (fail)
     go_wp2;go_ret;exact⟨by rw[hBf.out];rfl,by first|exact(Qt.mk' w n).step nq|exact Qt.mk' w _⟩
   ·have hBt:Hid (B=true):=by
     show _=_;rw[<-hB.out];exact decide_eq_true (takes_all ht.out (by omega) (by rw[<-hlen.out];omega))
    clear ht;go_wp2;go_ret;exact⟨by rw[hBt.out];rfl,Qt.mk' w n⟩
 ·have hBf:B=false:=by rw[<-hB.out];exact decide_eq_false fun h=>hlen (by rw[h])
  subst hBf;have h1:((xs.length:Int) == (ys.length:Int))=false:=by simp;omega
  go_enter Tryz.func107, Tryz.ntmps107
  go_wp2;go_ret;exact⟨rfl,Qt.refl w⟩
theorem eqVecs {w:World}{u v:Value}{xs ys:Jb}(hx:Intss w u xs) (hy:Intss w v ys) :
  Calls Tryz.prog 175 #[u,v,.func (.func 18) #[] #[]] w fun e w'=>e = .returned (.bool (decide (xs=ys)))/\Qt w w':=by
 obtain⟨xa,xc,xb,xo,rfl,hxa,hxc,_⟩:=hx;obtain⟨ya,yc,yb,yo,rfl,hya,hyc,_⟩:=hy;obtain⟨B,hB⟩:∃B,decide (xs=ys)=B:=⟨_,rfl⟩;rw[hB];replace hB:=qH hB;replace hxc:=qH hxc;replace hyc:=qH hyc;by_cases hlen:xs.length=ys.length
 ·rw[<-hlen];replace hlen:=qH hlen;have h0:Hid (xs.take 0=ys.take 0):=rfl;go_enter Tryz.func175, Tryz.ntmps175
  go_wp2;go_loopw [17] (fun iv wr=>∃i:Nat,iv = .int .i64 i/\i<=xs.length/\Hid (xs.take i=ys.take i)/\Qt w wr) (fun iv _=>xs.length - (intOf iv).toNat)
  case atStart=>exact⟨0,rfl,by omega,h0,Qt.refl w⟩
  case round=>
   clear h0;obtain⟨i,rfl,hi,ht,n,rfl⟩:=hrel;by_cases hlt:i < xs.length
   ·obtain rfl:=hxa (by omega);obtain rfl:=hya (by rw[<-hlen.out];omega);have hlt':i < ys.length:=(by rw[<-hlen.out];exact hlt);obtain⟨cu,hcu,hu⟩:=hxc.out i hlt;obtain⟨cv,hcv,hv⟩:=hyc.out i hlt';have H:=qH (eqInts (hu.keep (below_drewN (Below.refl _ w) n)) (hv.keep (below_drewN (Below.refl _ w) n)));obtain⟨x,hx⟩:=exE (xs.getD i []);obtain⟨y,hy⟩:=exE (ys.getD i []);rw[hx] at hu;rw[hy] at hv;rw[hx,hy] at H;obtain⟨xa',xc',rfl⟩:=hu.shape;obtain⟨ya',yc',rfl⟩:=hv.shape;clear hu hv;by_cases he:x=y
    ·rw[decide_eq_true he] at H;have ht2:Hid (xs.take (i+1)=ys.take (i+1)):=takes_next ht.out hlt hlt' (by rw[hx,hy,he]);clear hx hy he ht;go_wp2_with fail
     refine H.out.mono ?_;rintro e w' ⟨rfl,m,rfl⟩;go_wp2_with fail
     go_roundw
     case rel=>exact⟨i+1,by go_num,hlt,ht2,by first|exact(Qt.mk' w n).step m|exact Qt.mk' w _⟩
     case measure=>simp[intOf];omega
    ·rw[decide_eq_false he] at H
     have hBf:Hid (B=false):=by
      show _=_;rw[<-hB.out];refine decide_eq_false fun h=>he ?_;rw[<-hx,<-hy,h]
     clear hx hy he ht;go_wp2_with fail
     refine H.out.mono ?_;rintro e w' ⟨rfl,m,rfl⟩;go_wp2_with fail
     go_ret;exact⟨by rw[hBf.out];rfl,by first|exact(Qt.mk' w n).step m|exact Qt.mk' w _⟩
   ·have hBt:Hid (B=true):=by
     show _=_;rw[<-hB.out];exact decide_eq_true (takes_all ht.out (by omega) (by rw[<-hlen.out];omega))
    clear ht;go_wp2;go_ret;exact⟨by rw[hBt.out];rfl,Qt.mk' w n⟩
 ·have hBf:B=false:=by rw[<-hB.out];exact decide_eq_false fun h=>hlen (by rw[h])
  subst hBf;have h1:((xs.length:Int) == (ys.length:Int))=false:=by simp;omega
  go_enter Tryz.func175, Tryz.ntmps175
  go_wp2;go_ret;exact⟨rfl,Qt.refl w⟩
def sameB (x y:Ex):Bool:=decide (x.1=y.1) && (decide (x.2.1=y.2.1) && decide (x.2.2=y.2.2))
theorem sameB_iff {x y:Ex}:sameB x y=decide (x=y):=by
 obtain⟨a,b,c⟩:=x;obtain⟨a',b',c'⟩:=y;unfold sameB;by_cases h1:a=a'<;>by_cases h2:b=b'<;>by_cases h3:c=c'<;>simp[h1,h2,h3]
theorem sameX {w:World}{x y:Ex}{u1 u2 v1 v2:Value}(h1:KS 7 w u1 x.2.1) (h2:Intss w u2 x.2.2) (k1:KS 7 w v1 y.2.1) (k2:Intss w v2 y.2.2) :
  Calls Tryz.prog 109 #[.agg #[.int .i64 x.1,u1,u2],.agg #[.int .i64 y.1,v1,v2]] w fun e w'=>e = .returned (.bool (sameB x y))/\Below w.heap.size w w':=by
 obtain⟨x0,xw,xv⟩:=x;obtain⟨y0,yw,yv⟩:=y;obtain⟨W1,hW1⟩:=exF ((w.alloc (.cells #[.int .i64 x0,u1,u2] 80)).alloc (.cells #[.int .i64 y0,v1,v2] 80));have hb1:Below w.heap.size w W1:=by rw[hW1];exact((Below.refl _ w).alloc (Nat.le_refl _) _).alloc (by simp) _
 have kA:W1.heap[w.heap.size]? = some (.cells #[.int .i64 x0,u1,u2] 80):=by
  rw[hW1];exact(Below.heap_alloc _ _ _ (by simp)).trans (heap_alloc_new w _)
 have kB:W1.heap[w.heap.size+1]? = some (.cells #[.int .i64 y0,v1,v2] 80):=by
  rw[hW1];have:=heap_alloc_new (w.alloc (.cells #[.int .i64 x0,u1,u2] 80)) (.cells #[.int .i64 y0,v1,v2] 80)
  rwa [World.size_alloc] at this
 have HR:=qH (fun W (hb:Below W1.heap.size W1 W)=>eqRds ((h1.keep hb1).keep hb) ((k1.keep hb1).keep hb));have HV:=qH (fun W (hb:Below W1.heap.size W1 W)=>eqVecs ((h2.keep hb1).keep hb) ((k2.keep hb1).keep hb));obtain⟨ua,uc,rfl⟩:=h1.shape;obtain⟨ub,ud,rfl⟩:=h2.shape;obtain⟨va,vc,rfl⟩:=k1.shape;obtain⟨vb,vd,rfl⟩:=k2.shape;have HK:=qH (fun W (hb:Below W1.heap.size W1 W)=>And.intro (keep3 hb (box3' kA)) (keep3 hb (box3' kB)));obtain⟨⟨p0,p1,p2⟩,q0,q1,q2⟩:=HK.out W1 (Below.refl _ _);rw[hW1] at p0 p1 p2 q0 q1 q2;unfold sameB;clear h1 h2 k1 k2 kA kB;by_cases e0:x0=y0
 ·subst e0;rw[decide_eq_true (rfl:x0=x0),Bool.true_and];by_cases e1:xw=yw
  ·rw[decide_eq_true e1,Bool.true_and];simp only[decide_eq_true e1] at HR;clear e1;go_enter Tryz.func109, Tryz.ntmps109
   go_wp2_with fail
   rw[<-hW1];replace hW1:=qH hW1;refine(HR.out W1 (Below.refl _ _)).mono ?_;rintro e w2 ⟨rfl,hq2⟩;have hb2:Below W1.heap.size W1 w2:=hq2.below;clear p0 p1 p2 q0 q1 q2;obtain⟨⟨p0,p1,p2⟩,q0,q1,q2⟩:=HK.out w2 hb2;have hb02:=btt hb1 hb2;go_wp2_with fail
   refine(HV.out w2 hb2).mono ?_;rintro e w3 ⟨rfl,hq3⟩;have hb3:=btt hb02 hq3.below;clear p0 p1 p2 q0 q1 q2;go_wp2;go_ret;exact⟨rfl,hb3⟩
  ·rw[decide_eq_false e1,Bool.false_and];simp only[decide_eq_false e1] at HR;clear e1;go_enter Tryz.func109, Tryz.ntmps109
   go_wp2_with fail
   rw[<-hW1];replace hW1:=qH hW1;refine(HR.out W1 (Below.refl _ _)).mono ?_;rintro e w2 ⟨rfl,hq2⟩;have hb2:Below W1.heap.size W1 w2:=hq2.below;clear p0 p1 p2 q0 q1 q2;obtain⟨⟨p0,p1,p2⟩,q0,q1,q2⟩:=HK.out w2 hb2;have hb02:=btt hb1 hb2;go_wp2;go_ret;exact⟨rfl,hb02⟩
 ·have e2:(x0 == y0)=false:=by simpa using e0
  rw[decide_eq_false e0,Bool.false_and];go_enter Tryz.func109, Tryz.ntmps109
  go_wp2;go_ret;exact⟨rfl,by rw[<-hW1];exact hb1⟩
end Go.Proofs.YtcnedkkcgdkioaaGreat
