/- Texts of this claim, put together: MA MB TV TW TX. -/
import Derived.Test.YtcnedkkcgdkioaaGreatKBs

set_option maxRecDepth 100000
set_option maxHeartbeats 12800000
namespace Go.Proofs.YtcnedkkcgdkioaaGreat
open Go.RowKit
def CV (cs:List Cs) (ws:Jc) (i j:Nat):List (Int × List Int × Jb):=
 ((List.range i).flatMap fun(p:Nat)=>ws.map fun w=>((p:Int),(cs.getD p BE).1,w))++(ws.take j).map fun w=>((i:Int),(cs.getD i BE).1,w)
theorem oS {cs:List Cs}{ws:Jc}{i j:Nat}(h:j < ws.length):CV cs ws i (j+1)=CV cs ws i j ++ [((i:Int),(cs.getD i BE).1,ws.getD j [])]:=by
 unfold CV;rw[BY h [],List.map_append,<-List.append_assoc];rfl
theorem oR {cs:List Cs}{ws:Jc}{i:Nat}:CV cs ws i ws.length=CV cs ws (i+1) 0:=by
 unfold CV;rw[List.take_length,List.take_zero,List.map_nil,List.append_nil,List.range_succ,List.flatMap_append];simp
theorem bR {cs:List Cs}{ws:Jc}:CV cs ws cs.length 0=DU cs ws:=by
 have z:cs.zipIdx=(List.range cs.length).map fun p=>(cs.getD p BE,p):=by
  refine List.ext_getElem (by simp) fun k h b=>?_;have a:k < cs.length:=by simpa using h
  simp[List.getD_eq_getElem?_getD,List.getElem?_eq_getElem a]
 unfold CV DU;rw[List.take_zero,List.map_nil,List.append_nil,z,List.flatMap_map]
theorem oP {cs:List Cs}{ws:Jc}{i j:Nat}(h:j<=ws.length):(CV cs ws i j).length=i * ws.length+j:=by
 unfold CV;rw[List.length_append,List.length_flatMap,List.length_map,List.length_take,Nat.min_eq_left h]
 have:((List.range i).map fun(p:Nat)=>(ws.map fun w=>((p:Int),(cs.getD p BE).1,w)).length)=List.replicate i ws.length:=by
  refine List.ext_getElem (by simp) fun k a b=>by simp
 rw[this,List.sum_replicate_nat]
theorem oQ {cs:List Cs}{ws:Jc}{i j:Nat}{x:Int × List Int × Jb}(h:x∈CV cs ws i j):x.2.2∈ws:=by
 unfold CV at h;rcases List.mem_append.1 h with h|h
 ·obtain⟨p,_,h⟩:=List.mem_flatMap.1 h;obtain⟨w,a,rfl⟩:=List.mem_map.1 h;exact a
 ·obtain⟨w,a,rfl⟩:=List.mem_map.1 h;exact List.mem_of_mem_take a
theorem oO {cs:List Cs}{ws:Jc}{i j M:Nat}(b:i < cs.length) (c:j<=ws.length) (h:cs.length * ws.length<=M):(CV cs ws i j).length<=M:=by
 rw[oP c];have a:(i+1) * ws.length<=cs.length * ws.length:=Nat.mul_le_mul_right _ b;rw[Nat.succ_mul] at a;omega
def DV (n:Nat) (xs:List Int) (wd:Jb) (vs:Jb):Nat->Jb × Jb
 | 0=>(vs,[])
 | k+1=>AQ n xs wd vs k
def CQ (n:Nat) (xs:List Int) (wd:Jb) (vs:Jb) (k p:Nat):List Int:=
 if k=0 then KA (p:Int) (xs.getD p 0) else FY (wd.getD (k - 1) []) k p ((DV n xs wd vs k).2.getD (k - 1) [])
theorem oE (n:Nat) (xs:List Int) (wd:Jb) (vs:Jb):∀k,DV n xs wd vs (k+1)=((AS (CQ n xs wd vs k) (DV n xs wd vs k).1 n).1,(DV n xs wd vs k).2 ++ [(AS (CQ n xs wd vs k) (DV n xs wd vs k).1 n).2])
 | 0=>by
  have:CQ n xs wd vs 0=fun(p:Nat)=>KA (p:Int) (xs.getD p 0):=by funext p;unfold CQ;rw[if_pos rfl]
  rw[this];rfl
 | k+1=>by
  have:CQ n xs wd vs (k+1)=fun p=>FY (wd.getD k []) (k+1) p ((AQ n xs wd vs k).2.getD k []):=by funext p;unfold CQ;rw[if_neg (by omega)];rfl
  rw[this];rfl
theorem bK (n:Nat) (xs:List Int) (wd:Jb) (vs:Jb):∀k,(DV n xs wd vs k).2.length=k
 | 0=>rfl
 | k+1=>IN n xs wd vs k
theorem oC (n:Nat) (xs:List Int) (wd:Jb) (vs:Jb):∀k,(DV n xs wd vs k).1.length<=vs.length+n * k
 | 0=>wC _
 | k+1=>NJ n xs wd vs k
theorem oD (n:Nat) (xs:List Int) (wd:Jb) (vs:Jb) {k j:Nat}(h:j < k):((DV n xs wd vs k).2.getD j []).length=n:=by
 cases k with
 | zero=>cases h
 | succ k=>
  have a:j < (AQ n xs wd vs k).2.length:=by rw[IN];exact h
  show((AQ n xs wd vs k).2.getD j []).length=n
  rw[AK a];exact TW n xs wd vs k _ (wG a)
theorem sL (n:Nat) (xs:List Int) (wd:Jb) (vs:Jb) (k p:Nat):(CQ n xs wd vs k p).length=8:=by
 unfold CQ;split
 ·rfl
 ·simp[FY,IL]
def ER (b:Nat) (W W':World):Prop:=W.heap.size<=W'.heap.size/\∀k,k < W.heap.size->k ≠ b->W'.heap[k]? = W.heap[k]?
theorem ER.refl (b:Nat) (W:World):ER b W W:=⟨wC _,fun _ _ _=>rfl⟩
theorem ER.trans {b:Nat}{A B C:World}(h:ER b A B) (g:ER b B C):ER b A C:=
 ⟨wI h.1 g.1,fun k c a=>(g.2 k (Nat.lt_of_lt_of_le c h.1) a).trans (h.2 k c a)⟩
theorem ER.below {b:Nat}{A B:World}(h:Below A.heap.size A B):ER b A B:=⟨h.size,fun k a _=>h.block k a⟩
theorem ER.others {b:Nat}{A B C:World}(h:ER b A B) (hs:B.heap.size<=C.heap.size) (o:∀k,k ≠ b->C.heap[k]? = B.heap[k]?):ER b A C:=⟨wI h.1 hs,fun k c a=>(o k a).trans (h.2 k c a)⟩
theorem ER.keepX {b:Nat}{A B:World}{E:TypeId}{cs:Array Value}(h:ER b A B) (c:A.heap[b]? = some (.cells cs E)):AE E A B:=fun k s t a d=>by
 refine h.2 k (wD.1 a).1 fun e=>?_;subst e;rw[c] at a;injection a with a;injection a with _ a;exact d a.symm
theorem ER.obj {b k:Nat}{A B:World}{o:Obj}(h:ER b A B) (c:k ≠ b) (a:A.heap[k]? = some o):B.heap[k]? = some o:=(h.2 k (wD.1 a).1 c).trans a
theorem BD.cell {w:World}{B g n cap:Nat}{s:Jb}(h:AA 48 1 BD w B (.slice (some ⟨g,0,none⟩) n cap) n s) {j:Nat}(e:j < n):∃u,w.cell? ⟨g,j,none⟩=some u/\OI w 0 u (s.getD j []).length (s.getD j []):=by
 have f:=h.length;obtain⟨c,d,⟨u,rfl,a⟩,b⟩:=AA.cells h (j:=j) (x:=s.getD j []) (by rw[AK (by omega)];exact List.getElem?_eq_getElem (by omega));refine⟨u,?_,a⟩;have:=b 0 u rfl
 rwa [Nat.mul_one,Nat.add_zero] at this
theorem nK {n:Int}{ss:Jc}(a:BU n ss=0) {s:Jb}(hs:s∈ss) {m:List Int}(e:m∈s):m.getD 0 0=n:=by
 obtain⟨_,_,b,_⟩:=PQ a;have h:=NO b s hs;unfold DO at h;split at h
 ·cases h
 ·obtain⟨i,d,rfl⟩:=List.mem_iff_getElem.1 e;have c:=(OR (NH h i (Nat.zero_le _) (by omega))).2.1;rwa [AK d] at c
theorem eJ {n:Int}{ss:Jc}(c:BU n ss=0):∀(k s:Nat) (wd:Jb),wd∈wL ss k s->∀r∈wd,r.getD 0 0=n
 | 0,_,wd,h,r,a=>by
  rw[wL,List.mem_singleton] at h;subst h;cases a
 | k+1,s,wd,h,r,a=>by
  rw[wL] at h;obtain⟨m,b,h⟩:=List.mem_flatMap.1 h;obtain⟨e,w,rfl⟩:=List.mem_map.1 h;rcases List.mem_cons.1 a with rfl|a
  ·by_cases d:s < ss.length
   ·rw[AK d] at b;have:=nK c (wG d) b
    rw[rdOf,List.getD_eq_getElem?_getD,List.getElem?_take_of_lt (by decide),<-List.getD_eq_getElem?_getD];exact this
   ·rw[List.getD_eq_getElem?_getD,List.getElem?_eq_none (by omega)] at b;cases b
  ·exact eJ c k _ e w r a
end Go.Proofs.YtcnedkkcgdkioaaGreat
namespace Go.Proofs.YtcnedkkcgdkioaaGreat
open Go.RowKit
variable {w0 W0 W W':World} {S:Value->Value->Array Value} {P:Array Value} {wv xv lv:Value} {ws:Jc} {vs rows:Jb} {xs:List Ex} {l:List Int} {ci:Int}
structure KG (w0:World) (S:Value->Value->Array Value) (P:Array Value) (wv:Value) (ws:Jc) (vs:Jb) (xs:List Ex) (W:World):Prop where
 bel:Below w0.heap.size w0 W
 kP:W.heap[w0.heap.size]? = some (.cells P 29)
 kZ:W.heap[w0.heap.size+1]? = some (.cells VK 35)
 kS:∃va vc xa xc,W.heap[w0.heap.size+1+1]? = some (.cells (S (.slice va vs.length vc) (.slice xa xs.length xc)) 35)/\AA 114 8 EI W 0 (.slice va vs.length vc) vs.length vs/\AA 80 3 CL W w0.heap.size (.slice xa xs.length xc) xs.length xs
 kW:AA 77 1 BW W 0 wv ws.length ws
structure HY (w0 W0:World) (S:Value->Value->Array Value) (xv:Value) (ci:Int) (wv:Value) (vs rows:Jb) (W:World):Prop where
 bel:Below w0.heap.size w0 W
 kp:ER (w0.heap.size+1+1) W0 W
 kS:∃va vc,W.heap[w0.heap.size+1+1]? = some (.cells (S (.slice va vs.length vc) xv) 35)/\AA 114 8 EI W 0 (.slice va vs.length vc) vs.length vs
 kX:∃ya yc,W.heap[W0.heap.size]? = some (.cells #[.int .i64 ci,wv,.slice ya rows.length yc] 80)/\AA 48 1 BD W (W0.heap.size+1) (.slice ya rows.length yc) rows.length rows
structure FR (w0 W0:World) (S:Value->Value->Array Value) (xv:Value) (vs:Jb) (l:List Int) (lv:Value) (W:World):Prop where
 bel:Below w0.heap.size w0 W
 kp:ER (w0.heap.size+1+1) W0 W
 kS:∃va vc,W.heap[w0.heap.size+1+1]? = some (.cells (S (.slice va vs.length vc) xv) 35)/\AA 114 8 EI W 0 (.slice va vs.length vc) vs.length vs
 kL:OI W W0.heap.size lv l.length l
theorem BW.stbS:CP 35 BW:=BW.stab (by decide)
theorem BW.stbX:CP 80 BW:=BW.stab (by decide)
theorem FR.keep (h:FR w0 W0 S xv vs l lv W) (b:Below W.heap.size W W'):FR w0 W0 S xv vs l lv W':=by
 obtain⟨a,c,⟨v,g,d,e⟩,f⟩:=h;exact⟨btt a b,c.trans (ER.below b),⟨v,g,AN b d,e.keep (EI.stab _) b⟩,f.keep b⟩
theorem FR.start (h:HY w0 W0 S xv ci wv vs rows W):FR w0 W S xv vs [] (.slice none 0 0) W:=⟨h.bel,ER.refl _ _,h.kS,OI.nil _ _⟩
theorem FR.put {v:Jb}{a:Option Addr}{c:Nat}{b:Array Value}(h:FR w0 W0 S xv vs l lv W) (_f:W.heap[w0.heap.size+1+1]? = some (.cells b 35)) (x:AE 35 W W') (hs:W.heap.size<=W'.heap.size) (e:Below w0.heap.size w0 W') (o:∀k,k ≠ w0.heap.size+1+1->W'.heap[k]? = W.heap[k]?)
  (d:W'.heap[w0.heap.size+1+1]? = some (.cells (S (.slice a v.length c) xv) 35)) (V:AA 114 8 EI W 0 (.slice a v.length c) v.length v):FR w0 W0 S xv v l lv W':=
 ⟨e,h.kp.others hs o,⟨a,c,d,V.other (EI.stab _) (by decide) x⟩,h.kL.other (by decide) x⟩
theorem FR.app {y:Int}{v:Value}(h:FR w0 W0 S xv vs l lv W) (w:w0.heap.size<=W0.heap.size) (O:OI W' W0.heap.size v (l.length+1) (l ++ [y])) (i:W.grownBy W' lv.ownBlock) (b:Below W0.heap.size W W'):FR w0 W0 S xv vs (l ++ [y]) v W':=by
 obtain⟨e,a,⟨j,m,c,f⟩,g⟩:=h;have x:AE 3 W W':=AE.own g i;exact⟨e.trans (b.mono w),⟨wI a.1 b.size,fun k d n=>(b.block k d).trans (a.2 k d n)⟩,⟨j,m,(x _ _ _ c (by decide)).trans c,f.other (EI.stab _) (by decide) x⟩,by rw[List.length_append];exact O⟩
theorem HY.row {a:World}{v:Jb}(h:HY w0 W0 S xv ci wv vs rows a) (q:FR w0 a S xv v l lv W) (w:w0.heap.size+1+1 < W0.heap.size):HY w0 W0 S xv ci wv v rows W:=by
 obtain⟨_,_,b,_⟩:=h.kS;obtain⟨y,e,c,d⟩:=h.kX;exact⟨q.bel,h.kp.trans q.kp,q.kS,y,e,q.kp.obj (by omega) c,d.other (BD.stab (by decide)) (by decide) (q.kp.keepX b)⟩
theorem HY.put {v':Value}{y:Option Addr}{q:Nat}(h:HY w0 W0 S xv ci wv vs rows W) (w:w0.heap.size+1+1 < W0.heap.size) (X:W.heap[W0.heap.size]? = some (.cells #[.int .i64 ci,wv,.slice y rows.length q] 80)) (O:AA 48 1 BD W' (W0.heap.size+1) v' (rows.length+1) (rows ++ [l])) (b:Below (W0.heap.size+1) W W') (x:AE 48 W W') :
  HY w0 W0 S xv ci wv vs (rows ++ [l]) (W'.setCell ⟨W0.heap.size,2,none⟩ v'):=by
 obtain⟨i,d,⟨v,o,a,j⟩,-⟩:=h;have e:=(x _ _ _ X (by decide)).trans X;have c:=AE.setCell (p:=⟨W0.heap.size,2,none⟩) e v';obtain⟨f,g,rfl⟩:=O.shape;refine⟨(i.trans (b.mono (by omega))).setCell (p:=⟨W0.heap.size,2,none⟩) (by show w0.heap.size<=W0.heap.size;omega) _,?_,⟨v,o,(c _ _ _ ((x _ _ _ a (by decide)).trans a) (by decide)).trans ((x _ _ _ a (by decide)).trans a),(j.other (EI.stab _) (by decide) x).other (EI.stab _) (by decide) c⟩,f,g,?_,?_⟩
 ·refine⟨by rw[World.size_setCell];exact wI d.1 b.size,fun k m n=>?_⟩;exact(Below.heap_setCell _ ⟨W0.heap.size,2,none⟩ _ k (by show k ≠ W0.heap.size;omega)).trans ((b.block k (by omega)).trans (d.2 k m n))
 ·rw[List.length_append];exact heap_setCell_same _ _ 2 _ _ _ e
 ·rw[List.length_append];exact O.other (BD.stab (by decide)) (by decide) c
theorem KG.mid {w:Value}{v:Jb}{t:Value}(h:KG w0 S P wv ws vs xs W0) (a:W0.heap[w0.heap.size+1+1]? = some (.cells (S t xv) 35)) (X:AA 80 3 CL W0 w0.heap.size xv xs.length xs) (k:HY w0 W0 S xv ci w v rows W) :
  W.heap[w0.heap.size]? = some (.cells P 29)/\W.heap[w0.heap.size+1]? = some (.cells VK 35)/\AA 80 3 CL W w0.heap.size xv xs.length xs/\AA 77 1 BW W 0 wv ws.length ws:=
 ⟨k.kp.obj (by omega) h.kP,k.kp.obj (by omega) h.kZ,X.other (CL.stab (by decide) (by decide) (by decide)) (by decide) (k.kp.keepX a),h.kW.other BW.stbS (by decide) (k.kp.keepX a)⟩
theorem KG.put {w v':Value}{s:Jb}{x:Ex}(j:∀t x v,(S t x).setIfInBounds 9 v=S t v) (k:HY w0 W0 S xv ci w s rows W)
  (m:W.heap[w0.heap.size]? = some (.cells P 29)/\W.heap[w0.heap.size+1]? = some (.cells VK 35)/\AA 80 3 CL W w0.heap.size xv xs.length xs/\AA 77 1 BW W 0 wv ws.length ws)
  (O:AA 80 3 CL W' w0.heap.size v' (xs.length+1) (xs ++ [x])) (n:Below w0.heap.size W W') (h:AE 80 W W') :
  KG w0 S P wv ws s (xs ++ [x]) (W'.setCell ⟨w0.heap.size+1+1,9,none⟩ v'):=by
 obtain⟨f,g,u,o⟩:=m;obtain⟨q,r,d,i⟩:=k.kS;have e:=(h _ _ _ d (by decide)).trans d;have a:=AE.setCell (p:=⟨w0.heap.size+1+1,9,none⟩) e v';obtain⟨b,c,rfl⟩:=O.shape;refine⟨(k.bel.trans n).setCell (p:=⟨w0.heap.size+1+1,9,none⟩) (by show w0.heap.size<=w0.heap.size+1+1;omega) _,?_,?_,⟨q,r,b,c,?_,(i.other (EI.stab _) (by decide) h).other (EI.stab _) (by decide) a,?_⟩,(o.other BW.stbX (by decide) h).other BW.stbS (by decide) a⟩
 ·exact(Below.heap_setCell _ ⟨w0.heap.size+1+1,9,none⟩ _ _ (by show w0.heap.size ≠ w0.heap.size+1+1;omega)).trans ((h _ _ _ f (by decide)).trans f)
 ·exact(Below.heap_setCell _ ⟨w0.heap.size+1+1,9,none⟩ _ _ (by show w0.heap.size+1 ≠ w0.heap.size+1+1;omega)).trans ((h _ _ _ g (by decide)).trans g)
 ·rw[List.length_append];have:=heap_setCell_same _ _ 9 _ _ (.slice b (xs.length+1) c) e
  rwa [j] at this
 ·rw[List.length_append];exact O.other (CL.stab (by decide) (by decide) (by decide)) (by decide) a
end Go.Proofs.YtcnedkkcgdkioaaGreat
namespace Go.Proofs.YtcnedkkcgdkioaaGreat
open Go.RowKit
def eR:Value:=.agg #[.int .i64 0,.int .i64 0,.int .i64 0,.slice none 0 0,.int .i64 0,.slice none 0 0,.int .i64 0,.int .i64 0,.slice none 0 0,.slice none 0 0]
theorem WB {w:World}{v:Value}{n i o an r M E:Int}{cs:List Cs}{ss:Jc}(h:ED w v n i o cs an ss r)
  (C:∀W,Below w.heap.size w W->Calls Tryz.prog 72 #[v] W fun e w'=>e = .returned (.tuple #[.int .i64 M,.int .i64 E])/\Below W.heap.size W w') (L:E ≠ 0\/4096 < M) :
  Calls Tryz.prog 28 #[v] w fun e w'=>e = .returned (.tuple #[eR,.int .i64 (if E ≠ 0 then E else 17)])/\Below w.heap.size w w':=by
 replace C:=qH C;obtain⟨a,c,m,q,rfl,-,-⟩:=h;obtain⟨f,b⟩:=AF (((w.alloc (.cells #[.int .i64 n,.int .i64 i,.int .i64 o,.slice a cs.length c,.int .i64 an,.slice m ss.length q,.int .i64 r] 29)).alloc (.cells #[.int .i64 0,.int .i64 0,.int .i64 0,.slice none 0 0,.int .i64 0,.slice none 0 0,.int .i64 0,.int .i64 0,.slice none 0 0,.slice none 0 0] 35)).alloc (.cells #[.int .i64 0] 41));have b0:f.heap.size=w.heap.size+3:=by rw[b];simp
 have s:Below w.heap.size w f:=by rw[b];exact(((wB _ w).alloc (wC _) _).alloc (by simp) _).alloc (by simp;omega) _
 have R:f.heap[w.heap.size]? = some (.cells #[.int .i64 n,.int .i64 i,.int .i64 o,.slice a cs.length c,.int .i64 an,.slice m ss.length q,.int .i64 r] 29):=by
  rw[b];exact(Below.heap_alloc _ _ _ (by simp;omega)).trans ((Below.heap_alloc _ _ _ (by simp)).trans (wE w _))
 have u:f.heap[w.heap.size+1]? = some (.cells #[.int .i64 0,.int .i64 0,.int .i64 0,.slice none 0 0,.int .i64 0,.slice none 0 0,.int .i64 0,.int .i64 0,.slice none 0 0,.slice none 0 0] 35):=by
  rw[b];have:=wE (w.alloc (.cells #[.int .i64 n,.int .i64 i,.int .i64 o,.slice a cs.length c,.int .i64 an,.slice m ss.length q,.int .i64 r] 29)) (.cells #[.int .i64 0,.int .i64 0,.int .i64 0,.slice none 0 0,.int .i64 0,.slice none 0 0,.int .i64 0,.int .i64 0,.slice none 0 0,.slice none 0 0] 35)
  rw[World.size_alloc] at this;exact(Below.heap_alloc _ _ _ (by simp)).trans this
 have t:f.heap[w.heap.size+1+1]? = some (.cells #[.int .i64 0] 41):=by
  rw[b];have:=wE ((w.alloc (.cells #[.int .i64 n,.int .i64 i,.int .i64 o,.slice a cs.length c,.int .i64 an,.slice m ss.length q,.int .i64 r] 29)).alloc (.cells #[.int .i64 0,.int .i64 0,.int .i64 0,.slice none 0 0,.int .i64 0,.slice none 0 0,.int .i64 0,.int .i64 0,.slice none 0 0,.slice none 0 0] 35)) (.cells #[.int .i64 0] 41)
  rwa [World.size_alloc,World.size_alloc] at this
 obtain⟨x,y,z,A,B,D,F⟩:=box7' R;rw[b] at x y z A B D F;replace u:=qH u;replace t:=qH t;clear R;by_cases H:E=0
 ·subst H;have hM:decide ((4096:Int) < M)=true:=vZ (by rcases L with h|h;exact absurd rfl h;exact h);rw[if_neg (fun h=>h rfl)];clear L;go_enter Tryz.func28, Tryz.ntmps28
  go_wp2_with fail
  rw[<-b];replace b:=qH b;refine(C.out f s).mono ?_;rintro e V ⟨rfl,k⟩;clear x y z A B D F;have j:=AN k u.out;have g:=AN k t.out;obtain⟨⟨Y,Z,y2,y3,y4,y5,y6⟩,y7,y8,y9⟩:=AW j;have a0:=wJ g;have T:=BG j;have U:=BG g;go_wp2_with fail
  refine ME (u0:=.int .i64 0) (u1:=.int .i64 0) (u2:=.int .i64 0) (u3:=.slice none 0 0) (u4:=.int .i64 0) (u5:=.slice none 0 0) (u6:=.int .i64 0) (u7:=.int .i64 0) (u8:=.slice none 0 0) (u9:=.slice none 0 0) j ?_;intro d J N X G Q;rw[<-J];have I:d.heap[w.heap.size+1+1]? = some (.cells #[.int .i64 0] 41):=(Q _ (by omega)).trans g;have O:(d.setCell ⟨w.heap.size+1+1,0,none⟩ (.int .i64 17)).heap[w.heap.size+1]? = _:=(Below.heap_setCell d ⟨w.heap.size+1+1,0,none⟩ _ (w.heap.size+1) (by show w.heap.size+1 ≠ w.heap.size+1+1;omega)).trans G;have K:Below w.heap.size w (d.setCell ⟨w.heap.size+1+1,0,none⟩ (.int .i64 17)):=(N _ _ (by omega) (btt s k)).setCell (p:=⟨w.heap.size+1+1,0,none⟩) (by show w.heap.size<=w.heap.size+1+1;omega) _;exact⟨rfl,_,UM rfl _ _ _ _ 17 rfl rfl O (wJ (one_setCell I)),rfl,K⟩
 ·have a9:(E != 0)=true:=by simpa using H
  rw[if_pos H];clear L;go_enter Tryz.func28, Tryz.ntmps28
  go_wp2_with fail
  rw[<-b];replace b:=qH b;refine(C.out f s).mono ?_;rintro e V ⟨rfl,k⟩;clear x y z A B D F;have j:=AN k u.out;have g:=AN k t.out;obtain⟨⟨Y,Z,y2,y3,y4,y5,y6⟩,y7,y8,y9⟩:=AW j;have a0:=wJ g;have T:=BG j;have U:=BG g;go_wp2_with fail
  refine ME (u0:=.int .i64 0) (u1:=.int .i64 0) (u2:=.int .i64 0) (u3:=.slice none 0 0) (u4:=.int .i64 0) (u5:=.slice none 0 0) (u6:=.int .i64 0) (u7:=.int .i64 0) (u8:=.slice none 0 0) (u9:=.slice none 0 0) j ?_;intro d J N X G Q;rw[<-J];have I:d.heap[w.heap.size+1+1]? = some (.cells #[.int .i64 0] 41):=(Q _ (by omega)).trans g;have O:(d.setCell ⟨w.heap.size+1+1,0,none⟩ (.int .i64 E)).heap[w.heap.size+1]? = _:=(Below.heap_setCell d ⟨w.heap.size+1+1,0,none⟩ _ (w.heap.size+1) (by show w.heap.size+1 ≠ w.heap.size+1+1;omega)).trans G;have K:Below w.heap.size w (d.setCell ⟨w.heap.size+1+1,0,none⟩ (.int .i64 E)):=(N _ _ (by omega) (btt s k)).setCell (p:=⟨w.heap.size+1+1,0,none⟩) (by show w.heap.size<=w.heap.size+1+1;omega) _;exact⟨rfl,_,UM rfl _ _ _ _ E rfl rfl O (wJ (one_setCell I)),rfl,K⟩
def FD (n i o:Int) (cs:List Cs) (an:Int) (ss:Jc) (r:Int):Int:=
 if DJ n i o cs an ss r ≠ 0 then DJ n i o cs an ss r else if 4096 < numP cs ss r.toNat then 17 else 0
def VL (w:World) (n i o:Int) (cs:List Cs) (an:Int) (ss:Jc) (r:Int) (e:Ending) (w':World):Prop:=
 ((FD n i o cs an ss r ≠ 0/\e = .returned (.tuple #[eR,.int .i64 (FD n i o cs an ss r)]))\/
  (FD n i o cs an ss r=0/\∃v,e = .returned (.tuple #[v,.int .i64 0])/\CC w' v n i o cs an ss r n (CR n.toNat cs (wL ss r.toNat 0)).1 (CR n.toNat cs (wL ss r.toNat 0)).2))/\Below w.heap.size w w'
theorem WA {w:World}{v:Value}{n i o an r:Int}{cs:List Cs}{ss:Jc}(h:ED w v n i o cs an ss r) (g:DH n i o cs an ss r=true) :
  Calls Tryz.prog 28 #[v] w (VL w n i o cs an ss r):=by
 unfold DH at g;simp only[Bool.and_eq_true,Bool.or_eq_true,decide_eq_true_eq] at g;obtain⟨u,f,_,z⟩:=g;have C:=fun W (b:Below w.heap.size w W)=>YL (h.keep b) f;by_cases c:DJ n i o cs an ss r=0
 ·have b:FD n i o cs an ss r=if 4096 < numP cs ss r.toNat then 17 else 0:=by unfold FD;rw[if_neg (fun j=>j c)]
  obtain⟨m,s,B,D,E⟩:=LQ c;obtain⟨K,L⟩:=MR m;obtain⟨⟨M,Q⟩,J⟩:=MF m;by_cases d:4096 < numP cs ss r.toNat
  ·rw[if_pos d] at b;rw[if_neg (fun j=>j c)] at C;obtain⟨_,_,_,_,_,_,A⟩:=id h;have O:=(JU A f s).wd;have F:num ss 4097 r.toNat=min (DX ss r.toNat 0) 4097:=(by unfold num;rw[LZ (ES.ofWd O) (by omega) _ 0 O.2.2.1]);have G:num ss 1048577 r.toNat=min (DX ss r.toNat 0) 1048577:=by unfold num;rw[LZ (ES.ofWd O) (by omega) _ 0 O.2.2.1]
   have p:(JW cs ss r.toNat).2=17\/(JW cs ss r.toNat).2=0/\4096 < (JW cs ss r.toNat).1:=by
    unfold JW;split
    ·exact .inl rfl
    ·split
     ·exact .inl rfl
     ·refine .inr ⟨rfl,?_⟩;have H:cs.length * num ss 4097 r.toNat<=cs.length * num ss 1048577 r.toNat:=Nat.mul_le_mul_left _ (by omega);unfold numP at d;have I:4096 < num ss 1048577 r.toNat * cs.length:=(by rw[Nat.mul_comm];omega);show(4096:Int) < ((num ss 1048577 r.toNat * cs.length:Nat):Int)
      omega
   refine(WB h C (by rcases p with h|h;exact .inl (by rw[h];decide);exact .inr h.2)).mono ?_;rintro e q ⟨rfl,a⟩;refine⟨.inl ⟨by rw[b];decide,?_⟩,a⟩;rw[b];rcases p with h|h
   ·rw[h];rfl
   ·rw[h.1];rfl
  ·rw[if_neg d] at b
   have x:numP cs ss r.toNat<=60:=by
    rcases z with h|h|h
    ·exact absurd c h
    ·exact h
    ·exact absurd h d
   refine(fK h (N:=n.toNat) (k:=r.toNat) (by omega) (by omega) f u c x).mono ?_;rintro e q ⟨y,rfl,t,a⟩;exact⟨.inr ⟨b,y,rfl,t⟩,a⟩
 ·have b:FD n i o cs an ss r=DJ n i o cs an ss r:=by unfold FD;rw[if_pos c]
  rw[if_pos c] at C;refine(WB h C (.inl c)).mono ?_;rintro e q ⟨rfl,a⟩;refine⟨.inl ⟨by rw[b];exact c,?_⟩,a⟩;rw[b,if_pos c]
theorem XZ {w:World}{u v:Value}{xs ys:Jb}(x:KS 8 w u xs) (y:KS 8 w v ys) :
  Calls Tryz.prog 107 #[u,v] w fun e w'=>e = .returned (.bool (decide (xs=ys)))/\Qt w w':=by
 obtain⟨xa,xc,xb,xo,rfl,V,j,_⟩:=x;obtain⟨ya,yc,yb,yo,rfl,X,o,_⟩:=y;obtain⟨B,b⟩:∃B,decide (xs=ys)=B:=⟨_,rfl⟩;rw[b];replace b:=qH b;replace j:=qH j;replace o:=qH o;by_cases a:xs.length=ys.length
 ·rw[<-a];replace a:=qH a;have O:Hid (xs.take 0=ys.take 0):=rfl;go_enter Tryz.func107, Tryz.ntmps107
  go_wp2;go_loopw [13] (fun q wr=>∃i:Nat,q = .int .i64 i/\i<=xs.length/\Hid (xs.take i=ys.take i)/\Qt w wr) (fun q _=>xs.length - (intOf q).toNat)
  case atStart=>exact⟨0,rfl,by omega,O,Qt.refl w⟩
  case round=>
   clear O;obtain⟨i,rfl,hi,t,n,rfl⟩:=hrel;by_cases d:i < xs.length
   ·obtain rfl:=V (by omega);obtain rfl:=X (by rw[<-a.out];omega);have Q:i < ys.length:=(by rw[<-a.out];exact d);obtain⟨g,k⟩:=j.out i d;obtain⟨m,p⟩:=o.out i Q;obtain⟨b5,x⟩:=AB (xs.getD i []);obtain⟨b',y⟩:=AB (ys.getD i []);rw[x] at g k;rw[y] at m p;obtain⟨r,s,z,A,C,D,E,F,rfl⟩:=CT g;obtain⟨G,H,I,J,K,L,M,N,rfl⟩:=CT m;obtain⟨Y,Z,c2,c3,c4,c5,c6,c7⟩:=k.all8;obtain⟨d0,d1,d2,d3,d4,d5,d6,d7⟩:=p.all8;clear k p g m;by_cases c : [r,s,z,A,C,D,E,F] = [G,H,I,J,K,L,M,N]
    ·have T:BI [r,s,z,A,C,D,E,F] [G,H,I,J,K,L,M,N]=true:=FN.2 c;have U:Hid (xs.take (i+1)=ys.take (i+1)):=GA t.out d Q (by rw[x,y,c]);clear x y c t;go_wp2;go_quiet (fail)
     go_wp2;go_roundw
     case rel=>exact⟨i+1,by go_num,d,U,by first|exact(Qt.mk' w n).step nq|exact Qt.mk' w _⟩
     case measure=>simp[intOf];omega
    ·have T:BI [r,s,z,A,C,D,E,F] [G,H,I,J,K,L,M,N]=false:=FL.2 c
     have f:Hid (B=false):=by
      show _=_;rw[<-b.out];refine vY fun h=>c ?_;rw[<-x,<-y,h]
     clear x y c t;go_wp2;go_quiet (fail)
     go_wp2;go_ret;exact⟨by rw[f.out];rfl,by first|exact(Qt.mk' w n).step nq|exact Qt.mk' w _⟩
   ·have R:Hid (B=true):=by
     show _=_;rw[<-b.out];exact vZ (FZ t.out (by omega) (by rw[<-a.out];omega))
    clear t;go_wp2;go_ret;exact⟨by rw[R.out];rfl,Qt.mk' w n⟩
 ·have f:B=false:=by rw[<-b.out];exact vY fun h=>a (by rw[h])
  subst f;have h1:((xs.length:Int) == (ys.length:Int))=false:=by simp;omega
  go_enter Tryz.func107, Tryz.ntmps107
  go_wp2;go_ret;exact⟨rfl,Qt.refl w⟩
theorem iZ {w:World}{u v:Value}{xs ys:Jb}(a:BM w u xs) (b:BM w v ys) :
  Calls Tryz.prog 175 #[u,v,.func (.func 18) #[] #[]] w fun e w'=>e = .returned (.bool (decide (xs=ys)))/\Qt w w':=by
 obtain⟨M,Q,O,T,rfl,D,p,_⟩:=a;obtain⟨U,Y,X,yo,rfl,E,q,_⟩:=b;obtain⟨B,d⟩:∃B,decide (xs=ys)=B:=⟨_,rfl⟩;rw[d];replace d:=qH d;replace p:=qH p;replace q:=qH q;by_cases c:xs.length=ys.length
 ·rw[<-c];replace c:=qH c;have s:Hid (xs.take 0=ys.take 0):=rfl;go_enter Tryz.func175, Tryz.ntmps175
  go_wp2;go_loopw [17] (fun r wr=>∃i:Nat,r = .int .i64 i/\i<=xs.length/\Hid (xs.take i=ys.take i)/\Qt w wr) (fun r _=>xs.length - (intOf r).toNat)
  case atStart=>exact⟨0,rfl,by omega,s,Qt.refl w⟩
  case round=>
   clear s;obtain⟨i,rfl,L,t,n,rfl⟩:=hrel;by_cases g:i < xs.length
   ·obtain rfl:=D (by omega);obtain rfl:=E (by rw[<-c.out];omega);have z:i < ys.length:=(by rw[<-c.out];exact g);obtain⟨F,J,j⟩:=p.out i g;obtain⟨G,K,k⟩:=q.out i z;have H:=qH (OJ (j.keep (wH (wB _ w) n)) (k.keep (wH (wB _ w) n)));obtain⟨x,a⟩:=AB (xs.getD i []);obtain⟨y,b⟩:=AB (ys.getD i []);rw[a] at j;rw[b] at k;rw[a,b] at H;obtain⟨N,R,rfl⟩:=j.shape;obtain⟨V,Z,rfl⟩:=k.shape;clear j k;by_cases f:x=y
    ·rw[vZ f] at H;have C:Hid (xs.take (i+1)=ys.take (i+1)):=GA t.out g z (by rw[a,b,f]);clear a b f t;go_wp2_with fail
     refine H.out.mono ?_;rintro e w' ⟨rfl,m,rfl⟩;go_wp2_with fail
     go_roundw
     case rel=>exact⟨i+1,by go_num,g,C,by first|exact(Qt.mk' w n).step m|exact Qt.mk' w _⟩
     case measure=>simp[intOf];omega
    ·rw[vY f] at H
     have o:Hid (B=false):=by
      show _=_;rw[<-d.out];refine vY fun h=>f ?_;rw[<-a,<-b,h]
     clear a b f t;go_wp2_with fail
     refine H.out.mono ?_;rintro e w' ⟨rfl,m,rfl⟩;go_wp2_with fail
     go_ret;exact⟨by rw[o.out];rfl,by first|exact(Qt.mk' w n).step m|exact Qt.mk' w _⟩
   ·have A:Hid (B=true):=by
     show _=_;rw[<-d.out];exact vZ (FZ t.out (by omega) (by rw[<-c.out];omega))
    clear t;go_wp2;go_ret;exact⟨by rw[A.out];rfl,Qt.mk' w n⟩
 ·have o:B=false:=by rw[<-d.out];exact vY fun h=>c (by rw[h])
  subst o;have I:((xs.length:Int) == (ys.length:Int))=false:=by simp;omega
  go_enter Tryz.func175, Tryz.ntmps175
  go_wp2;go_ret;exact⟨rfl,Qt.refl w⟩
def NM (x y:Ex):Bool:=decide (x.1=y.1) && (decide (x.2.1=y.2.1) && decide (x.2.2=y.2.2))
theorem cW {x y:Ex}:NM x y=decide (x=y):=by
 obtain⟨a,b,c⟩:=x;obtain⟨d,e,f⟩:=y;unfold NM;by_cases h:a=d<;>by_cases g:b=e<;>by_cases i:c=f<;>simp[h,g,i]
theorem sS {w:World}{x y:Ex}{u1 u2 v o:Value}(t:KS 7 w u1 x.2.1) (u:BM w u2 x.2.2) (B:KS 7 w v y.2.1) (C:BM w o y.2.2) :
  Calls Tryz.prog 109 #[.agg #[.int .i64 x.1,u1,u2],.agg #[.int .i64 y.1,v,o]] w fun e w'=>e = .returned (.bool (NM x y))/\Below w.heap.size w w':=by
 obtain⟨d,I,xv⟩:=x;obtain⟨r,J,Z⟩:=y;obtain⟨a,h⟩:=AF ((w.alloc (.cells #[.int .i64 d,u1,u2] 80)).alloc (.cells #[.int .i64 r,v,o] 80));have c:Below w.heap.size w a:=by rw[h];exact((wB _ w).alloc (wC _) _).alloc (by simp) _
 have D:a.heap[w.heap.size]? = some (.cells #[.int .i64 d,u1,u2] 80):=by
  rw[h];exact(Below.heap_alloc _ _ _ (by simp)).trans (wE w _)
 have E:a.heap[w.heap.size+1]? = some (.cells #[.int .i64 r,v,o] 80):=by
  rw[h];have:=wE (w.alloc (.cells #[.int .i64 d,u1,u2] 80)) (.cells #[.int .i64 r,v,o] 80)
  rwa [World.size_alloc] at this
 have H:=qH (fun W (b:Below a.heap.size a W)=>iY ((t.keep c).keep b) ((B.keep c).keep b));have V:=qH (fun W (b:Below a.heap.size a W)=>iZ ((u.keep c).keep b) ((C.keep c).keep b));obtain⟨M,O,rfl⟩:=t.shape;obtain⟨N,Q,rfl⟩:=u.shape;obtain⟨R,U,rfl⟩:=B.shape;obtain⟨T,X,rfl⟩:=C.shape;have K:=qH (fun W (b:Below a.heap.size a W)=>And.intro (keep3 b (box3' D)) (keep3 b (box3' E)));obtain⟨⟨p,i,j⟩,q,k,m⟩:=K.out a (wB _ _);rw[h] at p i j q k m;unfold NM;clear t u B C D E;by_cases s:d=r
 ·subst s;rw[vZ (rfl:d=d),Bool.true_and];by_cases f:I=J
  ·rw[vZ f,Bool.true_and];simp only[decide_eq_true f] at H;clear f;go_enter Tryz.func109, Tryz.ntmps109
   go_wp2_with fail
   rw[<-h];replace h:=qH h;refine(H.out a (wB _ _)).mono ?_;rintro e n ⟨rfl,A⟩;have g:Below a.heap.size a n:=A.below;clear p i j q k m;obtain⟨⟨p,i,j⟩,q,k,m⟩:=K.out n g;have z:=btt c g;go_wp2_with fail
   refine(V.out n g).mono ?_;rintro e Y ⟨rfl,G⟩;have F:=btt z G.below;clear p i j q k m;go_wp2;go_ret;exact⟨rfl,F⟩
  ·rw[vY f,Bool.false_and];simp only[decide_eq_false f] at H;clear f;go_enter Tryz.func109, Tryz.ntmps109
   go_wp2_with fail
   rw[<-h];replace h:=qH h;refine(H.out a (wB _ _)).mono ?_;rintro e n ⟨rfl,A⟩;have g:Below a.heap.size a n:=A.below;clear p i j q k m;obtain⟨⟨p,i,j⟩,q,k,m⟩:=K.out n g;have z:=btt c g;go_wp2;go_ret;exact⟨rfl,z⟩
 ·have L:(d == r)=false:=by simpa using s
  rw[vY s,Bool.false_and];go_enter Tryz.func109, Tryz.ntmps109
  go_wp2;go_ret;exact⟨rfl,by rw[<-h];exact c⟩
end Go.Proofs.YtcnedkkcgdkioaaGreat
