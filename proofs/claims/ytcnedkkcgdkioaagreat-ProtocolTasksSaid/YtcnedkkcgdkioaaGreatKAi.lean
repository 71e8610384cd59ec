/- Texts of this claim, put together: G2 AP V0 V1 TH TI L0 Sh. -/
import Derived.Deep.RegionHeld3
import Derived.Deep.DeepCutAuto
import Derived.Deep.AppendLies
import Derived.Test.YtcnedkkcgdkioaaGreatKAh
import Derived.Ground.SlsfProg
import Derived.Ground.SlgmProg
import Derived.Shelf.SlSortCmp.WholeK
import Derived.Shelf.SlSortCmp.Whole1
import Derived.Shelf.SortM.Plain

set_option maxRecDepth 100000
set_option maxHeartbeats 12800000
namespace Go.Proofs.YtcnedkkcgdkioaaGreat
open Go.RowKit
section
variable {κ:Type} [DecidableEq κ]
end
theorem OI.form {w:World}{B:Nat}{v:Value}{n:Nat}{xs:List Int}(h:OI w B v n xs) (hn:0 < n):∃g cap,v = .slice (some ⟨g,0,none⟩) n cap∧B≤g:=by
 have hl:=h.length;rcases h.2 with⟨rfl,h'⟩|⟨g,cap,cur,h1,h2,_⟩
 ·omega
 ·exact⟨g,cap,h1,h2⟩
end Go.Proofs.YtcnedkkcgdkioaaGreat
namespace Go.Proofs.YtcnedkkcgdkioaaGreat
open Go.RowKit
def NewAt (w:World) (v v':Value):Prop:=v'.ownBlock=v.ownBlock∨v'.ownBlock=some w.heap.size
section
variable {α:Type} {E:TypeId} {k:Nat} {El:World→List Value→α→Prop} {B n:Nat} {v:Value} {xs:List α}
theorem run_appX {P:Program}{T ty:TypeId}{z:Value}{bytes:Nat}(hE:ElemK P T E z k bytes) (hby:bytes≤128) (hk:0 < k) (hS:Stab E El) {w:World}{cs:List Value}{x:α}
  (hown:OwX E k El w B v n xs) (ad:Addr) (c:Nat) (hcs:cs.length=k) (hnews:∀j u,cs[j]? = some u→w.cell? (ad.add j)=some u) (hc1:∀u∈cs,u.oneCell'=true) (hEl:El w cs x) (hn:n≤1000000000000) (hB:B≤w.heap.size) :
  ∃v' w',(Builtin.append_ #[T,T] ty #[v,.slice (some ad) 1 c]).run P w = .ok v' w'∧OwX E k El w' B v' (n+1) (xs ++ [x])∧w.grownBy w' v.ownBlock∧NewAt w v v'∧Below B w w'∧KeepX E w w':=by
 obtain⟨i0,hi,hz0,hz1,hz2⟩:=info_parts hE.2.1;obtain⟨vs,k1,k2,k3,k4⟩:=hown;have hvl:vs.length=n * k:=k1.1
 have hbd:(n+1) * bytes≤140737488355328:=by
  have:(n+1) * bytes≤1000000000001 * 128:=Nat.mul_le_mul (by omega) hby
  omega
 obtain⟨v',w',hr,h1,hg,_,h5⟩:=run_append_own_at (P:=P) w B T ty E i0 z k bytes hE.1 hi hz0 hz1 hz2 hE.2.2 hk v n vs k1 ad 1 c cs (by simpa using hcs) hnews hc1 (by unfold maxLen;omega) hbd hB;have hX:KeepX E w w':=KeepX.own k1 hg;refine⟨v',w',hr,⟨vs++cs,h1,by simp[k2],?_,fun j x' hj=>?_⟩,hg,h5,(Below.refl B w).grown hg hB (fun k hk=>(k1.lt k hk).1),hX⟩
 ·intro u hu;rcases List.mem_append.1 hu with hu|hu
  ·exact k3 u hu
  ·exact hc1 u hu
 ·by_cases hjn:j < n
  ·rw[List.getElem?_append_left (by omega)] at hj;have hle:j * k+k≤n * k:=(by rw[←Nat.succ_mul];exact Nat.mul_le_mul_right _ hjn);rw[List.drop_append_of_le_length (by omega),List.take_append_of_le_length (by rw[List.length_drop];omega)];exact hS _ _ _ _ (k4 j x' hj) hX
  ·rw[List.getElem?_append_right (by omega)] at hj
   have hj0:j - xs.length=0:=by
    have:=(List.getElem?_eq_some_iff.1 hj).1
    simpa using this
   rw[hj0] at hj;simp only[List.getElem?_cons_zero,Option.some.injEq] at hj;subst hj;obtain rfl:j=n:=(by omega);rw[←hvl,List.drop_left,List.take_of_length_le (by omega)];exact hS _ _ _ _ hEl hX
theorem wp_appX {P:Program}{T:TypeId}{z:Value}{bytes:Nat}(hE:ElemK P T E z k bytes) (hby:bytes≤128) (hk:0 < k) (hS:Stab E El) {w:World}{cs:List Value}{x:α}{o:Oper}{a:Act}{K:Act→World→Prop}{Q:Exit→Act→World→Prop}(s y:Operand)
  (ho:o.op = .call { callee:=.builtin .append,args:=#[s,y],argTypes:=#[T,T] }) (hs:a.eval s=v) (hown:OwX E k El w B v n xs) (ad:Addr) (c:Nat) (hx:a.eval y = .slice (some ad) 1 c) (hcs:cs.length=k)
  (hnews:∀j u,cs[j]? = some u→w.cell? (ad.add j)=some u) (hc1:∀u∈cs,u.oneCell'=true) (hEl:El w cs x) (hn:n≤1000000000000) (hB:B≤w.heap.size)
  (h:∀v' w',OwX E k El w' B v' (n+1) (xs ++ [x])→w.grownBy w' v.ownBlock→NewAt w v v'→Below B w w'→KeepX E w w'→K (a.put o.dst v') w'):o.wp P a w K Q:=by
 obtain⟨v',w',hr,h2,h3,h4,h5,h6⟩:=run_appX (P:=P) (ty:=o.type) hE hby hk hS hown ad c hcs hnews hc1 hEl hn hB;unfold Oper.wp execOp;simp only[ho,resolve,invoke,builtin,Sem.run_bind,Sem.run_pure,Result.andThen_ok,List.map_toArray,List.map_cons,List.map_nil,hs,hx,hr];exact h v' w' h2 h3 h4 h5 h6
theorem step_appX {P:Program}{T:TypeId}{z:Value}{bytes:Nat}(hE:ElemK P T E z k bytes) (hby:bytes≤128) (hk:0 < k) (hS:Stab E El) {w:World}{cs:List Value}{x:α}{ops:Array Oper}{o:Oper}{a:Act}{K:Act→World→Prop}{Q:Exit→Act→World→Prop}{R:Prop}(hgd:o.guard=none) (s y:Operand)
  (ho:o.op = .call { callee:=.builtin .append,args:=#[s,y],argTypes:=#[T,T] }) (hs:a.eval s=v) (hown:OwX E k El w B v n xs) (ad:Addr) (c:Nat) (hx:a.eval y = .slice (some ad) 1 c) (hcs:cs.length=k)
  (hnews:∀j u,cs[j]? = some u→w.cell? (ad.add j)=some u) (hc1:∀u∈cs,u.oneCell'=true) (hEl:El w cs x) (hn:n≤1000000000000) (hB:B≤w.heap.size)
  (h:∀v' w',OwX E k El w' B v' (n+1) (xs ++ [x])→w.grownBy w' v.ownBlock→NewAt w v v'→Below B w w'→KeepX E w w'→K (a.put o.dst v') w') :
  if Region.wanted o (yielded ops a.tmps)=true then Oper.wp P o a w K Q else R:=by
 rw[if_pos (by simp[Region.wanted,hgd])];exact wp_appX hE hby hk hS s y ho hs hown ad c hx hcs hnews hc1 hEl hn hB h
end
def E1I (_:World) (cs:List Value) (x:Int):Prop:=cs = [.int .i64 x]
theorem E1I.stab (E:TypeId):Stab E E1I:=fun _ _ _ _ h _=>h
theorem elemInt1:ElemK Tryz.prog 48 3 (.int .i64 0) 1 8:=⟨by kernel_rfl,by kernel_rfl,rfl⟩
theorem OI.owx {w:World}{B:Nat}{v:Value}{n:Nat}{xs:List Int}(h:OI w B v n xs):OwX 3 1 E1I w B v n xs:=by
 refine⟨xs.map (Value.int .i64),h,h.length,fun u hu=>?_,fun j x hj=>?_⟩
 ·obtain⟨x,_,rfl⟩:=List.mem_map.1 hu;rfl
 ·show _=_;rw[Nat.mul_one,←List.map_drop,←List.map_take];have hlt:=(List.getElem?_eq_some_iff.1 hj).1;have hx:xs[j]=x:=(List.getElem?_eq_some_iff.1 hj).2;rw[List.drop_eq_getElem_cons hlt,hx];rfl
theorem OwX.oi {w:World}{B:Nat}{v:Value}{n:Nat}{xs:List Int}(h:OwX 3 1 E1I w B v n xs):OI w B v n xs:=by
 obtain⟨vs,h1,h2,_,h4⟩:=h
 have:vs=xs.map (Value.int .i64):=by
  have hl:vs.length=n:=by have:=h1.1;simpa using this
  refine List.ext_getElem (by simp;omega) fun j hj1 hj2=>?_;have hjx:j < xs.length:=by simpa using hj2
  have:=h4 j xs[j] (List.getElem?_eq_getElem hjx)
  have e:((vs.drop (j * 1)).take 1) = [Value.int .i64 xs[j]]:=this;rw[Nat.mul_one,List.drop_eq_getElem_cons hj1,List.take_succ_cons,List.take_zero] at e;rw[List.getElem_map];exact(List.cons.inj e).1
 subst this;exact h1
theorem OI.other {w w':World}{E:TypeId}{B:Nat}{v:Value}{n:Nat}{xs:List Int}(h:OI w B v n xs) (hne:3 ≠ E) (hx:KeepX E w w'):OI w' B v n xs:=ownsRow_X h hne hx
def Apart (u v:Value):Prop:=∀a b,u.ownBlock=some a→v.ownBlock=some b→a ≠ b
theorem Apart.symm {u v:Value}(h:Apart u v):Apart v u:=fun a b ha hb e=>h b a hb ha e.symm
def Two (B:Nat) (wr:World) (m:Nat) (xs ys:List Int) (u v:Value) (wx:World):Prop:=OI wx B u m xs∧OI wx B v m ys∧Apart u v∧KeepX 3 wr wx∧Below B wr wx
end Go.Proofs.YtcnedkkcgdkioaaGreat
namespace Go.Proofs.YtcnedkkcgdkioaaGreat
open Go.RowKit
def stM (L:Nat) (prev:List Nat) (ms:List (List Int)):Nat:=ms.foldl (fun acc m=>min (acc+prev.getD (mvTo m) 0) L) 0
def numL (ss:List (List (List Int))) (L:Nat):Nat→List Nat
 | 0=>List.replicate ss.length 1
 | k+1=>ss.map (stM L (numL ss L k))
def cnt (ss:List (List (List Int))):Nat→Nat→Nat
 | 0,_=>1
 | k+1,s=>((ss.getD s []).map fun m=>cnt ss k (mvTo m)).sum
theorem fold_min (L:Nat) (f g:List Int→Nat):∀(ms:List (List Int)) (a:Nat),(∀m∈ms,g m=min (f m) L)→ms.foldl (fun acc m=>min (acc+g m) L) (min a L)=min (a+(ms.map f).sum) L
 | [],a,_=>by simp
 | m::r,a,h=>by
  rw[List.foldl_cons,h m (by simp),List.map_cons,List.sum_cons];have:=fold_min L f g r (a+f m) (fun x hx=>h x (by simp[hx]))
  rw[show min (min a L+min (f m) L) L=min (a+f m) L by omega,this,Nat.add_assoc]
theorem numL_cnt {ss:List (List (List Int))}(hM:LeadOK ss) {L:Nat}(hL:1≤L):∀(k s:Nat),s < ss.length→(numL ss L k).getD s 0=min (cnt ss k s) L
 | 0,s,hs=>by
  rw[numL,cnt,List.getD_eq_getElem?_getD,List.getElem?_replicate,if_pos hs];simp;omega
 | k+1,s,hs=>by
  rw[numL,cnt,List.getD_eq_getElem?_getD,List.getElem?_map,List.getElem?_eq_getElem hs,Option.map_some,Option.getD_some,stM];have h1:ss.getD s []=ss[s]:=getD_eq hs [];rw[h1]
  have h2:=fold_min L (fun m=>cnt ss k (mvTo m)) (fun m=>(numL ss L k).getD (mvTo m) 0) ss[s] 0 (fun m hm=>by
   have h3:=hM _ (List.getElem_mem hs) m hm;have h4:mvTo m < ss.length:=(by unfold mvTo;omega);exact numL_cnt hM hL k (mvTo m) h4)
  rw[Nat.zero_add,Nat.zero_min] at h2;exact h2
theorem stM_le (L:Nat) (prev:List Nat) (ms:List (List Int)):stM L prev ms≤L:=by
 have h:∀(ms:List (List Int)) (a:Nat),a≤L→ms.foldl (fun acc m=>min (acc+prev.getD (mvTo m) 0) L) a≤L:=by
  intro ms;induction ms with
  | nil=>intro a h;exact h
  | cons m r ih=>intro a _;exact ih _ (Nat.min_le_right _ _)
 exact h ms 0 (Nat.zero_le _)
theorem numL_le (ss:List (List (List Int))) {L:Nat}(hL:1≤L):∀(k j:Nat),(numL ss L k).getD j 0≤L
 | 0,j=>by rw[numL,List.getD_eq_getElem?_getD,List.getElem?_replicate];split<;>simp<;>omega
 | k+1,j=>by
  rw[numL,List.getD_eq_getElem?_getD,List.getElem?_map];cases ss[j]? with
  | none=>simp
  | some ms=>exact stM_le _ _ _
def num (ss:List (List (List Int))) (L k:Nat):Nat:=(numL ss L k).getD 0 0
theorem few_le {ss:List (List (List Int))}(h:fewA ss=true):ss.length≤8∧movesN ss≤40:=by simp[fewA] at h;omega
theorem chk_cls {w:World}{v:Value}{n:Int}{ss:List (List (List Int))}(hA:AdvV w v n ss) (hf:fewA ss=true) (h0:chkA n ss=0):ClsOK ss:=by
 obtain⟨h1,h2⟩:=few_le hf;exact clsOK_of hA.len8 h0 (by omega) (by omega)
def PrV (w:World) (v:Value) (n i o:Int) (cs:List Cs) (an:Int) (ss:List (List (List Int))) (r:Int):Prop:=
 ∃a c a' c',v = .agg #[.int .i64 n,.int .i64 i,.int .i64 o,.slice a cs.length c,.int .i64 an,.slice a' ss.length c',.int .i64 r]∧TaskV w (.agg #[.int .i64 n,.int .i64 i,.int .i64 o,.slice a cs.length c]) n i o cs∧AdvV w (.agg #[.int .i64 an,.slice a' ss.length c']) an ss
theorem PrV.keep {w w':World}{v:Value}{n i o an r:Int}{cs:List Cs}{ss:List (List (List Int))}(h:PrV w v n i o cs an ss r) (hb:Below w.heap.size w w'):PrV w' v n i o cs an ss r:=by
 obtain⟨a,c,a',c',h1,h2,h3⟩:=h;exact⟨a,c,a',c',h1,h2.keep hb,h3.keep hb⟩
def chkP (n i o:Int) (cs:List Cs) (an:Int) (ss:List (List (List Int))) (r:Int):Int:=
 if chkT n i o cs ≠ 0 then chkT n i o cs else if chkA an ss ≠ 0 then chkA an ss else if n ≠ an then 22 else if r < 0∨6 < r then 2 else 0
theorem chkP_zero {n i o an r:Int}{cs:List Cs}{ss:List (List (List Int))}(h:chkP n i o cs an ss r=0):chkT n i o cs=0∧chkA an ss=0∧n=an∧0≤r∧r≤6:=by
 unfold chkP at h;by_cases h1:chkT n i o cs=0
 ·rw[if_neg (fun g=>g h1)] at h;by_cases h2:chkA an ss=0
  ·rw[if_neg (fun g=>g h2)] at h;by_cases h3:n=an
   ·rw[if_neg (fun g=>g h3)] at h;by_cases h4:r < 0∨6 < r
    ·rw[if_pos h4] at h;cases h
    ·exact⟨h1,h2,h3,by omega,by omega⟩
   ·rw[if_pos h3] at h;cases h
  ·rw[if_pos h2] at h;exact absurd h h2
 ·rw[if_pos h1] at h;exact absurd h h1
theorem box7' {W:World}{b:Nat}{v0 v1 v2 v3 v4 v5 v6:Value}{T:TypeId}(h:W.heap[b]? = some (.cells #[v0,v1,v2,v3,v4,v5,v6] T)):W.cell? ⟨b,0,none⟩=some v0∧W.cell? ⟨b,1,none⟩=some v1∧W.cell? ⟨b,2,none⟩=some v2∧W.cell? ⟨b,3,none⟩=some v3∧W.cell? ⟨b,4,none⟩=some v4∧W.cell? ⟨b,5,none⟩=some v5∧W.cell? ⟨b,6,none⟩=some v6:=
 ⟨by rw[cell_of_row _ _ 0 _ _ _ h];rfl,by rw[cell_of_row _ _ 1 _ _ _ h];rfl,by rw[cell_of_row _ _ 2 _ _ _ h];rfl,by rw[cell_of_row _ _ 3 _ _ _ h];rfl,by rw[cell_of_row _ _ 4 _ _ _ h];rfl,by rw[cell_of_row _ _ 5 _ _ _ h];rfl,by rw[cell_of_row _ _ 6 _ _ _ h];rfl⟩
theorem keep7 {W W1:World}{b:Nat}{v0 v1 v2 v3 v4 v5 v6:Value}(hb:Below W.heap.size W W1) (h:W.cell? ⟨b,0,none⟩=some v0∧W.cell? ⟨b,1,none⟩=some v1∧W.cell? ⟨b,2,none⟩=some v2∧W.cell? ⟨b,3,none⟩=some v3∧W.cell? ⟨b,4,none⟩=some v4∧W.cell? ⟨b,5,none⟩=some v5∧W.cell? ⟨b,6,none⟩=some v6) :
  W1.cell? ⟨b,0,none⟩=some v0∧W1.cell? ⟨b,1,none⟩=some v1∧W1.cell? ⟨b,2,none⟩=some v2∧W1.cell? ⟨b,3,none⟩=some v3∧W1.cell? ⟨b,4,none⟩=some v4∧W1.cell? ⟨b,5,none⟩=some v5∧W1.cell? ⟨b,6,none⟩=some v6:=
 ⟨cell_kept hb h.1,cell_kept hb h.2.1,cell_kept hb h.2.2.1,cell_kept hb h.2.2.2.1,cell_kept hb h.2.2.2.2.1,cell_kept hb h.2.2.2.2.2.1,cell_kept hb h.2.2.2.2.2.2⟩
theorem execCheck {w:World}{v:Value}{n i o an r:Int}{cs:List Cs}{ss:List (List (List Int))}(h:PrV w v n i o cs an ss r) (hf:fewA ss=true) :
  Calls Tryz.prog 125 #[v] w fun e w'=>e = .returned (.int .i64 (chkP n i o cs an ss r))∧Below w.heap.size w w':=by
 obtain⟨a,c,a',c',rfl,hT,hA⟩:=h;obtain⟨W1,hW1⟩:=exF (w.alloc (.cells #[.int .i64 n,.int .i64 i,.int .i64 o,.slice a cs.length c,.int .i64 an,.slice a' ss.length c',.int .i64 r] 29));have hb1:Below w.heap.size w W1:=by rw[hW1];exact(Below.refl _ w).alloc (Nat.le_refl _) _
 have kT:W1.heap[w.heap.size]? = some (.cells #[.int .i64 n,.int .i64 i,.int .i64 o,.slice a cs.length c,.int .i64 an,.slice a' ss.length c',.int .i64 r] 29):=by rw[hW1];exact heap_alloc_new _ _
 have HK:=qH (fun W (hb:Below W1.heap.size W1 W)=>keep7 hb (box7' kT));have HT:=qH (checkT (hT.keep hb1));have HA:=qH (fun W (hb:Below W1.heap.size W1 W)=>checkA ((hA.keep hb1).keep hb) (by have:=(few_le hf).2;omega));obtain⟨z,hz⟩:=exE (chkT n i o cs);obtain⟨y,hy⟩:=exE (chkA an ss);rw[hz] at HT;simp only[hy] at HA;unfold chkP;rw[hz,hy];obtain⟨g0,g1,g2,g3,g4,g5,g6⟩:=HK.out W1 (Below.refl _ _);rw[hW1] at g0 g1 g2 g3 g4 g5 g6;clear hT hA kT hz hy;by_cases hz0:z=0
 ·subst hz0;rw[if_neg (fun h=>h rfl)];by_cases hy0:y=0
  ·subst hy0;rw[if_neg (fun h=>h rfl)];by_cases hn:n=an
   ·subst hn;rw[if_neg (fun h=>h rfl)];by_cases hr:r < 0∨6 < r
    ·rw[if_pos hr];rcases hr with hr|hr
     ·have d1:decide (r < 0)=true:=decide_eq_true hr;clear hr;go_enter Tryz.func125, Tryz.ntmps125
      go_wp2_with fail
      rw[←hW1];replace hW1:=qH hW1;refine HT.out.mono ?_;rintro e w2 ⟨rfl,hb2⟩;clear g0 g1 g2 g3 g4 g5 g6;obtain⟨g0,g1,g2,g3,g4,g5,g6⟩:=HK.out w2 hb2;go_wp2_with fail
      refine(HA.out w2 hb2).mono ?_;rintro e w3 ⟨rfl,hb3⟩;clear g0 g1 g2 g3 g4 g5 g6;obtain⟨g0,g1,g2,g3,g4,g5,g6⟩:=HK.out w3 (btt hb2 hb3);have hbf:=btt hb1 (btt hb2 hb3);go_wp2_with fail
      go_ret;exact⟨rfl,hbf⟩
     ·have d1:decide (r < 0)=false:=decide_eq_false (by omega);have d2:decide (6 < r)=true:=decide_eq_true hr;clear hr;go_enter Tryz.func125, Tryz.ntmps125
      go_wp2_with fail
      rw[←hW1];replace hW1:=qH hW1;refine HT.out.mono ?_;rintro e w2 ⟨rfl,hb2⟩;clear g0 g1 g2 g3 g4 g5 g6;obtain⟨g0,g1,g2,g3,g4,g5,g6⟩:=HK.out w2 hb2;go_wp2_with fail
      refine(HA.out w2 hb2).mono ?_;rintro e w3 ⟨rfl,hb3⟩;clear g0 g1 g2 g3 g4 g5 g6;obtain⟨g0,g1,g2,g3,g4,g5,g6⟩:=HK.out w3 (btt hb2 hb3);have hbf:=btt hb1 (btt hb2 hb3);go_wp2_with fail
      go_ret;exact⟨rfl,hbf⟩
    ·rw[if_neg hr];have d1:decide (r < 0)=false:=decide_eq_false (by omega);have d2:decide (6 < r)=false:=decide_eq_false (by omega);clear hr;go_enter Tryz.func125, Tryz.ntmps125
     go_wp2_with fail
     rw[←hW1];replace hW1:=qH hW1;refine HT.out.mono ?_;rintro e w2 ⟨rfl,hb2⟩;clear g0 g1 g2 g3 g4 g5 g6;obtain⟨g0,g1,g2,g3,g4,g5,g6⟩:=HK.out w2 hb2;go_wp2_with fail
     refine(HA.out w2 hb2).mono ?_;rintro e w3 ⟨rfl,hb3⟩;clear g0 g1 g2 g3 g4 g5 g6;obtain⟨g0,g1,g2,g3,g4,g5,g6⟩:=HK.out w3 (btt hb2 hb3);have hbf:=btt hb1 (btt hb2 hb3);go_wp2_with fail
     go_ret;exact⟨rfl,hbf⟩
   ·rw[if_pos hn];have d1:(n != an)=true:=(by simpa using hn);clear hn;go_enter Tryz.func125, Tryz.ntmps125
    go_wp2_with fail
    rw[←hW1];replace hW1:=qH hW1;refine HT.out.mono ?_;rintro e w2 ⟨rfl,hb2⟩;clear g0 g1 g2 g3 g4 g5 g6;obtain⟨g0,g1,g2,g3,g4,g5,g6⟩:=HK.out w2 hb2;go_wp2_with fail
    refine(HA.out w2 hb2).mono ?_;rintro e w3 ⟨rfl,hb3⟩;clear g0 g1 g2 g3 g4 g5 g6;obtain⟨g0,g1,g2,g3,g4,g5,g6⟩:=HK.out w3 (btt hb2 hb3);have hbf:=btt hb1 (btt hb2 hb3);go_wp2_with fail
    go_ret;exact⟨rfl,hbf⟩
  ·rw[if_pos hy0];have d1:(y != 0)=true:=(by simpa using hy0);go_enter Tryz.func125, Tryz.ntmps125
   go_wp2_with fail
   rw[←hW1];replace hW1:=qH hW1;refine HT.out.mono ?_;rintro e w2 ⟨rfl,hb2⟩;clear g0 g1 g2 g3 g4 g5 g6;obtain⟨g0,g1,g2,g3,g4,g5,g6⟩:=HK.out w2 hb2;go_wp2_with fail
   refine(HA.out w2 hb2).mono ?_;rintro e w3 ⟨rfl,hb3⟩;clear g0 g1 g2 g3 g4 g5 g6;obtain⟨g0,g1,g2,g3,g4,g5,g6⟩:=HK.out w3 (btt hb2 hb3);have hbf:=btt hb1 (btt hb2 hb3);go_wp2_with fail
   go_ret;exact⟨rfl,hbf⟩
 ·rw[if_pos hz0];have d1:(z != 0)=true:=by simpa using hz0
  go_enter Tryz.func125, Tryz.ntmps125
  go_wp2_with fail
  rw[←hW1];replace hW1:=qH hW1;refine HT.out.mono ?_;rintro e w2 ⟨rfl,hb2⟩;have hbf:=btt hb1 hb2;go_wp2_with fail
  go_ret;exact⟨rfl,hbf⟩
def numP (cs:List Cs) (ss:List (List (List Int))) (k:Nat):Nat:=cs.length * num ss 4097 k
def fewP (n i o:Int) (cs:List Cs) (an:Int) (ss:List (List (List Int))) (r:Int):Bool:=
 fewT cs && (fewA ss && (!(decide (3 < n) && decide (n≤5)) && (decide (chkP n i o cs an ss r ≠ 0) || (decide (numP cs ss r.toNat≤60) || decide (4096 < numP cs ss r.toNat)))))
abbrev Ex:=Int × List (List Int) × List (List Int)
def exNil:Ex:=(0,[],[])
def ExC (w:World) (b off:Nat) (xs:List Ex):Prop:=
 ∀j,j < xs.length→∃u1 u2,w.cell? ⟨b,off+j * 3,none⟩=some (.int .i64 (xs.getD j exNil).1)∧w.cell? ⟨b,off+j * 3+1,none⟩=some u1∧w.cell? ⟨b,off+j * 3+2,none⟩=some u2∧
  KS 7 w u1 (xs.getD j exNil).2.1∧Intss w u2 (xs.getD j exNil).2.2
theorem ExC.keep {w w':World}{b off:Nat}{xs:List Ex}(h:ExC w b off xs) (hb:Below w.heap.size w w'):ExC w' b off xs:=fun j hj=>by
 obtain⟨u1,u2,h1,h2,h3,h4,h5⟩:=h j hj;exact⟨u1,u2,cell_kept hb h1,cell_kept hb h2,cell_kept hb h3,h4.keep hb,h5.keep hb⟩
def ExS (w:World) (v:Value) (xs:List Ex):Prop:=
 ∃a c b off,v = .slice a xs.length c∧(0 < xs.length→a=some ⟨b,off,none⟩)∧ExC w b off xs∧xs.length≤1954687338268
theorem ExS.keep {w w':World}{v:Value}{xs:List Ex}(h:ExS w v xs) (hb:Below w.heap.size w w'):ExS w' v xs:=by
 obtain⟨a,c,b,off,h1,h2,h3,h4⟩:=h;exact⟨a,c,b,off,h1,h2,h3.keep hb,h4⟩
theorem ExS.at {w:World}{a:Option Addr}{c:Nat}{l:List Ex}(h:ExS w (.slice a l.length c) l) (h0:0 < l.length):∃b off,a=some ⟨b,off,none⟩∧ExC w b off l:=by
 obtain⟨a',c',b,off,hv,ha,hc,_⟩:=h;injection hv with e1 _ _;exact⟨b,off,e1.trans (ha h0),hc⟩
def SysV (w:World) (v:Value) (n i o:Int) (cs:List Cs) (an:Int) (ss:List (List (List Int))) (r tn:Int) (vs:List (List Int)) (xs:List Ex):Prop:=
 ∃a c a' c' va vc xa xc,v = .agg #[.int .i64 n,.int .i64 i,.int .i64 o,.slice a cs.length c,.int .i64 an,.slice a' ss.length c',.int .i64 r,.int .i64 tn,.slice va vs.length vc,.slice xa xs.length xc]∧
  PrV w (.agg #[.int .i64 n,.int .i64 i,.int .i64 o,.slice a cs.length c,.int .i64 an,.slice a' ss.length c',.int .i64 r]) n i o cs an ss r∧KS 8 w (.slice va vs.length vc) vs∧ExS w (.slice xa xs.length xc) xs
theorem SysV.keep {w w':World}{v:Value}{n i o an r tn:Int}{cs:List Cs}{ss:List (List (List Int))}{vs:List (List Int)}{xs:List Ex}(h:SysV w v n i o cs an ss r tn vs xs) (hb:Below w.heap.size w w'):SysV w' v n i o cs an ss r tn vs xs:=by
 obtain⟨a,c,a',c',va,vc,xa,xc,h1,h2,h3,h4⟩:=h;exact⟨a,c,a',c',va,vc,xa,xc,h1,h2.keep hb,h3.keep hb,h4.keep hb⟩
theorem box10' {W:World}{b:Nat}{v0 v1 v2 v3 v4 v5 v6 v7 v8 v9:Value}{T:TypeId}(h:W.heap[b]? = some (.cells #[v0,v1,v2,v3,v4,v5,v6,v7,v8,v9] T)):(W.cell? ⟨b,0,none⟩=some v0∧W.cell? ⟨b,1,none⟩=some v1∧W.cell? ⟨b,2,none⟩=some v2∧W.cell? ⟨b,3,none⟩=some v3∧W.cell? ⟨b,4,none⟩=some v4∧W.cell? ⟨b,5,none⟩=some v5∧W.cell? ⟨b,6,none⟩=some v6)∧W.cell? ⟨b,7,none⟩=some v7∧W.cell? ⟨b,8,none⟩=some v8∧W.cell? ⟨b,9,none⟩=some v9:=
 ⟨⟨by rw[cell_of_row _ _ 0 _ _ _ h];rfl,by rw[cell_of_row _ _ 1 _ _ _ h];rfl,by rw[cell_of_row _ _ 2 _ _ _ h];rfl,by rw[cell_of_row _ _ 3 _ _ _ h];rfl,by rw[cell_of_row _ _ 4 _ _ _ h];rfl,by rw[cell_of_row _ _ 5 _ _ _ h];rfl,by rw[cell_of_row _ _ 6 _ _ _ h];rfl⟩,by rw[cell_of_row _ _ 7 _ _ _ h];rfl,by rw[cell_of_row _ _ 8 _ _ _ h];rfl,by rw[cell_of_row _ _ 9 _ _ _ h];rfl⟩
theorem keep3' {W W1:World}{b:Nat}{v7 v8 v9:Value}(hb:Below W.heap.size W W1) (h:W.cell? ⟨b,7,none⟩=some v7∧W.cell? ⟨b,8,none⟩=some v8∧W.cell? ⟨b,9,none⟩=some v9):W1.cell? ⟨b,7,none⟩=some v7∧W1.cell? ⟨b,8,none⟩=some v8∧W1.cell? ⟨b,9,none⟩=some v9:=
 ⟨cell_kept hb h.1,cell_kept hb h.2.1,cell_kept hb h.2.2⟩
def KSC (k:Nat) (w:World) (v:Value) (xs:List (List Int)):Prop:=
 ∃a c b off,v = .slice a xs.length c∧(0 < xs.length→a=some ⟨b,off,none⟩)∧CK k w b off xs∧xs.length≤2199023255552∧xs.length≤c
theorem KSC.ks {k:Nat}{w:World}{v:Value}{xs:List (List Int)}(h:KSC k w v xs):KS k w v xs:=by
 obtain⟨a,c,b,off,h1,h2,h3,h4,_⟩:=h;exact⟨a,c,b,off,h1,h2,h3,h4⟩
theorem KSC.keep {k:Nat}{w w':World}{v:Value}{xs:List (List Int)}(h:KSC k w v xs) (hb:Below w.heap.size w w'):KSC k w' v xs:=by
 obtain⟨a,c,b,off,h1,h2,h3,h4⟩:=h;exact⟨a,c,b,off,h1,h2,h3.keep hb,h4⟩
end Go.Proofs.YtcnedkkcgdkioaaGreat
namespace Go.Proofs
open Go.Shelf
def Tryz.sortVx_ren : Go.Shelf.Ren := ⟨fun | 6 => 153 | 15 => 100 | 14 => 203 | 28 => 165 | 29 => 166 | 20 => 232 | 21 => 233 | 22 => 234 | 23 => 235 | 24 => 236 | 25 => 237 | 26 => 238 | 27 => 239 | 46 => 261 | 47 => 205 | 48 => 206 | 49 => 262 | 50 => 263 | 57 => 276 | n => n, fun | 22 => 38 | 24 => 83 | 25 => 186 | 3 => 3 | 39 => 173 | 0 => 0 | 53 => 231 | 55 => 233 | 4 => 4 | 46 => 224 | 45 => 223 | 50 => 228 | 5 => 5 | 9 => 9 | 66 => 259 | 70 => 263 | 76 => 288 | 77 => 289 | n => n, fun | n => n⟩
theorem Tryz.sortVx : Go.Proofs.SlLaysF0.n6 Tryz.prog Tryz.sortVx_ren := {
  mixed := by kernel_rfl
  f6 := ⟨Tryz.f153.name, by decide, Tryz.func153.trans (congrArg some (by kernel_rfl))⟩
  f14 := ⟨Tryz.f203.name, by decide, Tryz.func203.trans (congrArg some (by kernel_rfl))⟩
  f15 := Tryz.func100.trans (congrArg some (by kernel_rfl))
  f20 := ⟨Tryz.f232.name, by decide, Tryz.func232.trans (congrArg some (by kernel_rfl))⟩
  f21 := ⟨Tryz.f233.name, by decide, Tryz.func233.trans (congrArg some (by kernel_rfl))⟩
  f22 := ⟨Tryz.f234.name, by decide, Tryz.func234.trans (congrArg some (by kernel_rfl))⟩
  f23 := ⟨Tryz.f235.name, by decide, Tryz.func235.trans (congrArg some (by kernel_rfl))⟩
  f24 := ⟨Tryz.f236.name, by decide, Tryz.func236.trans (congrArg some (by kernel_rfl))⟩
  f25 := ⟨Tryz.f237.name, by decide, Tryz.func237.trans (congrArg some (by kernel_rfl))⟩
  f26 := ⟨Tryz.f238.name, by decide, Tryz.func238.trans (congrArg some (by kernel_rfl))⟩
  f27 := ⟨Tryz.f239.name, by decide, Tryz.func239.trans (congrArg some (by kernel_rfl))⟩
  f28 := Tryz.func165.trans (congrArg some (by kernel_rfl))
  f29 := Tryz.func166.trans (congrArg some (by kernel_rfl))
  f46 := ⟨Tryz.f261.name, by decide, Tryz.func261.trans (congrArg some (by kernel_rfl))⟩
  f47 := Tryz.func205.trans (congrArg some (by kernel_rfl))
  f48 := Tryz.func206.trans (congrArg some (by kernel_rfl))
  f49 := ⟨Tryz.f262.name, by decide, Tryz.func262.trans (congrArg some (by kernel_rfl))⟩
  f50 := ⟨Tryz.f263.name, by decide, Tryz.func263.trans (congrArg some (by kernel_rfl))⟩
  f57 := ⟨Tryz.f276.name, by decide, Tryz.func276.trans (congrArg some (by kernel_rfl))⟩
  t0 := Tryz.underlying0
  a0 := Tryz.isAgg0
  z0 := Tryz.sizeOf0
  v0 := Tryz.zeroValue0
  t3 := Tryz.underlying3
  a3 := Tryz.isAgg3
  z3 := Tryz.sizeOf3
  v3 := Tryz.zeroValue3
  t4 := Tryz.underlying4
  a4 := Tryz.isAgg4
  z4 := Tryz.sizeOf4
  v4 := Tryz.zeroValue4
  t5 := Tryz.underlying5
  a5 := Tryz.isAgg5
  z5 := Tryz.sizeOf5
  v5 := Tryz.zeroValue5
  t9 := Tryz.underlying9
  a9 := Tryz.isAgg9
  z9 := Tryz.sizeOf9
  v9 := Tryz.zeroValue9
  t22 := Tryz.underlying38
  a22 := Tryz.isAgg38
  z22 := Tryz.sizeOf38
  v22 := Tryz.zeroValue38
  t25 := Tryz.underlying186
  a25 := Tryz.isAgg186
  z25 := Tryz.sizeOf186
  v25 := Tryz.zeroValue186
  t39 := Tryz.underlying173
  a39 := Tryz.isAgg173
  z39 := Tryz.sizeOf173
  v39 := Tryz.zeroValue173
  t45 := Tryz.underlying223
  a45 := Tryz.isAgg223
  z45 := Tryz.sizeOf223
  v45 := Tryz.zeroValue223
  t46 := Tryz.underlying224
  a46 := Tryz.isAgg224
  z46 := Tryz.sizeOf224
  v46 := Tryz.zeroValue224
  t50 := Tryz.underlying228
  a50 := Tryz.isAgg228
  z50 := Tryz.sizeOf228
  v50 := Tryz.zeroValue228
  t53 := Tryz.underlying231
  a53 := Tryz.isAgg231
  z53 := Tryz.sizeOf231
  v53 := Tryz.zeroValue231
  t55 := Tryz.underlying233
  a55 := Tryz.isAgg233
  z55 := Tryz.sizeOf233
  v55 := Tryz.zeroValue233
  t66 := Tryz.underlying259
  a66 := Tryz.isAgg259
  z66 := Tryz.sizeOf259
  v66 := Tryz.zeroValue259
  t70 := Tryz.underlying263
  a70 := Tryz.isAgg263
  z70 := Tryz.sizeOf263
  v70 := Tryz.zeroValue263
  t76 := Tryz.underlying288
  a76 := Tryz.isAgg288
  z76 := Tryz.sizeOf288
  v76 := Tryz.zeroValue288
  t77 := Tryz.underlying289
  a77 := Tryz.isAgg289
  z77 := Tryz.sizeOf289
  v77 := Tryz.zeroValue289 }
def Tryz.sortVs_ren : Go.Shelf.Ren := ⟨fun | 6 => 197 | 15 => 100 | 14 => 231 | 28 => 165 | 29 => 166 | 20 => 253 | 21 => 254 | 22 => 255 | 23 => 256 | 24 => 257 | 25 => 258 | 26 => 259 | 27 => 260 | 46 => 273 | 47 => 205 | 48 => 206 | 49 => 274 | 50 => 275 | 57 => 280 | n => n, fun | 22 => 55 | 24 => 38 | 25 => 129 | 3 => 3 | 39 => 173 | 0 => 0 | 53 => 231 | 55 => 233 | 4 => 4 | 46 => 224 | 45 => 223 | 50 => 228 | 5 => 5 | 9 => 9 | 66 => 259 | 70 => 263 | 76 => 288 | 77 => 289 | n => n, fun | n => n⟩
theorem Tryz.sortVs : Go.Proofs.SlLaysF.n6 Tryz.prog Tryz.sortVs_ren := {
  mixed := by kernel_rfl
  f6 := ⟨Tryz.f197.name, by decide, Tryz.func197.trans (congrArg some (by kernel_rfl))⟩
  f14 := ⟨Tryz.f231.name, by decide, Tryz.func231.trans (congrArg some (by kernel_rfl))⟩
  f15 := Tryz.func100.trans (congrArg some (by kernel_rfl))
  f20 := ⟨Tryz.f253.name, by decide, Tryz.func253.trans (congrArg some (by kernel_rfl))⟩
  f21 := ⟨Tryz.f254.name, by decide, Tryz.func254.trans (congrArg some (by kernel_rfl))⟩
  f22 := ⟨Tryz.f255.name, by decide, Tryz.func255.trans (congrArg some (by kernel_rfl))⟩
  f23 := ⟨Tryz.f256.name, by decide, Tryz.func256.trans (congrArg some (by kernel_rfl))⟩
  f24 := ⟨Tryz.f257.name, by decide, Tryz.func257.trans (congrArg some (by kernel_rfl))⟩
  f25 := ⟨Tryz.f258.name, by decide, Tryz.func258.trans (congrArg some (by kernel_rfl))⟩
  f26 := ⟨Tryz.f259.name, by decide, Tryz.func259.trans (congrArg some (by kernel_rfl))⟩
  f27 := ⟨Tryz.f260.name, by decide, Tryz.func260.trans (congrArg some (by kernel_rfl))⟩
  f28 := Tryz.func165.trans (congrArg some (by kernel_rfl))
  f29 := Tryz.func166.trans (congrArg some (by kernel_rfl))
  f46 := ⟨Tryz.f273.name, by decide, Tryz.func273.trans (congrArg some (by kernel_rfl))⟩
  f47 := Tryz.func205.trans (congrArg some (by kernel_rfl))
  f48 := Tryz.func206.trans (congrArg some (by kernel_rfl))
  f49 := ⟨Tryz.f274.name, by decide, Tryz.func274.trans (congrArg some (by kernel_rfl))⟩
  f50 := ⟨Tryz.f275.name, by decide, Tryz.func275.trans (congrArg some (by kernel_rfl))⟩
  f57 := ⟨Tryz.f280.name, by decide, Tryz.func280.trans (congrArg some (by kernel_rfl))⟩
  t0 := Tryz.underlying0
  a0 := Tryz.isAgg0
  z0 := Tryz.sizeOf0
  v0 := Tryz.zeroValue0
  t3 := Tryz.underlying3
  a3 := Tryz.isAgg3
  z3 := Tryz.sizeOf3
  v3 := Tryz.zeroValue3
  t4 := Tryz.underlying4
  a4 := Tryz.isAgg4
  z4 := Tryz.sizeOf4
  v4 := Tryz.zeroValue4
  t5 := Tryz.underlying5
  a5 := Tryz.isAgg5
  z5 := Tryz.sizeOf5
  v5 := Tryz.zeroValue5
  t9 := Tryz.underlying9
  a9 := Tryz.isAgg9
  z9 := Tryz.sizeOf9
  v9 := Tryz.zeroValue9
  t22 := Tryz.underlying55
  a22 := Tryz.isAgg55
  z22 := Tryz.sizeOf55
  v22 := Tryz.zeroValue55
  a24 := Tryz.isAgg38
  z24 := Tryz.sizeOf38
  t25 := Tryz.underlying129
  a25 := Tryz.isAgg129
  z25 := Tryz.sizeOf129
  v25 := Tryz.zeroValue129
  t39 := Tryz.underlying173
  a39 := Tryz.isAgg173
  z39 := Tryz.sizeOf173
  v39 := Tryz.zeroValue173
  t45 := Tryz.underlying223
  a45 := Tryz.isAgg223
  z45 := Tryz.sizeOf223
  v45 := Tryz.zeroValue223
  t46 := Tryz.underlying224
  a46 := Tryz.isAgg224
  z46 := Tryz.sizeOf224
  v46 := Tryz.zeroValue224
  t50 := Tryz.underlying228
  a50 := Tryz.isAgg228
  z50 := Tryz.sizeOf228
  v50 := Tryz.zeroValue228
  t53 := Tryz.underlying231
  a53 := Tryz.isAgg231
  z53 := Tryz.sizeOf231
  v53 := Tryz.zeroValue231
  t55 := Tryz.underlying233
  a55 := Tryz.isAgg233
  z55 := Tryz.sizeOf233
  v55 := Tryz.zeroValue233
  t66 := Tryz.underlying259
  a66 := Tryz.isAgg259
  z66 := Tryz.sizeOf259
  v66 := Tryz.zeroValue259
  t70 := Tryz.underlying263
  a70 := Tryz.isAgg263
  z70 := Tryz.sizeOf263
  v70 := Tryz.zeroValue263
  t76 := Tryz.underlying288
  a76 := Tryz.isAgg288
  z76 := Tryz.sizeOf288
  v76 := Tryz.zeroValue288
  t77 := Tryz.underlying289
  a77 := Tryz.isAgg289
  z77 := Tryz.sizeOf289
  v77 := Tryz.zeroValue289 }
def Tryz.sortII_ren : Go.Shelf.Ren := ⟨fun | 6 => 141 | 15 => 100 | 14 => 194 | 28 => 165 | 29 => 166 | 20 => 223 | 21 => 224 | 22 => 225 | 23 => 226 | 24 => 227 | 25 => 228 | 26 => 229 | 27 => 230 | 46 => 250 | 47 => 205 | 48 => 206 | 49 => 251 | 50 => 252 | 57 => 272 | n => n, fun | 22 => 78 | 24 => 48 | 25 => 208 | 3 => 3 | 39 => 173 | 0 => 0 | 53 => 231 | 55 => 233 | 4 => 4 | 46 => 224 | 45 => 223 | 50 => 228 | 5 => 5 | 9 => 9 | 66 => 259 | 70 => 263 | 76 => 288 | 77 => 289 | n => n, fun | n => n⟩
theorem Tryz.sortII : Go.Proofs.SlLaysF.n6 Tryz.prog Tryz.sortII_ren := {
  mixed := by kernel_rfl
  f6 := ⟨Tryz.f141.name, by decide, Tryz.func141.trans (congrArg some (by kernel_rfl))⟩
  f14 := ⟨Tryz.f194.name, by decide, Tryz.func194.trans (congrArg some (by kernel_rfl))⟩
  f15 := Tryz.func100.trans (congrArg some (by kernel_rfl))
  f20 := ⟨Tryz.f223.name, by decide, Tryz.func223.trans (congrArg some (by kernel_rfl))⟩
  f21 := ⟨Tryz.f224.name, by decide, Tryz.func224.trans (congrArg some (by kernel_rfl))⟩
  f22 := ⟨Tryz.f225.name, by decide, Tryz.func225.trans (congrArg some (by kernel_rfl))⟩
  f23 := ⟨Tryz.f226.name, by decide, Tryz.func226.trans (congrArg some (by kernel_rfl))⟩
  f24 := ⟨Tryz.f227.name, by decide, Tryz.func227.trans (congrArg some (by kernel_rfl))⟩
  f25 := ⟨Tryz.f228.name, by decide, Tryz.func228.trans (congrArg some (by kernel_rfl))⟩
  f26 := ⟨Tryz.f229.name, by decide, Tryz.func229.trans (congrArg some (by kernel_rfl))⟩
  f27 := ⟨Tryz.f230.name, by decide, Tryz.func230.trans (congrArg some (by kernel_rfl))⟩
  f28 := Tryz.func165.trans (congrArg some (by kernel_rfl))
  f29 := Tryz.func166.trans (congrArg some (by kernel_rfl))
  f46 := ⟨Tryz.f250.name, by decide, Tryz.func250.trans (congrArg some (by kernel_rfl))⟩
  f47 := Tryz.func205.trans (congrArg some (by kernel_rfl))
  f48 := Tryz.func206.trans (congrArg some (by kernel_rfl))
  f49 := ⟨Tryz.f251.name, by decide, Tryz.func251.trans (congrArg some (by kernel_rfl))⟩
  f50 := ⟨Tryz.f252.name, by decide, Tryz.func252.trans (congrArg some (by kernel_rfl))⟩
  f57 := ⟨Tryz.f272.name, by decide, Tryz.func272.trans (congrArg some (by kernel_rfl))⟩
  t0 := Tryz.underlying0
  a0 := Tryz.isAgg0
  z0 := Tryz.sizeOf0
  v0 := Tryz.zeroValue0
  t3 := Tryz.underlying3
  a3 := Tryz.isAgg3
  z3 := Tryz.sizeOf3
  v3 := Tryz.zeroValue3
  t4 := Tryz.underlying4
  a4 := Tryz.isAgg4
  z4 := Tryz.sizeOf4
  v4 := Tryz.zeroValue4
  t5 := Tryz.underlying5
  a5 := Tryz.isAgg5
  z5 := Tryz.sizeOf5
  v5 := Tryz.zeroValue5
  t9 := Tryz.underlying9
  a9 := Tryz.isAgg9
  z9 := Tryz.sizeOf9
  v9 := Tryz.zeroValue9
  t22 := Tryz.underlying78
  a22 := Tryz.isAgg78
  z22 := Tryz.sizeOf78
  v22 := Tryz.zeroValue78
  a24 := Tryz.isAgg48
  z24 := Tryz.sizeOf48
  t25 := Tryz.underlying208
  a25 := Tryz.isAgg208
  z25 := Tryz.sizeOf208
  v25 := Tryz.zeroValue208
  t39 := Tryz.underlying173
  a39 := Tryz.isAgg173
  z39 := Tryz.sizeOf173
  v39 := Tryz.zeroValue173
  t45 := Tryz.underlying223
  a45 := Tryz.isAgg223
  z45 := Tryz.sizeOf223
  v45 := Tryz.zeroValue223
  t46 := Tryz.underlying224
  a46 := Tryz.isAgg224
  z46 := Tryz.sizeOf224
  v46 := Tryz.zeroValue224
  t50 := Tryz.underlying228
  a50 := Tryz.isAgg228
  z50 := Tryz.sizeOf228
  v50 := Tryz.zeroValue228
  t53 := Tryz.underlying231
  a53 := Tryz.isAgg231
  z53 := Tryz.sizeOf231
  v53 := Tryz.zeroValue231
  t55 := Tryz.underlying233
  a55 := Tryz.isAgg233
  z55 := Tryz.sizeOf233
  v55 := Tryz.zeroValue233
  t66 := Tryz.underlying259
  a66 := Tryz.isAgg259
  z66 := Tryz.sizeOf259
  v66 := Tryz.zeroValue259
  t70 := Tryz.underlying263
  a70 := Tryz.isAgg263
  z70 := Tryz.sizeOf263
  v70 := Tryz.zeroValue263
  t76 := Tryz.underlying288
  a76 := Tryz.isAgg288
  z76 := Tryz.sizeOf288
  v76 := Tryz.zeroValue288
  t77 := Tryz.underlying289
  a77 := Tryz.isAgg289
  z77 := Tryz.sizeOf289
  v77 := Tryz.zeroValue289 }
def Tryz.sortI_ren : Go.Shelf.Ren := ⟨fun | 5 => 50 | 8 => 100 | 7 => 99 | 19 => 165 | 20 => 166 | 10 => 156 | 11 => 157 | 12 => 158 | 13 => 159 | 14 => 160 | 15 => 161 | 16 => 162 | 17 => 163 | 18 => 164 | 30 => 204 | 31 => 205 | 32 => 206 | 33 => 207 | 34 => 208 | 35 => 209 | 40 => 240 | n => n, fun | 23 => 48 | 25 => 3 | 3 => 3 | 32 => 173 | 22 => 48 | 0 => 0 | 44 => 231 | 46 => 233 | 4 => 4 | 36 => 224 | 35 => 223 | 41 => 228 | 5 => 5 | 9 => 9 | 53 => 259 | 57 => 263 | 63 => 288 | 64 => 289 | n => n, fun | n => n⟩
theorem Tryz.sortI : Go.Proofs.SlLaysM.n5 Tryz.prog Tryz.sortI_ren := {
  mixed := by kernel_rfl
  f5 := ⟨Tryz.f50.name, by decide, Tryz.func50.trans (congrArg some (by kernel_rfl))⟩
  f7 := ⟨Tryz.f99.name, by decide, Tryz.func99.trans (congrArg some (by kernel_rfl))⟩
  f8 := Tryz.func100.trans (congrArg some (by kernel_rfl))
  f10 := ⟨Tryz.f156.name, by decide, Tryz.func156.trans (congrArg some (by kernel_rfl))⟩
  f11 := ⟨Tryz.f157.name, by decide, Tryz.func157.trans (congrArg some (by kernel_rfl))⟩
  f12 := ⟨Tryz.f158.name, by decide, Tryz.func158.trans (congrArg some (by kernel_rfl))⟩
  f13 := ⟨Tryz.f159.name, by decide, Tryz.func159.trans (congrArg some (by kernel_rfl))⟩
  f14 := ⟨Tryz.f160.name, by decide, Tryz.func160.trans (congrArg some (by kernel_rfl))⟩
  f15 := ⟨Tryz.f161.name, by decide, Tryz.func161.trans (congrArg some (by kernel_rfl))⟩
  f16 := ⟨Tryz.f162.name, by decide, Tryz.func162.trans (congrArg some (by kernel_rfl))⟩
  f17 := ⟨Tryz.f163.name, by decide, Tryz.func163.trans (congrArg some (by kernel_rfl))⟩
  f18 := ⟨Tryz.f164.name, by decide, Tryz.func164.trans (congrArg some (by kernel_rfl))⟩
  f19 := Tryz.func165.trans (congrArg some (by kernel_rfl))
  f20 := Tryz.func166.trans (congrArg some (by kernel_rfl))
  f30 := ⟨Tryz.f204.name, by decide, Tryz.func204.trans (congrArg some (by kernel_rfl))⟩
  f31 := Tryz.func205.trans (congrArg some (by kernel_rfl))
  f32 := Tryz.func206.trans (congrArg some (by kernel_rfl))
  f33 := ⟨Tryz.f207.name, by decide, Tryz.func207.trans (congrArg some (by kernel_rfl))⟩
  f34 := ⟨Tryz.f208.name, by decide, Tryz.func208.trans (congrArg some (by kernel_rfl))⟩
  f35 := ⟨Tryz.f209.name, by decide, Tryz.func209.trans (congrArg some (by kernel_rfl))⟩
  f40 := ⟨Tryz.f240.name, by decide, Tryz.func240.trans (congrArg some (by kernel_rfl))⟩
  t0 := Tryz.underlying0
  a0 := Tryz.isAgg0
  z0 := Tryz.sizeOf0
  v0 := Tryz.zeroValue0
  t3 := Tryz.underlying3
  a3 := Tryz.isAgg3
  z3 := Tryz.sizeOf3
  v3 := Tryz.zeroValue3
  t4 := Tryz.underlying4
  a4 := Tryz.isAgg4
  z4 := Tryz.sizeOf4
  v4 := Tryz.zeroValue4
  t5 := Tryz.underlying5
  a5 := Tryz.isAgg5
  z5 := Tryz.sizeOf5
  v5 := Tryz.zeroValue5
  t9 := Tryz.underlying9
  a9 := Tryz.isAgg9
  z9 := Tryz.sizeOf9
  v9 := Tryz.zeroValue9
  t22 := Tryz.underlying48
  a22 := Tryz.isAgg48
  z22 := Tryz.sizeOf48
  v22 := Tryz.zeroValue48
  t23 := Tryz.underlying48
  a23 := Tryz.isAgg48
  z23 := Tryz.sizeOf48
  v23 := Tryz.zeroValue48
  t25 := Tryz.underlying3
  a25 := Tryz.isAgg3
  z25 := Tryz.sizeOf3
  v25 := Tryz.zeroValue3
  t32 := Tryz.underlying173
  a32 := Tryz.isAgg173
  z32 := Tryz.sizeOf173
  v32 := Tryz.zeroValue173
  t35 := Tryz.underlying223
  a35 := Tryz.isAgg223
  z35 := Tryz.sizeOf223
  v35 := Tryz.zeroValue223
  t36 := Tryz.underlying224
  a36 := Tryz.isAgg224
  z36 := Tryz.sizeOf224
  v36 := Tryz.zeroValue224
  t41 := Tryz.underlying228
  a41 := Tryz.isAgg228
  z41 := Tryz.sizeOf228
  v41 := Tryz.zeroValue228
  t44 := Tryz.underlying231
  a44 := Tryz.isAgg231
  z44 := Tryz.sizeOf231
  v44 := Tryz.zeroValue231
  t46 := Tryz.underlying233
  a46 := Tryz.isAgg233
  z46 := Tryz.sizeOf233
  v46 := Tryz.zeroValue233
  t53 := Tryz.underlying259
  a53 := Tryz.isAgg259
  z53 := Tryz.sizeOf259
  v53 := Tryz.zeroValue259
  t57 := Tryz.underlying263
  a57 := Tryz.isAgg263
  z57 := Tryz.sizeOf263
  v57 := Tryz.zeroValue263
  t63 := Tryz.underlying288
  a63 := Tryz.isAgg288
  z63 := Tryz.sizeOf288
  v63 := Tryz.zeroValue288
  t64 := Tryz.underlying289
  a64 := Tryz.isAgg289
  z64 := Tryz.sizeOf289
  v64 := Tryz.zeroValue289 }
end Go.Proofs
