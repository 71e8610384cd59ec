/- Texts of this claim, put together: Lib Rl KL A1 A2. -/
import Derived.Test.YtmikofeildnpdaaGreatProg
import Derived.WalkKit
import Derived.WalkSpells
import Derived.WalkLawsBesides
import Derived.Deep.QuietTactic
import Derived.BigQuiet
import Derived.Lib.Hide
import Derived.ProofKit
import Derived.OpenShut
import Derived.Deep.DeepHandedRow
import Derived.Deep.Slices
import Derived.SizedLaws
import Derived.WideKeyArgs
import Derived.OpenVars
import Derived.ChangeCalls

set_option maxRecDepth 100000
set_option maxHeartbeats 12800000
/- What a slice value reads as: plain predicates on worlds, and how they are kept; no program in sight. -/
namespace Go.Proofs.YtmikofeildnpdaaGreat
open Go.RowKit
def Qt (w w' : World) : Prop:=∃ n,w' = w.drewN n
theorem Qt.refl (w : World) : Qt w w:=⟨0,rfl⟩
theorem Qt.mk' (w : World) (n : Nat) : Qt w (w.drewN n):=⟨n,rfl⟩
theorem Qt.mk2 (w : World) (n m : Nat) : Qt w ((w.drewN n).drewN m):=⟨n + m,by simp⟩
theorem Qt.mk1 (w : World) : Qt w w.drew:=⟨1,rfl⟩
theorem Qt.trans {a b c : World} (h : Qt a b) (k : Qt b c) : Qt a c:=by
 obtain ⟨n,rfl⟩:=h; obtain ⟨m,rfl⟩:=k; exact ⟨n + m,by simp⟩
theorem Qt.below {a b : World} (h : Qt a b) : Below a.heap.size a b:=by
 obtain ⟨n,rfl⟩:=h; exact below_drewN (Below.refl _ _) n
theorem Qt.belowB {a b : World} (h : Qt a b) (B : Nat) : Below B a b:=by
 obtain ⟨n,rfl⟩:=h; exact below_drewN (Below.refl _ _) n
theorem bt {a b c : World} {B : Nat} (h : Below B a b) (k : Below b.heap.size b c) (hB : B ≤ b.heap.size) : Below B a c:=h.trans (k.mono hB)
theorem btt {a b c : World} (h : Below a.heap.size a b) (k : Below b.heap.size b c) : Below a.heap.size a c:=h.trans (k.mono h.size)
theorem cell_kept {w w' : World} (h : Below w.heap.size w w') {p : Addr} {v : Value} (hc : w.cell? p = some v) : w'.cell? p = some v:=
 (h.cell (World.block_lt_of_cell? w p hc)).trans hc
def CI (w : World) (b off : Nat) (xs : List Int) : Prop:=∀ j,j < xs.length→w.cell? ⟨b,off + j,none⟩ = some (.int .i64 (xs.getD j 0))
theorem CI.keep {w w' : World} {b off : Nat} {xs : List Int} (h : CI w b off xs) (hb : Below w.heap.size w w') : CI w' b off xs:=fun j hj=>cell_kept hb (h j hj)
theorem CI.qt {w w' : World} {b off : Nat} {xs : List Int} (h : CI w b off xs) (hb : Qt w w') : CI w' b off xs:=h.keep hb.below
def Ints (w : World) (v : Value) (xs : List Int) : Prop:=
 ∃ a c b off,v = .slice a xs.length c∧(0 < xs.length→a = some ⟨b,off,none⟩)∧CI w b off xs∧xs.length ≤ 17592186044416
theorem Ints.keep {w w' : World} {v : Value} {xs : List Int} (h : Ints w v xs) (hb : Below w.heap.size w w') : Ints w' v xs:=by
 obtain ⟨a,c,b,off,hv,ha,hc,hl⟩:=h
 exact ⟨a,c,b,off,hv,ha,hc.keep hb,hl⟩
theorem Ints.drew {w : World} {v : Value} {xs : List Int} (h : Ints w v xs) (n : Nat) : Ints (w.drewN n) v xs:=h
theorem Ints.qt {w w' : World} {v : Value} {xs : List Int} (h : Ints w v xs) (k : Qt w w') : Ints w' v xs:=h.keep k.below
theorem Ints.nil (w : World) (a : Option Addr) (c : Nat) : Ints w (.slice a 0 c) []:=⟨a,c,0,0,rfl,by simp,by intro j hj; simp at hj,by simp⟩
def CII (w : World) (b off : Nat) (xs : List (List Int)) : Prop:=∀ j,j < xs.length→∃ u,w.cell? ⟨b,off + j,none⟩ = some u∧Ints w u (xs.getD j [])
theorem CII.keep {w w' : World} {b off : Nat} {xs : List (List Int)} (h : CII w b off xs) (hb : Below w.heap.size w w') : CII w' b off xs:=
 fun j hj=>let ⟨u,h1,h2⟩:=h j hj; ⟨u,cell_kept hb h1,h2.keep hb⟩
theorem CII.qt {w w' : World} {b off : Nat} {xs : List (List Int)} (h : CII w b off xs) (hb : Qt w w') : CII w' b off xs:=h.keep hb.below
def Intss (w : World) (v : Value) (xs : List (List Int)) : Prop:=
 ∃ a c b off,v = .slice a xs.length c∧(0 < xs.length→a = some ⟨b,off,none⟩)∧CII w b off xs∧xs.length ≤ 5864062014805
theorem Intss.keep {w w' : World} {v : Value} {xs : List (List Int)} (h : Intss w v xs) (hb : Below w.heap.size w w') : Intss w' v xs:=by
 obtain ⟨a,c,b,off,hv,ha,hc,hl⟩:=h
 exact ⟨a,c,b,off,hv,ha,hc.keep hb,hl⟩
theorem getD_eq {α : Type} {xs : List α} {k : Nat} (h : k < xs.length) (d : α) : xs.getD k d = xs[k]:=by simp [h]
theorem take_snoc {α : Type} {xs : List α} {k : Nat} (h : k < xs.length) (d : α) : xs.take (k + 1) = xs.take k ++ [xs.getD k d]:=by
 rw [List.take_succ_eq_append_getElem h,getD_eq h]
theorem drop_cons {α : Type} {xs : List α} {k : Nat} (h : k < xs.length) (d : α) : xs.drop k = xs.getD k d::xs.drop (k + 1):=by
 rw [getD_eq h,List.drop_eq_getElem_cons h]
theorem mem_take_of {xs : List Int} {m k : Nat} (hlt : k < xs.length) (hmk : m < k) (he : xs[m]?.getD 0 = xs[k]) : xs.getD k 0 ∈ xs.take k:=by
 rw [getD_eq hlt,← he,List.mem_iff_getElem?]
 exact ⟨m,by rw [List.getElem?_take,if_pos hmk,List.getElem?_eq_getElem (by omega)]; simp⟩
theorem ret_bool {a b : Bool} (h : a = b) : Ending.returned (.bool a) = .returned (.bool b):=by rw [h]
theorem ret_int {k : IntKind} {a b : Int} (h : a = b) : Ending.returned (.int k a) = .returned (.int k b):=by rw [h]
theorem exE {α : Sort _} (e : α) : ∃ x,e = x:=⟨e,rfl⟩
theorem exF {α : Sort _} (e : α) : ∃ x,x = e:=⟨e,rfl⟩
end Go.Proofs.YtmikofeildnpdaaGreat

/- What every row of this seat needs: arguments opened as lists, the row's last step for a law that returns true and leaves the memory alone. -/
namespace Go.Proofs.YtmikofeildnpdaaGreat
open Go.RowKit Go.ChangeShapes Go.WideShapes Go.ChangeAt Go.Deep Go.WideElems
section
variable {H : Type} {enc : TypeId × Value→H} {P : Program}
theorem trodAll_stays (hl : laidOutB P = true) {W W' : World} {sp' : Nat→Bool} : ∀ {ts : List TypeId} {vs : List Value} {ds : List (DataW H)} {ps : List MemPlace},
  (∀ t ∈ ts,P.readableRec t = true∧t < P.types.size)→DataW.TrodAll enc P W 0 (fun _=>true) true ts vs ds ps→(∀ p ∈ ps,W.sameAt W' p)→(∀ p ∈ ps,sp' p.block = true)→DataW.TrodAll enc P W' 0 sp' true ts vs ds ps
 | [],[],[],_,_,h,_,_=>h
 | [],[],_::_,_,_,h,_,_=>h.elim
 | [],_::_,_,_,_,h,_,_=>h.elim
 | _::_,[],_,_,_,h,_,_=>h.elim
 | _::_,_::_,[],_,_,h,_,_=>h.elim
 | t::ts,v::vs,d::ds,ps,hr,h,hsame,hs=>by
  obtain ⟨p,q,h1,h2,rfl⟩:=h
  have ht:=hr t (by simp)
  exact ⟨p,q,Trod_stays hl ht.1 ht.2 h1 (fun x hx=>hsame x (by simp [hx])) (fun x hx=>hs x (by simp [hx])),
   trodAll_stays hl (fun t ht=>hr t (by simp [ht])) h2 (fun x hx=>hsame x (by simp [hx])) (fun x hx=>hs x (by simp [hx])),rfl⟩
theorem law_post {f : Func} {s : ChangeSpec} {W W' : World} {args : Array Value} {ds gs : List (DataW H)} {before : List MemPlace} (hl : laidOutB P = true) (tb : TypeId) (htb : P.underlying tb = some .bool) (hrt : f.resultTypes = #[tb]) (hv : s.vars = [])
  (hr : f.params.toList.all (fun t=>P.readableRec t && decide (t < P.types.size)) = true)
  (hs : ∀ ds : List (DataW H),ds.length = f.params.size→s.fn H ds = { results:=[.lit (.bool true)],args:=ds })
  (hW : DataW.Whole enc P f.params.toList s.vars false W args.toList ds gs before) (hb : Below W.heap.size W W') :
  s.post enc P f false true false false W args (.bool true) W':=by
 have hlt : ∀ p ∈ before,p.block < W.heap.size:=fun p hp=>hW.lt p hp
 have hold : ∀ p ∈ before,(fun b=>decide (b < W.heap.size)) p.block = true:=fun p hp=>by simpa using hlt p hp
 have hW0:=hW
 obtain ⟨p,q,hA,hV,hpq,hz,hn⟩:=hW
 have hg : gs = []∧q = []:=by
  rw [hv] at hV
  cases gs with
  | nil=>exact ⟨rfl,hV⟩
  | cons=>exact hV.elim
 obtain ⟨rfl,rfl⟩:=hg
 rw [List.append_nil] at hpq
 subst hpq
 have hdl : ds.length = f.params.size:=by
  have:=(Go.trodAll_length hA).2
  simpa using this
 have hfn:=hs (ds ++ []) (by simpa using hdl)
 rw [List.append_nil] at hfn
 have hr' : ∀ t ∈ f.params.toList,P.readableRec t = true∧t < P.types.size:=fun t ht=>by
  have:=List.all_eq_true.1 hr t ht
  simpa using this
 have hres : ∀ (b : Nat) (sp : Nat→Bool) (hd : Bool),DataW.TrodAll enc P W' b sp hd [tb] [.bool true] [.lit (.bool true)] []:=fun b sp hd=>trodAll_cons_mk (shut_bool htb _) trodAll_mk0
 have hargs : ∀ sp : Nat→Bool,(∀ x ∈ before,sp x.block = true)→DataW.TrodAll enc P W' 0 sp true f.params.toList args.toList ds before:=fun sp hsp=>
  trodAll_stays hl hr' hA (fun x hx=>hb.same (hlt x hx)) hsp
 refine ⟨ds,[],before,[],before,[],hW0,?_,?_,?_,?_,fun h=>by cases h⟩
 ·rw [hrt,List.append_nil,hfn]
  exact hres _ _ _
 ·rw [List.append_nil,hfn]
  exact hargs _ hold
 ·rw [List.append_nil,hfn,hv]
  exact rfl
 ·exact World.keptBut_mono (fun x hx=>⟨hx,.inr (.inl hx)⟩) (hb.frame (· ∈ before))
theorem addr_spot {w : World} {a : Addr} {v : Value} (h : w.cell? a = some v) : a = ⟨a.block,a.off,none⟩:=by
 unfold World.cell? at h
 split at h
 ·split at h
  ·cases h
  ·rename_i hs
   cases a with
   | mk b o s=>
    cases s with
    | none=>rfl
    | some x=>simp at hs
 ·cases h
theorem ints_of_trod {w : World} {t e : TypeId} {v : Value} {d : DataW H} {ps : List MemPlace} (ht : P.underlying t = some (.slice e)) (he : P.underlying e = some (.int .i64)) (hc : P.cellsOf e = 1) (hby : P.bytesOf e = 8)
  {fuel : Nat} (h : DataW.trod enc P w 0 (fun _=>true) true fuel t [v] = some (d,ps)) (hw : ∀ n ∈ d.weights P t,n ≤ reachBytes) : ∃ xs,Ints w v xs:=by
 rcases open_slice1 ht hc h with ⟨h1,h2⟩ | ⟨a,len,cap,m,n,V,D,Pl,h1,_,hl,hm,hmm,h2,hx⟩
 ·obtain rfl : v = .slice none 0 0:=by simpa using h1
  exact ⟨[],Ints.nil _ _ _⟩
 ·obtain rfl : v = .slice (some a) len cap:=by simpa using h1
  simp only [if_true] at hmm
  subst hmm
  obtain ⟨rfl,_⟩:=Prod.mk.injEq .. ▸ h2
  have hsz:=hw ((len + (m - len)) * 8) (by simp [DataW.weights,ht,hby])
  unfold reachBytes at hsz
  have hxs : ∀ i,i < len→∃ k,w.cell? (a.add i) = some (.int .i64 k):=fun i hi=>by
   obtain ⟨g1,g2⟩:=hx i (by omega)
   obtain ⟨k,hk,_⟩:=DataW.trod_int he g2
   obtain hk : V i = .int .i64 k:=by simpa using hk
   exact ⟨k,by rw [g1,hk]⟩
  have hlen : len ≤ 17592186044416:=by omega
  refine ⟨(List.range len).map (fun i=>match w.cell? (a.add i) with | some (.int _ k)=>k | _=>0),some a,m,a.block,a.off,by simp,fun h0=>?_,fun j hj=>?_,by simpa using hlen⟩
  ·obtain ⟨k,hk⟩:=hxs 0 (by simpa using h0)
   rw [show a.add 0 = a by simp [Addr.add]] at hk
   rw [← addr_spot hk]
  ·have hj' : j < len:=by simpa using hj
   obtain ⟨k0,hk0⟩:=hxs 0 (by omega)
   rw [show a.add 0 = a by simp [Addr.add]] at hk0
   obtain ⟨k,hk⟩:=hxs j hj'
   have e : a.add j = ⟨a.block,a.off + j,none⟩:=by
    have:=addr_spot hk0
    rw [this]
    exact add_plain _ _ _
   rw [← e,hk]
   simp [hj',hk]
theorem intss_of_trod {w : World} {t e q : TypeId} {v : Value} {d : DataW H} {ps : List MemPlace} (ht : P.underlying t = some (.slice e)) (he : P.underlying e = some (.slice q)) (hq : P.underlying q = some (.int .i64)) (hc : P.cellsOf e = 1) (hby : P.bytesOf e = 24) (hcq : P.cellsOf q = 1) (hbq : P.bytesOf q = 8)
  {fuel : Nat} (h : DataW.trod enc P w 0 (fun _=>true) true fuel t [v] = some (d,ps)) (hw : ∀ n ∈ d.weights P t,n ≤ reachBytes) : ∃ xs,Intss w v xs:=by
 rcases open_slice1 ht hc h with ⟨h1,h2⟩ | ⟨a,len,cap,m,n,V,D,Pl,h1,_,hl,hm,hmm,h2,hx⟩
 ·obtain rfl : v = .slice none 0 0:=by simpa using h1
  exact ⟨[],none,0,0,0,rfl,by simp,by intro j hj; simp at hj,by simp⟩
 ·obtain rfl : v = .slice (some a) len cap:=by simpa using h1
  simp only [if_true] at hmm
  subst hmm
  obtain ⟨rfl,_⟩:=Prod.mk.injEq .. ▸ h2
  have hsz:=hw ((len + (m - len)) * 24) (by simp [DataW.weights,ht,hby])
  unfold reachBytes at hsz
  have hxs : ∀ i,i < len→∃ xs,Ints w (V i) xs:=fun i hi=>by
   obtain ⟨g1,g2⟩:=hx i (by omega)
   refine ints_of_trod he hq hcq hbq g2 fun n hn=>hw n ?_
   simp only [DataW.weights,ht,List.mem_cons,List.mem_append]
   right; left
   have : ∀ {l : List (DataW H)} {x : DataW H},x ∈ l→∀ n ∈ x.weights P e,n ∈ DataW.weightsAll P e l:=by
    intro l
    induction l with
    | nil=>intro x hx; cases hx
    | cons y r ih=>
     intro x hx n hn
     simp only [DataW.weightsAll,List.mem_append]
     rcases List.mem_cons.1 hx with rfl | hx
     ·exact .inl hn
     ·exact .inr (ih hx n hn)
   exact this (List.mem_map_of_mem (List.mem_range.2 hi)) n hn
  have hlen : len ≤ 5864062014805:=by omega
  obtain ⟨X,hX⟩ : ∃ X : Nat→List Int,∀ i,i < len→Ints w (V i) (X i):=⟨fun i=>if h : i < len then (hxs i h).choose else [],fun i hi=>by simp only [hi,dif_pos]; exact (hxs i hi).choose_spec⟩
  refine ⟨(List.range len).map X,some a,m,a.block,a.off,by simp,fun h0=>?_,fun j hj=>?_,by simpa using hlen⟩
  ·have hk:=(hx 0 (by have : 0 < len:=(by simpa using h0); omega)).1
   rw [show a.add 0 = a by simp [Addr.add]] at hk
   rw [← addr_spot hk]
  ·have hj' : j < len:=by simpa using hj
   have hk0:=(hx 0 (by omega)).1
   rw [show a.add 0 = a by simp [Addr.add]] at hk0
   have e1 : a.add j = ⟨a.block,a.off + j,none⟩:=by
    rw [addr_spot hk0]
    exact add_plain _ _ _
   refine ⟨V j,by rw [← e1]; exact (hx j (by omega)).1,?_⟩
   have : ((List.range len).map X).getD j [] = X j:=by simp [hj']
   rw [this]
   exact hX j hj'
end
end Go.Proofs.YtmikofeildnpdaaGreat

/- Flat structs of ints, and slices of them: plain predicates on worlds; no program in sight. -/
namespace Go.Proofs.YtmikofeildnpdaaGreat
open Go.RowKit
def CK (k : Nat) (w : World) (b off : Nat) (xs : List (List Int)) : Prop:=∀ j,j < xs.length→(xs.getD j []).length = k∧CI w b (off + j * k) (xs.getD j [])
theorem CK.keep {k : Nat} {w w' : World} {b off : Nat} {xs : List (List Int)} (h : CK k w b off xs) (hb : Below w.heap.size w w') : CK k w' b off xs:=
 fun j hj=>⟨(h j hj).1,(h j hj).2.keep hb⟩
def KS (k : Nat) (w : World) (v : Value) (xs : List (List Int)) : Prop:=
 ∃ a c b off,v = .slice a xs.length c∧(0 < xs.length→a = some ⟨b,off,none⟩)∧CK k w b off xs∧xs.length ≤ 2199023255552
theorem KS.keep {k : Nat} {w w' : World} {v : Value} {xs : List (List Int)} (h : KS k w v xs) (hb : Below w.heap.size w w') : KS k w' v xs:=by
 obtain ⟨a,c,b,off,hv,ha,hc,hl⟩:=h
 exact ⟨a,c,b,off,hv,ha,hc.keep hb,hl⟩
theorem KS.shape {k : Nat} {w : World} {v : Value} {xs : List (List Int)} (h : KS k w v xs) : ∃ a c,v = .slice a xs.length c:=by
 obtain ⟨a,c,_,_,hv,_⟩:=h; exact ⟨a,c,hv⟩
theorem KS.nil (k : Nat) (w : World) (a : Option Addr) (c : Nat) : KS k w (.slice a 0 c) []:=⟨a,c,0,0,rfl,by simp,by intro j hj; simp at hj,by simp⟩
def CKK (k : Nat) (w : World) (b off : Nat) (xs : List (List (List Int))) : Prop:=∀ j,j < xs.length→∃ u,w.cell? ⟨b,off + j,none⟩ = some u∧KS k w u (xs.getD j [])
theorem CKK.keep {k : Nat} {w w' : World} {b off : Nat} {xs : List (List (List Int))} (h : CKK k w b off xs) (hb : Below w.heap.size w w') : CKK k w' b off xs:=
 fun j hj=>let ⟨u,h1,h2⟩:=h j hj; ⟨u,cell_kept hb h1,h2.keep hb⟩
def KSS (k : Nat) (w : World) (v : Value) (xs : List (List (List Int))) : Prop:=
 ∃ a c b off,v = .slice a xs.length c∧(0 < xs.length→a = some ⟨b,off,none⟩)∧CKK k w b off xs∧xs.length ≤ 5864062014805
theorem KSS.keep {k : Nat} {w w' : World} {v : Value} {xs : List (List (List Int))} (h : KSS k w v xs) (hb : Below w.heap.size w w') : KSS k w' v xs:=by
 obtain ⟨a,c,b,off,hv,ha,hc,hl⟩:=h
 exact ⟨a,c,b,off,hv,ha,hc.keep hb,hl⟩
theorem KSS.shape {k : Nat} {w : World} {v : Value} {xs : List (List (List Int))} (h : KSS k w v xs) : ∃ a c,v = .slice a xs.length c:=by
 obtain ⟨a,c,_,_,hv,_⟩:=h; exact ⟨a,c,hv⟩
theorem eight {x : List Int} (h : x.length = 8) : ∃ a b c d e f g i,x = [a,b,c,d,e,f,g,i]:=by
 match x,h with
 | [a,b,c,d,e,f,g,i],_=>exact ⟨a,b,c,d,e,f,g,i,rfl⟩
theorem seven {x : List Int} (h : x.length = 7) : ∃ a b c d e f g,x = [a,b,c,d,e,f,g]:=by
 match x,h with
 | [a,b,c,d,e,f,g],_=>exact ⟨a,b,c,d,e,f,g,rfl⟩
theorem six {x : List Int} (h : x.length = 6) : ∃ a b c d e f,x = [a,b,c,d,e,f]:=by
 match x,h with
 | [a,b,c,d,e,f],_=>exact ⟨a,b,c,d,e,f,rfl⟩
theorem CI.all8 {w : World} {b o : Nat} {x0 x1 x2 x3 x4 x5 x6 x7 : Int} (h : CI w b o [x0,x1,x2,x3,x4,x5,x6,x7]) :
  w.cell? ⟨b,o,none⟩ = some (.int .i64 x0)∧w.cell? ⟨b,o + 1,none⟩ = some (.int .i64 x1)∧w.cell? ⟨b,o + 2,none⟩ = some (.int .i64 x2)∧w.cell? ⟨b,o + 3,none⟩ = some (.int .i64 x3)∧
  w.cell? ⟨b,o + 4,none⟩ = some (.int .i64 x4)∧w.cell? ⟨b,o + 5,none⟩ = some (.int .i64 x5)∧w.cell? ⟨b,o + 6,none⟩ = some (.int .i64 x6)∧w.cell? ⟨b,o + 7,none⟩ = some (.int .i64 x7):=
 ⟨h 0 (by simp),h 1 (by simp),h 2 (by simp),h 3 (by simp),h 4 (by simp),h 5 (by simp),h 6 (by simp),h 7 (by simp)⟩
theorem CI.all7 {w : World} {b o : Nat} {x0 x1 x2 x3 x4 x5 x6 : Int} (h : CI w b o [x0,x1,x2,x3,x4,x5,x6]) :
  w.cell? ⟨b,o,none⟩ = some (.int .i64 x0)∧w.cell? ⟨b,o + 1,none⟩ = some (.int .i64 x1)∧w.cell? ⟨b,o + 2,none⟩ = some (.int .i64 x2)∧w.cell? ⟨b,o + 3,none⟩ = some (.int .i64 x3)∧
  w.cell? ⟨b,o + 4,none⟩ = some (.int .i64 x4)∧w.cell? ⟨b,o + 5,none⟩ = some (.int .i64 x5)∧w.cell? ⟨b,o + 6,none⟩ = some (.int .i64 x6):=
 ⟨h 0 (by simp),h 1 (by simp),h 2 (by simp),h 3 (by simp),h 4 (by simp),h 5 (by simp),h 6 (by simp)⟩
end Go.Proofs.YtmikofeildnpdaaGreat

/- Graphs: Check of the program and of the reference. -/
namespace Go.Proofs.YtmikofeildnpdaaGreat
open Go.RowKit
theorem powN (n : Int) (h1 : 1 ≤ n) (h5 : n ≤ 5) : n = 1∨n = 2∨n = 3∨n = 4∨n = 5:=by omega
def fullI (n : Int) : Int:=if n = 1 then 1 else if n = 2 then 3 else if n = 3 then 7 else if n = 4 then 15 else 31
theorem fullI_le (n : Int) : 1 ≤ fullI n∧fullI n ≤ 31:=by unfold fullI; split; omega; split; omega; split; omega; split; omega; omega
def twoI (p : Int) : Int:=if p = 0 then 1 else if p = 1 then 2 else if p = 2 then 4 else if p = 3 then 8 else if p = 4 then 16 else 32
theorem fullCall (n : Int) (w : World) (h1 : 1 ≤ n) (h5 : n ≤ 5) : Calls Tryz.prog 180 #[.int .i64 n] w fun e w'=>e = .returned (.int .i64 (fullI n))∧w = w':=by
 rcases powN n h1 h5 with rfl | rfl | rfl | rfl | rfl <;>
 ·go_enter Tryz.func180,Tryz.ntmps180
  go_wp2
  go_ret
  exact ⟨rfl,rfl⟩
theorem powerCall (n : Int) (w : World) (h1 : 0 ≤ n) (h5 : n ≤ 5) : Calls Tryz.prog 179 #[.int .i64 n] w fun e w'=>e = .returned (.int .i64 (twoI n))∧w = w':=by
 go_enter Tryz.func179,Tryz.ntmps179
 go_wp2
 go_loop [3,4] (fun o i=>∃ k : Int,0 ≤ k∧k ≤ n∧i = .int .i64 k∧o = .int .i64 (twoI k)) (fun _ i=>(n - intOf i).toNat)
 case atStart=>exact ⟨0,by omega,by omega,rfl,rfl⟩
 case round=>
  obtain ⟨k,hk0,hk,rfl,rfl⟩:=hrel
  by_cases hlt : k < n
  ·have hs : twoI (k + 1) = twoI k * 2:=by
    have : k = 0∨k = 1∨k = 2∨k = 3∨k = 4:=by omega
    rcases this with rfl | rfl | rfl | rfl | rfl <;> decide
   have hb : 1 ≤ twoI k∧twoI k ≤ 32:=by unfold twoI; split; omega; split; omega; split; omega; split; omega; split; omega; omega
   obtain ⟨hb1,hb2⟩:=hb
   obtain ⟨t,ht⟩:=exE (twoI k)
   rw [ht] at hs hb1 hb2 ⊢
   replace hs:=Lib.hid hs
   clear ht
   go_wp2
   go_round
   case rel=>exact ⟨k + 1,by omega,by omega,rfl,by rw [hs.out]⟩
   case measure=>simp [intOf]; omega
  ·obtain rfl : k = n:=by omega
   go_wp2
   go_ret
   exact ⟨rfl,rfl⟩
theorem refFull (n : Int) (w : World) (h1 : 1 ≤ n) (h5 : n ≤ 5) : Calls Tryz.prog 178 #[.int .i64 n] w fun e w'=>e = .returned (.int .i64 (fullI n))∧w = w':=by
 have H:=Lib.hid (powerCall n w (by omega) h5)
 have e : fullI n = twoI n - 1:=by rcases powN n h1 h5 with rfl | rfl | rfl | rfl | rfl <;> decide
 have hb : 1 ≤ twoI n∧twoI n ≤ 32:=by rcases powN n h1 h5 with rfl | rfl | rfl | rfl | rfl <;> decide
 obtain ⟨hb1,hb2⟩:=hb
 obtain ⟨t,ht⟩:=exE (twoI n)
 rw [ht] at e hb1 hb2 H
 replace e:=Lib.hid e
 clear ht
 go_enter Tryz.func178,Tryz.ntmps178
 go_wp2_with (go_at_call 179; refine H.out.mono ?_; rintro e w' ⟨rfl,rfl⟩)
 go_ret
 exact ⟨ret_int e.out.symm,rfl⟩
def hasI (x p : Int) : Bool:=x / twoI p % 2 == 1
theorem refHas (x p : Int) (w : World) (h0 : 0 ≤ x) (hx : x ≤ 1000000) (h1 : 0 ≤ p) (h5 : p ≤ 5) : Calls Tryz.prog 127 #[.int .i64 x,.int .i64 p] w fun e w'=>e = .returned (.bool (hasI x p))∧w = w':=by
 have H:=Lib.hid (powerCall p w h1 h5)
 have hb : 1 ≤ twoI p∧twoI p ≤ 32:=by unfold twoI; split; omega; split; omega; split; omega; split; omega; split; omega; omega
 obtain ⟨hb1,hb2⟩:=hb
 have e:=Lib.hid (show hasI x p = (x / twoI p % 2 == 1) from rfl)
 obtain ⟨t,ht⟩:=exE (twoI p)
 rw [ht] at e hb1 hb2 H
 have ht0 : t ≠ 0:=by omega
 have hq1 : 0 ≤ x / t:=Int.ediv_nonneg h0 (by omega)
 have hq2 : x / t ≤ 1000000:=Int.le_trans (Int.ediv_le_self _ h0) hx
 clear ht
 go_enter Tryz.func127,Tryz.ntmps127
 go_wp2_with (go_at_call 179; refine H.out.mono ?_; rintro e w' ⟨rfl,rfl⟩)
 go_ret
 exact ⟨ret_bool e.out.symm,rfl⟩
def procE (n : Int) : Int:=if n < 1∨5 < n then 1 else 0
theorem refProcs (n : Int) (w : World) : Calls Tryz.prog 88 #[.int .i64 n] w fun e w'=>e = .returned (.int .i64 (procE n))∧w = w':=by
 by_cases h1 : n < 1
 ·go_enter Tryz.func88,Tryz.ntmps88
  go_wp2
  go_ret
  exact ⟨ret_int (by rw [procE,if_pos (.inl h1)]),rfl⟩
 ·have h1' : decide (n < 1) = false:=by simpa using h1
  by_cases h5 : 5 < n
  ·go_enter Tryz.func88,Tryz.ntmps88
   go_wp2
   go_ret
   exact ⟨ret_int (by rw [procE,if_pos (.inr h5)]),rfl⟩
  ·have h5' : decide (5 < n) = false:=by simpa using h5
   go_enter Tryz.func88,Tryz.ntmps88
   go_wp2
   go_ret
   exact ⟨ret_int (by rw [procE,if_neg (by omega)]),rfl⟩
theorem procs (n : Int) (w : World) : Calls Tryz.prog 181 #[.int .i64 n] w fun e w'=>e = .returned (.int .i64 (procE n))∧w = w':=by
 by_cases h1 : n < 1
 ·go_enter Tryz.func181,Tryz.ntmps181
  go_wp2
  go_ret
  exact ⟨ret_int (by rw [procE,if_pos (.inl h1)]),rfl⟩
 ·have h1' : decide (n < 1) = false:=by simpa using h1
  by_cases h5 : 5 < n
  ·go_enter Tryz.func181,Tryz.ntmps181
   go_wp2
   go_ret
   exact ⟨ret_int (by rw [procE,if_pos (.inr h5)]),rfl⟩
  ·have h5' : decide (5 < n) = false:=by simpa using h5
   go_enter Tryz.func181,Tryz.ntmps181
   go_wp2
   go_ret
   exact ⟨ret_int (by rw [procE,if_neg (by omega)]),rfl⟩
def hErr (n p x : Int) : Int:=if n ≤ p then (if x = 0 then 0 else 3) else if x < 0∨fullI n < x then 2 else if hasI x p then 0 else 3
def hGo (n : Int) : Int→List Int→Int
 | _,[]=>0
 | p,x::r=>if hErr n p x ≠ 0 then hErr n p x else hGo n (p + 1) r
def chkGr (n : Int) (hs : List Int) : Int:=if n < 1∨5 < n then 2 else hGo n 0 hs
def chkSet (n x : Int) : Int:=if procE n ≠ 0 then 1 else if x < 0∨twoI n ≤ x then 2 else 0
theorem and1_ok : ((List.range 32).all fun x=>(List.range 5).all fun p=>decide (bits .and .i64 ((x : Int) / twoI p) 1 = if hasI x p then 1 else 0)) = true:=by decide +kernel
theorem and1 {x p : Int} (h0 : 0 ≤ x) (h1 : x ≤ 31) (hp0 : 0 ≤ p) (hp : p ≤ 4) : bits .and .i64 (x / twoI p) 1 = if hasI x p then 1 else 0:=by
 have:=List.all_eq_true.1 (List.all_eq_true.1 and1_ok x.toNat (by rw [List.mem_range]; omega)) p.toNat (by rw [List.mem_range]; omega)
 have:=of_decide_eq_true this
 rwa [show ((x.toNat : Nat) : Int) = x by omega,show ((p.toNat : Nat) : Int) = p by omega] at this
end Go.Proofs.YtmikofeildnpdaaGreat

/- Graphs, sets, rounds: Check of the program and of the reference. -/
namespace Go.Proofs.YtmikofeildnpdaaGreat
open Go.RowKit
theorem ix0 (a b c d e : Value) (w : World) : (Instr.index 83 (.agg #[a,b,c,d,e]) (.int .i64 0)).run Tryz.prog w = .ok a w:=by kernel_rfl
theorem ix1 (a b c d e : Value) (w : World) : (Instr.index 83 (.agg #[a,b,c,d,e]) (.int .i64 1)).run Tryz.prog w = .ok b w:=by kernel_rfl
theorem ix2 (a b c d e : Value) (w : World) : (Instr.index 83 (.agg #[a,b,c,d,e]) (.int .i64 2)).run Tryz.prog w = .ok c w:=by kernel_rfl
theorem ix3 (a b c d e : Value) (w : World) : (Instr.index 83 (.agg #[a,b,c,d,e]) (.int .i64 3)).run Tryz.prog w = .ok d w:=by kernel_rfl
theorem ix4 (a b c d e : Value) (w : World) : (Instr.index 83 (.agg #[a,b,c,d,e]) (.int .i64 4)).run Tryz.prog w = .ok e w:=by kernel_rfl
theorem hGo_step {n : Int} {p x : Int} {r : List Int} (h : hErr n p x = 0) : hGo n p (x::r) = hGo n (p + 1) r:=by rw [hGo,if_neg (fun k=>k h)]
theorem hGo_stop {n : Int} {p x : Int} {r : List Int} (h : hErr n p x ≠ 0) : hGo n p (x::r) = hErr n p x:=by rw [hGo,if_pos h]
theorem hErr_1 {n p x : Int} (h : n ≤ p) (hx : x = 0) : hErr n p x = 0:=by rw [hErr,if_pos h,if_pos hx]
theorem hErr_2 {n p x : Int} (h : n ≤ p) (hx : ¬ x = 0) : hErr n p x = 3:=by rw [hErr,if_pos h,if_neg hx]
theorem hErr_3 {n p x : Int} (h : p < n) (hx : x < 0∨fullI n < x) : hErr n p x = 2:=by rw [hErr,if_neg (by omega),if_pos hx]
theorem hErr_4 {n p x : Int} (h : p < n) (hx : 0 ≤ x∧x ≤ fullI n) (hb : hasI x p = false) : hErr n p x = 3:=by rw [hErr,if_neg (by omega),if_neg (by omega),hb]; rfl
theorem hErr_5 {n p x : Int} (h : p < n) (hx : 0 ≤ x∧x ≤ fullI n) (hb : hasI x p = true) : hErr n p x = 0:=by rw [hErr,if_neg (by omega),if_neg (by omega),hb]; rfl
theorem graphCheck (n h0 h1 h2 h3 h4 : Int) (w : World) : Calls Tryz.prog 129 #[.agg #[.int .i64 n,.int .i64 h0,.int .i64 h1,.int .i64 h2,.int .i64 h3,.int .i64 h4]] w fun e w'=>e = .returned (.int .i64 (chkGr n [h0,h1,h2,h3,h4]))∧Below w.heap.size w w':=by
 by_cases hn : n < 1∨5 < n
 ·have hE:=Lib.hid (show chkGr n [h0,h1,h2,h3,h4] = 2 by rw [chkGr,if_pos hn])
  by_cases hn1 : n < 1
  ·go_enter Tryz.func129, Tryz.ntmps129
   go_wp2
   go_ret
   exact ⟨ret_int hE.out.symm,(Below.refl _ _).alloc (Nat.le_refl _) _⟩
  ·have hn1' : decide (n < 1) = false:=by simpa using hn1
   have hn5 : 5 < n:=by omega
   go_enter Tryz.func129, Tryz.ntmps129
   go_wp2
   go_ret
   exact ⟨ret_int hE.out.symm,(Below.refl _ _).alloc (Nat.le_refl _) _⟩
 ·have hn1 : decide (n < 1) = false:=decide_eq_false (by omega)
  have hn5 : decide (5 < n) = false:=decide_eq_false (by omega)
  obtain ⟨E,hE⟩:=exE (chkGr n [h0,h1,h2,h3,h4])
  have hE0:=Lib.hid (show hGo n 0 [h0,h1,h2,h3,h4] = E by rw [← hE,chkGr,if_neg hn])
  rw [hE]
  have g1 : 1 ≤ n:=by omega
  have g5 : n ≤ 5:=by omega
  have hF:=fun W=>fullCall n W g1 g5
  obtain ⟨f1,f31⟩:=fullI_le n
  obtain ⟨F,hFe⟩:=exE (fullI n)
  rw [hFe] at f1 f31
  simp only [hFe] at hF
  replace hF:=Lib.hid hF
  replace hFe:=Lib.hid hFe
  clear hn hE
  go_enter Tryz.func129, Tryz.ntmps129
  go_wp2
  have hb:=(Below.refl w.heap.size w).alloc (Nat.le_refl _) (.cells #[.int .i64 n,.int .i64 h0,.int .i64 h1,.int .i64 h2,.int .i64 h3,.int .i64 h4] 85)
  go_loop [15] (fun iv=>∃ k : Int,iv = .int .i64 k∧((k = 0∧Hid (hGo n 0 [h0,h1,h2,h3,h4] = E))∨(k = 1∧Hid (hGo n 1 [h1,h2,h3,h4] = E))∨(k = 2∧Hid (hGo n 2 [h2,h3,h4] = E))∨(k = 3∧Hid (hGo n 3 [h3,h4] = E))∨(k = 4∧Hid (hGo n 4 [h4] = E))∨(k = 5∧Hid (hGo n 5 [] = E)))) (fun iv=>5 - (intOf iv).toNat)
  case atStart=>exact ⟨0,rfl,.inl ⟨rfl,hE0⟩⟩
  case round=>
   clear hE0
   obtain ⟨k,rfl,hk⟩:=hrel
   rcases hk with ⟨rfl,hg⟩ | ⟨rfl,hg⟩ | ⟨rfl,hg⟩ | ⟨rfl,hg⟩ | ⟨rfl,hg⟩ | ⟨rfl,hg⟩
   ·have hix:=ix0 (.int .i64 h0) (.int .i64 h1) (.int .i64 h2) (.int .i64 h3) (.int .i64 h4)
    by_cases hp0 : n ≤ 0
    ·have hp:=Lib.hid hp0
     have hp1 : decide (n ≤ 0) = true:=decide_eq_true hp0
     clear hp0
     by_cases hx : h0 = 0
     ·have hx' : (h0 != 0) = false:=by simp [hx]
      replace hx:=Lib.hid hx
      go_wp2
      go_round
      case rel=>exact ⟨1,rfl,.inr (.inl ⟨rfl,by show _ = _; rw [← hg.out,hGo_step (hErr_1 hp.out hx.out)]; rfl⟩)⟩
      case measure=>simp [intOf]
     ·have hx' : (h0 != 0) = true:=by simpa using hx
      replace hx:=Lib.hid hx
      go_wp2
      go_ret
      exact ⟨ret_int (by rw [← hg.out,hGo_stop (by rw [hErr_2 hp.out hx.out]; decide),hErr_2 hp.out hx.out]),hb⟩
    ·have hp:=Lib.hid (show 0 < n by omega)
     have hp1 : decide (n ≤ 0) = false:=decide_eq_false hp0
     clear hp0
     by_cases hx0 : h0 < 0
     ·have hx:=Lib.hid (show h0 < 0∨fullI n < h0 from .inl hx0)
      go_wp2
      go_ret
      exact ⟨ret_int (by rw [← hg.out,hGo_stop (by rw [hErr_3 hp.out hx.out]; decide),hErr_3 hp.out hx.out]),hb⟩
     ·have hx0' : decide (h0 < 0) = false:=decide_eq_false hx0
      by_cases hx1 : F < h0
      ·have hx:=Lib.hid (show h0 < 0∨fullI n < h0 from .inr (by rw [hFe.out]; exact hx1))
       go_wp2_with (first | (go_at_call 180; refine (hF.out _).mono ?_; rintro e w1 ⟨rfl,rfl⟩))
       go_ret
       exact ⟨ret_int (by rw [← hg.out,hGo_stop (by rw [hErr_3 hp.out hx.out]; decide),hErr_3 hp.out hx.out]),hb⟩
      ·have hx1' : decide (F < h0) = false:=decide_eq_false hx1
       have hx:=Lib.hid (show 0 ≤ h0∧h0 ≤ fullI n by rw [hFe.out]; omega)
       have ha:=and1 (x:=h0) (p:=0) (by omega) (by omega) (by omega) (by omega)
       by_cases hbit : hasI h0 0 = true
       ·rw [hbit,if_pos rfl] at ha
        rw [show twoI 0 = 1 from rfl,Int.ediv_one] at ha
        replace hbit:=Lib.hid hbit
        go_wp2_with (first | (go_at_call 180; refine (hF.out _).mono ?_; rintro e w1 ⟨rfl,rfl⟩))
        go_round
        case rel=>exact ⟨1,rfl,.inr (.inl ⟨rfl,by show _ = _; rw [← hg.out,hGo_step (hErr_5 hp.out hx.out hbit.out)]; rfl⟩)⟩
        case measure=>simp [intOf]
       ·replace hbit:=eq_false_of_ne_true hbit
        rw [hbit,if_neg (by decide)] at ha
        rw [show twoI 0 = 1 from rfl,Int.ediv_one] at ha
        replace hbit:=Lib.hid hbit
        go_wp2_with (first | (go_at_call 180; refine (hF.out _).mono ?_; rintro e w1 ⟨rfl,rfl⟩))
        go_ret
        exact ⟨ret_int (by rw [← hg.out,hGo_stop (by rw [hErr_4 hp.out hx.out hbit.out]; decide),hErr_4 hp.out hx.out hbit.out]),hb⟩
   ·have hix:=ix1 (.int .i64 h0) (.int .i64 h1) (.int .i64 h2) (.int .i64 h3) (.int .i64 h4)
    by_cases hp0 : n ≤ 1
    ·have hp:=Lib.hid hp0
     have hp1 : decide (n ≤ 1) = true:=decide_eq_true hp0
     clear hp0
     by_cases hx : h1 = 0
     ·have hx' : (h1 != 0) = false:=by simp [hx]
      replace hx:=Lib.hid hx
      go_wp2
      go_round
      case rel=>exact ⟨2,rfl,.inr (.inr (.inl ⟨rfl,by show _ = _; rw [← hg.out,hGo_step (hErr_1 hp.out hx.out)]; rfl⟩))⟩
      case measure=>simp [intOf]
     ·have hx' : (h1 != 0) = true:=by simpa using hx
      replace hx:=Lib.hid hx
      go_wp2
      go_ret
      exact ⟨ret_int (by rw [← hg.out,hGo_stop (by rw [hErr_2 hp.out hx.out]; decide),hErr_2 hp.out hx.out]),hb⟩
    ·have hp:=Lib.hid (show 1 < n by omega)
     have hp1 : decide (n ≤ 1) = false:=decide_eq_false hp0
     clear hp0
     by_cases hx0 : h1 < 0
     ·have hx:=Lib.hid (show h1 < 0∨fullI n < h1 from .inl hx0)
      go_wp2
      go_ret
      exact ⟨ret_int (by rw [← hg.out,hGo_stop (by rw [hErr_3 hp.out hx.out]; decide),hErr_3 hp.out hx.out]),hb⟩
     ·have hx0' : decide (h1 < 0) = false:=decide_eq_false hx0
      by_cases hx1 : F < h1
      ·have hx:=Lib.hid (show h1 < 0∨fullI n < h1 from .inr (by rw [hFe.out]; exact hx1))
       go_wp2_with (first | (go_at_call 180; refine (hF.out _).mono ?_; rintro e w1 ⟨rfl,rfl⟩))
       go_ret
       exact ⟨ret_int (by rw [← hg.out,hGo_stop (by rw [hErr_3 hp.out hx.out]; decide),hErr_3 hp.out hx.out]),hb⟩
      ·have hx1' : decide (F < h1) = false:=decide_eq_false hx1
       have hx:=Lib.hid (show 0 ≤ h1∧h1 ≤ fullI n by rw [hFe.out]; omega)
       have ha:=and1 (x:=h1) (p:=1) (by omega) (by omega) (by omega) (by omega)
       by_cases hbit : hasI h1 1 = true
       ·rw [hbit,if_pos rfl] at ha
        rw [show twoI 1 = 2 from rfl] at ha
        replace hbit:=Lib.hid hbit
        go_wp2_with (first | (go_at_call 180; refine (hF.out _).mono ?_; rintro e w1 ⟨rfl,rfl⟩))
        go_round
        case rel=>exact ⟨2,rfl,.inr (.inr (.inl ⟨rfl,by show _ = _; rw [← hg.out,hGo_step (hErr_5 hp.out hx.out hbit.out)]; rfl⟩))⟩
        case measure=>simp [intOf]
       ·replace hbit:=eq_false_of_ne_true hbit
        rw [hbit,if_neg (by decide)] at ha
        rw [show twoI 1 = 2 from rfl] at ha
        replace hbit:=Lib.hid hbit
        go_wp2_with (first | (go_at_call 180; refine (hF.out _).mono ?_; rintro e w1 ⟨rfl,rfl⟩))
        go_ret
        exact ⟨ret_int (by rw [← hg.out,hGo_stop (by rw [hErr_4 hp.out hx.out hbit.out]; decide),hErr_4 hp.out hx.out hbit.out]),hb⟩
   ·have hix:=ix2 (.int .i64 h0) (.int .i64 h1) (.int .i64 h2) (.int .i64 h3) (.int .i64 h4)
    by_cases hp0 : n ≤ 2
    ·have hp:=Lib.hid hp0
     have hp1 : decide (n ≤ 2) = true:=decide_eq_true hp0
     clear hp0
     by_cases hx : h2 = 0
     ·have hx' : (h2 != 0) = false:=by simp [hx]
      replace hx:=Lib.hid hx
      go_wp2
      go_round
      case rel=>exact ⟨3,rfl,.inr (.inr (.inr (.inl ⟨rfl,by show _ = _; rw [← hg.out,hGo_step (hErr_1 hp.out hx.out)]; rfl⟩)))⟩
      case measure=>simp [intOf]
     ·have hx' : (h2 != 0) = true:=by simpa using hx
      replace hx:=Lib.hid hx
      go_wp2
      go_ret
      exact ⟨ret_int (by rw [← hg.out,hGo_stop (by rw [hErr_2 hp.out hx.out]; decide),hErr_2 hp.out hx.out]),hb⟩
    ·have hp:=Lib.hid (show 2 < n by omega)
     have hp1 : decide (n ≤ 2) = false:=decide_eq_false hp0
     clear hp0
     by_cases hx0 : h2 < 0
     ·have hx:=Lib.hid (show h2 < 0∨fullI n < h2 from .inl hx0)
      go_wp2
      go_ret
      exact ⟨ret_int (by rw [← hg.out,hGo_stop (by rw [hErr_3 hp.out hx.out]; decide),hErr_3 hp.out hx.out]),hb⟩
     ·have hx0' : decide (h2 < 0) = false:=decide_eq_false hx0
      by_cases hx1 : F < h2
      ·have hx:=Lib.hid (show h2 < 0∨fullI n < h2 from .inr (by rw [hFe.out]; exact hx1))
       go_wp2_with (first | (go_at_call 180; refine (hF.out _).mono ?_; rintro e w1 ⟨rfl,rfl⟩))
       go_ret
       exact ⟨ret_int (by rw [← hg.out,hGo_stop (by rw [hErr_3 hp.out hx.out]; decide),hErr_3 hp.out hx.out]),hb⟩
      ·have hx1' : decide (F < h2) = false:=decide_eq_false hx1
       have hx:=Lib.hid (show 0 ≤ h2∧h2 ≤ fullI n by rw [hFe.out]; omega)
       have ha:=and1 (x:=h2) (p:=2) (by omega) (by omega) (by omega) (by omega)
       by_cases hbit : hasI h2 2 = true
       ·rw [hbit,if_pos rfl] at ha
        rw [show twoI 2 = 4 from rfl] at ha
        replace hbit:=Lib.hid hbit
        go_wp2_with (first | (go_at_call 180; refine (hF.out _).mono ?_; rintro e w1 ⟨rfl,rfl⟩))
        go_round
        case rel=>exact ⟨3,rfl,.inr (.inr (.inr (.inl ⟨rfl,by show _ = _; rw [← hg.out,hGo_step (hErr_5 hp.out hx.out hbit.out)]; rfl⟩)))⟩
        case measure=>simp [intOf]
       ·replace hbit:=eq_false_of_ne_true hbit
        rw [hbit,if_neg (by decide)] at ha
        rw [show twoI 2 = 4 from rfl] at ha
        replace hbit:=Lib.hid hbit
        go_wp2_with (first | (go_at_call 180; refine (hF.out _).mono ?_; rintro e w1 ⟨rfl,rfl⟩))
        go_ret
        exact ⟨ret_int (by rw [← hg.out,hGo_stop (by rw [hErr_4 hp.out hx.out hbit.out]; decide),hErr_4 hp.out hx.out hbit.out]),hb⟩
   ·have hix:=ix3 (.int .i64 h0) (.int .i64 h1) (.int .i64 h2) (.int .i64 h3) (.int .i64 h4)
    by_cases hp0 : n ≤ 3
    ·have hp:=Lib.hid hp0
     have hp1 : decide (n ≤ 3) = true:=decide_eq_true hp0
     clear hp0
     by_cases hx : h3 = 0
     ·have hx' : (h3 != 0) = false:=by simp [hx]
      replace hx:=Lib.hid hx
      go_wp2
      go_round
      case rel=>exact ⟨4,rfl,.inr (.inr (.inr (.inr (.inl ⟨rfl,by show _ = _; rw [← hg.out,hGo_step (hErr_1 hp.out hx.out)]; rfl⟩))))⟩
      case measure=>simp [intOf]
     ·have hx' : (h3 != 0) = true:=by simpa using hx
      replace hx:=Lib.hid hx
      go_wp2
      go_ret
      exact ⟨ret_int (by rw [← hg.out,hGo_stop (by rw [hErr_2 hp.out hx.out]; decide),hErr_2 hp.out hx.out]),hb⟩
    ·have hp:=Lib.hid (show 3 < n by omega)
     have hp1 : decide (n ≤ 3) = false:=decide_eq_false hp0
     clear hp0
     by_cases hx0 : h3 < 0
     ·have hx:=Lib.hid (show h3 < 0∨fullI n < h3 from .inl hx0)
      go_wp2
      go_ret
      exact ⟨ret_int (by rw [← hg.out,hGo_stop (by rw [hErr_3 hp.out hx.out]; decide),hErr_3 hp.out hx.out]),hb⟩
     ·have hx0' : decide (h3 < 0) = false:=decide_eq_false hx0
      by_cases hx1 : F < h3
      ·have hx:=Lib.hid (show h3 < 0∨fullI n < h3 from .inr (by rw [hFe.out]; exact hx1))
       go_wp2_with (first | (go_at_call 180; refine (hF.out _).mono ?_; rintro e w1 ⟨rfl,rfl⟩))
       go_ret
       exact ⟨ret_int (by rw [← hg.out,hGo_stop (by rw [hErr_3 hp.out hx.out]; decide),hErr_3 hp.out hx.out]),hb⟩
      ·have hx1' : decide (F < h3) = false:=decide_eq_false hx1
       have hx:=Lib.hid (show 0 ≤ h3∧h3 ≤ fullI n by rw [hFe.out]; omega)
       have ha:=and1 (x:=h3) (p:=3) (by omega) (by omega) (by omega) (by omega)
       by_cases hbit : hasI h3 3 = true
       ·rw [hbit,if_pos rfl] at ha
        rw [show twoI 3 = 8 from rfl] at ha
        replace hbit:=Lib.hid hbit
        go_wp2_with (first | (go_at_call 180; refine (hF.out _).mono ?_; rintro e w1 ⟨rfl,rfl⟩))
        go_round
        case rel=>exact ⟨4,rfl,.inr (.inr (.inr (.inr (.inl ⟨rfl,by show _ = _; rw [← hg.out,hGo_step (hErr_5 hp.out hx.out hbit.out)]; rfl⟩))))⟩
        case measure=>simp [intOf]
       ·replace hbit:=eq_false_of_ne_true hbit
        rw [hbit,if_neg (by decide)] at ha
        rw [show twoI 3 = 8 from rfl] at ha
        replace hbit:=Lib.hid hbit
        go_wp2_with (first | (go_at_call 180; refine (hF.out _).mono ?_; rintro e w1 ⟨rfl,rfl⟩))
        go_ret
        exact ⟨ret_int (by rw [← hg.out,hGo_stop (by rw [hErr_4 hp.out hx.out hbit.out]; decide),hErr_4 hp.out hx.out hbit.out]),hb⟩
   ·have hix:=ix4 (.int .i64 h0) (.int .i64 h1) (.int .i64 h2) (.int .i64 h3) (.int .i64 h4)
    by_cases hp0 : n ≤ 4
    ·have hp:=Lib.hid hp0
     have hp1 : decide (n ≤ 4) = true:=decide_eq_true hp0
     clear hp0
     by_cases hx : h4 = 0
     ·have hx' : (h4 != 0) = false:=by simp [hx]
      replace hx:=Lib.hid hx
      go_wp2
      go_round
      case rel=>exact ⟨5,rfl,.inr (.inr (.inr (.inr (.inr (⟨rfl,by show _ = _; rw [← hg.out,hGo_step (hErr_1 hp.out hx.out)]; rfl⟩)))))⟩
      case measure=>simp [intOf]
     ·have hx' : (h4 != 0) = true:=by simpa using hx
      replace hx:=Lib.hid hx
      go_wp2
      go_ret
      exact ⟨ret_int (by rw [← hg.out,hGo_stop (by rw [hErr_2 hp.out hx.out]; decide),hErr_2 hp.out hx.out]),hb⟩
    ·have hp:=Lib.hid (show 4 < n by omega)
     have hp1 : decide (n ≤ 4) = false:=decide_eq_false hp0
     clear hp0
     by_cases hx0 : h4 < 0
     ·have hx:=Lib.hid (show h4 < 0∨fullI n < h4 from .inl hx0)
      go_wp2
      go_ret
      exact ⟨ret_int (by rw [← hg.out,hGo_stop (by rw [hErr_3 hp.out hx.out]; decide),hErr_3 hp.out hx.out]),hb⟩
     ·have hx0' : decide (h4 < 0) = false:=decide_eq_false hx0
      by_cases hx1 : F < h4
      ·have hx:=Lib.hid (show h4 < 0∨fullI n < h4 from .inr (by rw [hFe.out]; exact hx1))
       go_wp2_with (first | (go_at_call 180; refine (hF.out _).mono ?_; rintro e w1 ⟨rfl,rfl⟩))
       go_ret
       exact ⟨ret_int (by rw [← hg.out,hGo_stop (by rw [hErr_3 hp.out hx.out]; decide),hErr_3 hp.out hx.out]),hb⟩
      ·have hx1' : decide (F < h4) = false:=decide_eq_false hx1
       have hx:=Lib.hid (show 0 ≤ h4∧h4 ≤ fullI n by rw [hFe.out]; omega)
       have ha:=and1 (x:=h4) (p:=4) (by omega) (by omega) (by omega) (by omega)
       by_cases hbit : hasI h4 4 = true
       ·rw [hbit,if_pos rfl] at ha
        rw [show twoI 4 = 16 from rfl] at ha
        replace hbit:=Lib.hid hbit
        go_wp2_with (first | (go_at_call 180; refine (hF.out _).mono ?_; rintro e w1 ⟨rfl,rfl⟩))
        go_round
        case rel=>exact ⟨5,rfl,.inr (.inr (.inr (.inr (.inr (⟨rfl,by show _ = _; rw [← hg.out,hGo_step (hErr_5 hp.out hx.out hbit.out)]; rfl⟩)))))⟩
        case measure=>simp [intOf]
       ·replace hbit:=eq_false_of_ne_true hbit
        rw [hbit,if_neg (by decide)] at ha
        rw [show twoI 4 = 16 from rfl] at ha
        replace hbit:=Lib.hid hbit
        go_wp2_with (first | (go_at_call 180; refine (hF.out _).mono ?_; rintro e w1 ⟨rfl,rfl⟩))
        go_ret
        exact ⟨ret_int (by rw [← hg.out,hGo_stop (by rw [hErr_4 hp.out hx.out hbit.out]; decide),hErr_4 hp.out hx.out hbit.out]),hb⟩
   ·go_wp2
    go_ret
    exact ⟨ret_int (by rw [← hg.out]; rfl),hb⟩
theorem refGraphCheck (n h0 h1 h2 h3 h4 : Int) (w : World) : Calls Tryz.prog 125 #[.agg #[.int .i64 n,.int .i64 h0,.int .i64 h1,.int .i64 h2,.int .i64 h3,.int .i64 h4]] w fun e w'=>e = .returned (.int .i64 (chkGr n [h0,h1,h2,h3,h4]))∧Below w.heap.size w w':=by
 by_cases hn : n < 1∨5 < n
 ·have hE:=Lib.hid (show chkGr n [h0,h1,h2,h3,h4] = 2 by rw [chkGr,if_pos hn])
  by_cases hn1 : n < 1
  ·go_enter Tryz.func125, Tryz.ntmps125
   go_wp2
   go_ret
   exact ⟨ret_int hE.out.symm,(Below.refl _ _).alloc (Nat.le_refl _) _⟩
  ·have hn1' : decide (n < 1) = false:=by simpa using hn1
   have hn5 : 5 < n:=by omega
   go_enter Tryz.func125, Tryz.ntmps125
   go_wp2
   go_ret
   exact ⟨ret_int hE.out.symm,(Below.refl _ _).alloc (Nat.le_refl _) _⟩
 ·have hn1 : decide (n < 1) = false:=decide_eq_false (by omega)
  have hn5 : decide (5 < n) = false:=decide_eq_false (by omega)
  obtain ⟨E,hE⟩:=exE (chkGr n [h0,h1,h2,h3,h4])
  have hE0:=Lib.hid (show hGo n 0 [h0,h1,h2,h3,h4] = E by rw [← hE,chkGr,if_neg hn])
  rw [hE]
  have g1 : 1 ≤ n:=by omega
  have g5 : n ≤ 5:=by omega
  have hF:=fun W=>refFull n W g1 g5
  obtain ⟨f1,f31⟩:=fullI_le n
  obtain ⟨F,hFe⟩:=exE (fullI n)
  rw [hFe] at f1 f31
  simp only [hFe] at hF
  replace hF:=Lib.hid hF
  replace hFe:=Lib.hid hFe
  clear hn hE
  go_enter Tryz.func125, Tryz.ntmps125
  go_wp2
  have hb:=(Below.refl w.heap.size w).alloc (Nat.le_refl _) (.cells #[.int .i64 n,.int .i64 h0,.int .i64 h1,.int .i64 h2,.int .i64 h3,.int .i64 h4] 85)
  go_loop [3] (fun iv=>∃ k : Int,iv = .int .i64 k∧((k = 0∧Hid (hGo n 0 [h0,h1,h2,h3,h4] = E))∨(k = 1∧Hid (hGo n 1 [h1,h2,h3,h4] = E))∨(k = 2∧Hid (hGo n 2 [h2,h3,h4] = E))∨(k = 3∧Hid (hGo n 3 [h3,h4] = E))∨(k = 4∧Hid (hGo n 4 [h4] = E))∨(k = 5∧Hid (hGo n 5 [] = E)))) (fun iv=>5 - (intOf iv).toNat)
  case atStart=>exact ⟨0,rfl,.inl ⟨rfl,hE0⟩⟩
  case round=>
   clear hE0
   obtain ⟨k,rfl,hk⟩:=hrel
   rcases hk with ⟨rfl,hg⟩ | ⟨rfl,hg⟩ | ⟨rfl,hg⟩ | ⟨rfl,hg⟩ | ⟨rfl,hg⟩ | ⟨rfl,hg⟩
   ·have hix:=ix0 (.int .i64 h0) (.int .i64 h1) (.int .i64 h2) (.int .i64 h3) (.int .i64 h4)
    by_cases hp0 : n ≤ 0
    ·have hp:=Lib.hid hp0
     have hp1 : decide (n ≤ 0) = true:=decide_eq_true hp0
     clear hp0
     by_cases hx : h0 = 0
     ·have hx' : (h0 != 0) = false:=by simp [hx]
      replace hx:=Lib.hid hx
      go_wp2
      go_round
      case rel=>exact ⟨1,rfl,.inr (.inl ⟨rfl,by show _ = _; rw [← hg.out,hGo_step (hErr_1 hp.out hx.out)]; rfl⟩)⟩
      case measure=>simp [intOf]
     ·have hx' : (h0 != 0) = true:=by simpa using hx
      replace hx:=Lib.hid hx
      go_wp2
      go_ret
      exact ⟨ret_int (by rw [← hg.out,hGo_stop (by rw [hErr_2 hp.out hx.out]; decide),hErr_2 hp.out hx.out]),hb⟩
    ·have hp:=Lib.hid (show 0 < n by omega)
     have hp1 : decide (n ≤ 0) = false:=decide_eq_false hp0
     clear hp0
     by_cases hx0 : h0 < 0
     ·have hx:=Lib.hid (show h0 < 0∨fullI n < h0 from .inl hx0)
      go_wp2
      go_ret
      exact ⟨ret_int (by rw [← hg.out,hGo_stop (by rw [hErr_3 hp.out hx.out]; decide),hErr_3 hp.out hx.out]),hb⟩
     ·have hx0' : decide (h0 < 0) = false:=decide_eq_false hx0
      by_cases hx1 : F < h0
      ·have hx:=Lib.hid (show h0 < 0∨fullI n < h0 from .inr (by rw [hFe.out]; exact hx1))
       go_wp2_with (first | (go_at_call 178; refine (hF.out _).mono ?_; rintro e w1 ⟨rfl,rfl⟩) | (go_at_call 127; refine (refHas _ _ _ (by omega) (by omega) (by omega) (by omega)).mono ?_; rintro e w2 ⟨rfl,rfl⟩; rw [hbit]))
       go_ret
       exact ⟨ret_int (by rw [← hg.out,hGo_stop (by rw [hErr_3 hp.out hx.out]; decide),hErr_3 hp.out hx.out]),hb⟩
      ·have hx1' : decide (F < h0) = false:=decide_eq_false hx1
       have hx:=Lib.hid (show 0 ≤ h0∧h0 ≤ fullI n by rw [hFe.out]; omega)
       have ha:=and1 (x:=h0) (p:=0) (by omega) (by omega) (by omega) (by omega)
       by_cases hbit : hasI h0 0 = true
       ·clear ha
        go_wp2_with (first | (go_at_call 178; refine (hF.out _).mono ?_; rintro e w1 ⟨rfl,rfl⟩) | (go_at_call 127; refine (refHas _ _ _ (by omega) (by omega) (by omega) (by omega)).mono ?_; rintro e w2 ⟨rfl,rfl⟩; rw [hbit]))
        go_round
        case rel=>exact ⟨1,rfl,.inr (.inl ⟨rfl,by show _ = _; rw [← hg.out,hGo_step (hErr_5 hp.out hx.out hbit)]; rfl⟩)⟩
        case measure=>simp [intOf]
       ·replace hbit:=eq_false_of_ne_true hbit
        clear ha
        go_wp2_with (first | (go_at_call 178; refine (hF.out _).mono ?_; rintro e w1 ⟨rfl,rfl⟩) | (go_at_call 127; refine (refHas _ _ _ (by omega) (by omega) (by omega) (by omega)).mono ?_; rintro e w2 ⟨rfl,rfl⟩; rw [hbit]))
        go_ret
        exact ⟨ret_int (by rw [← hg.out,hGo_stop (by rw [hErr_4 hp.out hx.out hbit]; decide),hErr_4 hp.out hx.out hbit]),hb⟩
   ·have hix:=ix1 (.int .i64 h0) (.int .i64 h1) (.int .i64 h2) (.int .i64 h3) (.int .i64 h4)
    by_cases hp0 : n ≤ 1
    ·have hp:=Lib.hid hp0
     have hp1 : decide (n ≤ 1) = true:=decide_eq_true hp0
     clear hp0
     by_cases hx : h1 = 0
     ·have hx' : (h1 != 0) = false:=by simp [hx]
      replace hx:=Lib.hid hx
      go_wp2
      go_round
      case rel=>exact ⟨2,rfl,.inr (.inr (.inl ⟨rfl,by show _ = _; rw [← hg.out,hGo_step (hErr_1 hp.out hx.out)]; rfl⟩))⟩
      case measure=>simp [intOf]
     ·have hx' : (h1 != 0) = true:=by simpa using hx
      replace hx:=Lib.hid hx
      go_wp2
      go_ret
      exact ⟨ret_int (by rw [← hg.out,hGo_stop (by rw [hErr_2 hp.out hx.out]; decide),hErr_2 hp.out hx.out]),hb⟩
    ·have hp:=Lib.hid (show 1 < n by omega)
     have hp1 : decide (n ≤ 1) = false:=decide_eq_false hp0
     clear hp0
     by_cases hx0 : h1 < 0
     ·have hx:=Lib.hid (show h1 < 0∨fullI n < h1 from .inl hx0)
      go_wp2
      go_ret
      exact ⟨ret_int (by rw [← hg.out,hGo_stop (by rw [hErr_3 hp.out hx.out]; decide),hErr_3 hp.out hx.out]),hb⟩
     ·have hx0' : decide (h1 < 0) = false:=decide_eq_false hx0
      by_cases hx1 : F < h1
      ·have hx:=Lib.hid (show h1 < 0∨fullI n < h1 from .inr (by rw [hFe.out]; exact hx1))
       go_wp2_with (first | (go_at_call 178; refine (hF.out _).mono ?_; rintro e w1 ⟨rfl,rfl⟩) | (go_at_call 127; refine (refHas _ _ _ (by omega) (by omega) (by omega) (by omega)).mono ?_; rintro e w2 ⟨rfl,rfl⟩; rw [hbit]))
       go_ret
       exact ⟨ret_int (by rw [← hg.out,hGo_stop (by rw [hErr_3 hp.out hx.out]; decide),hErr_3 hp.out hx.out]),hb⟩
      ·have hx1' : decide (F < h1) = false:=decide_eq_false hx1
       have hx:=Lib.hid (show 0 ≤ h1∧h1 ≤ fullI n by rw [hFe.out]; omega)
       have ha:=and1 (x:=h1) (p:=1) (by omega) (by omega) (by omega) (by omega)
       by_cases hbit : hasI h1 1 = true
       ·clear ha
        go_wp2_with (first | (go_at_call 178; refine (hF.out _).mono ?_; rintro e w1 ⟨rfl,rfl⟩) | (go_at_call 127; refine (refHas _ _ _ (by omega) (by omega) (by omega) (by omega)).mono ?_; rintro e w2 ⟨rfl,rfl⟩; rw [hbit]))
        go_round
        case rel=>exact ⟨2,rfl,.inr (.inr (.inl ⟨rfl,by show _ = _; rw [← hg.out,hGo_step (hErr_5 hp.out hx.out hbit)]; rfl⟩))⟩
        case measure=>simp [intOf]
       ·replace hbit:=eq_false_of_ne_true hbit
        clear ha
        go_wp2_with (first | (go_at_call 178; refine (hF.out _).mono ?_; rintro e w1 ⟨rfl,rfl⟩) | (go_at_call 127; refine (refHas _ _ _ (by omega) (by omega) (by omega) (by omega)).mono ?_; rintro e w2 ⟨rfl,rfl⟩; rw [hbit]))
        go_ret
        exact ⟨ret_int (by rw [← hg.out,hGo_stop (by rw [hErr_4 hp.out hx.out hbit]; decide),hErr_4 hp.out hx.out hbit]),hb⟩
   ·have hix:=ix2 (.int .i64 h0) (.int .i64 h1) (.int .i64 h2) (.int .i64 h3) (.int .i64 h4)
    by_cases hp0 : n ≤ 2
    ·have hp:=Lib.hid hp0
     have hp1 : decide (n ≤ 2) = true:=decide_eq_true hp0
     clear hp0
     by_cases hx : h2 = 0
     ·have hx' : (h2 != 0) = false:=by simp [hx]
      replace hx:=Lib.hid hx
      go_wp2
      go_round
      case rel=>exact ⟨3,rfl,.inr (.inr (.inr (.inl ⟨rfl,by show _ = _; rw [← hg.out,hGo_step (hErr_1 hp.out hx.out)]; rfl⟩)))⟩
      case measure=>simp [intOf]
     ·have hx' : (h2 != 0) = true:=by simpa using hx
      replace hx:=Lib.hid hx
      go_wp2
      go_ret
      exact ⟨ret_int (by rw [← hg.out,hGo_stop (by rw [hErr_2 hp.out hx.out]; decide),hErr_2 hp.out hx.out]),hb⟩
    ·have hp:=Lib.hid (show 2 < n by omega)
     have hp1 : decide (n ≤ 2) = false:=decide_eq_false hp0
     clear hp0
     by_cases hx0 : h2 < 0
     ·have hx:=Lib.hid (show h2 < 0∨fullI n < h2 from .inl hx0)
      go_wp2
      go_ret
      exact ⟨ret_int (by rw [← hg.out,hGo_stop (by rw [hErr_3 hp.out hx.out]; decide),hErr_3 hp.out hx.out]),hb⟩
     ·have hx0' : decide (h2 < 0) = false:=decide_eq_false hx0
      by_cases hx1 : F < h2
      ·have hx:=Lib.hid (show h2 < 0∨fullI n < h2 from .inr (by rw [hFe.out]; exact hx1))
       go_wp2_with (first | (go_at_call 178; refine (hF.out _).mono ?_; rintro e w1 ⟨rfl,rfl⟩) | (go_at_call 127; refine (refHas _ _ _ (by omega) (by omega) (by omega) (by omega)).mono ?_; rintro e w2 ⟨rfl,rfl⟩; rw [hbit]))
       go_ret
       exact ⟨ret_int (by rw [← hg.out,hGo_stop (by rw [hErr_3 hp.out hx.out]; decide),hErr_3 hp.out hx.out]),hb⟩
      ·have hx1' : decide (F < h2) = false:=decide_eq_false hx1
       have hx:=Lib.hid (show 0 ≤ h2∧h2 ≤ fullI n by rw [hFe.out]; omega)
       have ha:=and1 (x:=h2) (p:=2) (by omega) (by omega) (by omega) (by omega)
       by_cases hbit : hasI h2 2 = true
       ·clear ha
        go_wp2_with (first | (go_at_call 178; refine (hF.out _).mono ?_; rintro e w1 ⟨rfl,rfl⟩) | (go_at_call 127; refine (refHas _ _ _ (by omega) (by omega) (by omega) (by omega)).mono ?_; rintro e w2 ⟨rfl,rfl⟩; rw [hbit]))
        go_round
        case rel=>exact ⟨3,rfl,.inr (.inr (.inr (.inl ⟨rfl,by show _ = _; rw [← hg.out,hGo_step (hErr_5 hp.out hx.out hbit)]; rfl⟩)))⟩
        case measure=>simp [intOf]
       ·replace hbit:=eq_false_of_ne_true hbit
        clear ha
        go_wp2_with (first | (go_at_call 178; refine (hF.out _).mono ?_; rintro e w1 ⟨rfl,rfl⟩) | (go_at_call 127; refine (refHas _ _ _ (by omega) (by omega) (by omega) (by omega)).mono ?_; rintro e w2 ⟨rfl,rfl⟩; rw [hbit]))
        go_ret
        exact ⟨ret_int (by rw [← hg.out,hGo_stop (by rw [hErr_4 hp.out hx.out hbit]; decide),hErr_4 hp.out hx.out hbit]),hb⟩
   ·have hix:=ix3 (.int .i64 h0) (.int .i64 h1) (.int .i64 h2) (.int .i64 h3) (.int .i64 h4)
    by_cases hp0 : n ≤ 3
    ·have hp:=Lib.hid hp0
     have hp1 : decide (n ≤ 3) = true:=decide_eq_true hp0
     clear hp0
     by_cases hx : h3 = 0
     ·have hx' : (h3 != 0) = false:=by simp [hx]
      replace hx:=Lib.hid hx
      go_wp2
      go_round
      case rel=>exact ⟨4,rfl,.inr (.inr (.inr (.inr (.inl ⟨rfl,by show _ = _; rw [← hg.out,hGo_step (hErr_1 hp.out hx.out)]; rfl⟩))))⟩
      case measure=>simp [intOf]
     ·have hx' : (h3 != 0) = true:=by simpa using hx
      replace hx:=Lib.hid hx
      go_wp2
      go_ret
      exact ⟨ret_int (by rw [← hg.out,hGo_stop (by rw [hErr_2 hp.out hx.out]; decide),hErr_2 hp.out hx.out]),hb⟩
    ·have hp:=Lib.hid (show 3 < n by omega)
     have hp1 : decide (n ≤ 3) = false:=decide_eq_false hp0
     clear hp0
     by_cases hx0 : h3 < 0
     ·have hx:=Lib.hid (show h3 < 0∨fullI n < h3 from .inl hx0)
      go_wp2
      go_ret
      exact ⟨ret_int (by rw [← hg.out,hGo_stop (by rw [hErr_3 hp.out hx.out]; decide),hErr_3 hp.out hx.out]),hb⟩
     ·have hx0' : decide (h3 < 0) = false:=decide_eq_false hx0
      by_cases hx1 : F < h3
      ·have hx:=Lib.hid (show h3 < 0∨fullI n < h3 from .inr (by rw [hFe.out]; exact hx1))
       go_wp2_with (first | (go_at_call 178; refine (hF.out _).mono ?_; rintro e w1 ⟨rfl,rfl⟩) | (go_at_call 127; refine (refHas _ _ _ (by omega) (by omega) (by omega) (by omega)).mono ?_; rintro e w2 ⟨rfl,rfl⟩; rw [hbit]))
       go_ret
       exact ⟨ret_int (by rw [← hg.out,hGo_stop (by rw [hErr_3 hp.out hx.out]; decide),hErr_3 hp.out hx.out]),hb⟩
      ·have hx1' : decide (F < h3) = false:=decide_eq_false hx1
       have hx:=Lib.hid (show 0 ≤ h3∧h3 ≤ fullI n by rw [hFe.out]; omega)
       have ha:=and1 (x:=h3) (p:=3) (by omega) (by omega) (by omega) (by omega)
       by_cases hbit : hasI h3 3 = true
       ·clear ha
        go_wp2_with (first | (go_at_call 178; refine (hF.out _).mono ?_; rintro e w1 ⟨rfl,rfl⟩) | (go_at_call 127; refine (refHas _ _ _ (by omega) (by omega) (by omega) (by omega)).mono ?_; rintro e w2 ⟨rfl,rfl⟩; rw [hbit]))
        go_round
        case rel=>exact ⟨4,rfl,.inr (.inr (.inr (.inr (.inl ⟨rfl,by show _ = _; rw [← hg.out,hGo_step (hErr_5 hp.out hx.out hbit)]; rfl⟩))))⟩
        case measure=>simp [intOf]
       ·replace hbit:=eq_false_of_ne_true hbit
        clear ha
        go_wp2_with (first | (go_at_call 178; refine (hF.out _).mono ?_; rintro e w1 ⟨rfl,rfl⟩) | (go_at_call 127; refine (refHas _ _ _ (by omega) (by omega) (by omega) (by omega)).mono ?_; rintro e w2 ⟨rfl,rfl⟩; rw [hbit]))
        go_ret
        exact ⟨ret_int (by rw [← hg.out,hGo_stop (by rw [hErr_4 hp.out hx.out hbit]; decide),hErr_4 hp.out hx.out hbit]),hb⟩
   ·have hix:=ix4 (.int .i64 h0) (.int .i64 h1) (.int .i64 h2) (.int .i64 h3) (.int .i64 h4)
    by_cases hp0 : n ≤ 4
    ·have hp:=Lib.hid hp0
     have hp1 : decide (n ≤ 4) = true:=decide_eq_true hp0
     clear hp0
     by_cases hx : h4 = 0
     ·have hx' : (h4 != 0) = false:=by simp [hx]
      replace hx:=Lib.hid hx
      go_wp2
      go_round
      case rel=>exact ⟨5,rfl,.inr (.inr (.inr (.inr (.inr (⟨rfl,by show _ = _; rw [← hg.out,hGo_step (hErr_1 hp.out hx.out)]; rfl⟩)))))⟩
      case measure=>simp [intOf]
     ·have hx' : (h4 != 0) = true:=by simpa using hx
      replace hx:=Lib.hid hx
      go_wp2
      go_ret
      exact ⟨ret_int (by rw [← hg.out,hGo_stop (by rw [hErr_2 hp.out hx.out]; decide),hErr_2 hp.out hx.out]),hb⟩
    ·have hp:=Lib.hid (show 4 < n by omega)
     have hp1 : decide (n ≤ 4) = false:=decide_eq_false hp0
     clear hp0
     by_cases hx0 : h4 < 0
     ·have hx:=Lib.hid (show h4 < 0∨fullI n < h4 from .inl hx0)
      go_wp2
      go_ret
      exact ⟨ret_int (by rw [← hg.out,hGo_stop (by rw [hErr_3 hp.out hx.out]; decide),hErr_3 hp.out hx.out]),hb⟩
     ·have hx0' : decide (h4 < 0) = false:=decide_eq_false hx0
      by_cases hx1 : F < h4
      ·have hx:=Lib.hid (show h4 < 0∨fullI n < h4 from .inr (by rw [hFe.out]; exact hx1))
       go_wp2_with (first | (go_at_call 178; refine (hF.out _).mono ?_; rintro e w1 ⟨rfl,rfl⟩) | (go_at_call 127; refine (refHas _ _ _ (by omega) (by omega) (by omega) (by omega)).mono ?_; rintro e w2 ⟨rfl,rfl⟩; rw [hbit]))
       go_ret
       exact ⟨ret_int (by rw [← hg.out,hGo_stop (by rw [hErr_3 hp.out hx.out]; decide),hErr_3 hp.out hx.out]),hb⟩
      ·have hx1' : decide (F < h4) = false:=decide_eq_false hx1
       have hx:=Lib.hid (show 0 ≤ h4∧h4 ≤ fullI n by rw [hFe.out]; omega)
       have ha:=and1 (x:=h4) (p:=4) (by omega) (by omega) (by omega) (by omega)
       by_cases hbit : hasI h4 4 = true
       ·clear ha
        go_wp2_with (first | (go_at_call 178; refine (hF.out _).mono ?_; rintro e w1 ⟨rfl,rfl⟩) | (go_at_call 127; refine (refHas _ _ _ (by omega) (by omega) (by omega) (by omega)).mono ?_; rintro e w2 ⟨rfl,rfl⟩; rw [hbit]))
        go_round
        case rel=>exact ⟨5,rfl,.inr (.inr (.inr (.inr (.inr (⟨rfl,by show _ = _; rw [← hg.out,hGo_step (hErr_5 hp.out hx.out hbit)]; rfl⟩)))))⟩
        case measure=>simp [intOf]
       ·replace hbit:=eq_false_of_ne_true hbit
        clear ha
        go_wp2_with (first | (go_at_call 178; refine (hF.out _).mono ?_; rintro e w1 ⟨rfl,rfl⟩) | (go_at_call 127; refine (refHas _ _ _ (by omega) (by omega) (by omega) (by omega)).mono ?_; rintro e w2 ⟨rfl,rfl⟩; rw [hbit]))
        go_ret
        exact ⟨ret_int (by rw [← hg.out,hGo_stop (by rw [hErr_4 hp.out hx.out hbit]; decide),hErr_4 hp.out hx.out hbit]),hb⟩
   ·go_wp2
    go_ret
    exact ⟨ret_int (by rw [← hg.out]; rfl),hb⟩
end Go.Proofs.YtmikofeildnpdaaGreat
