/- Texts of this claim, put together: ZK TD ZL RG. -/
import Derived.Test.YtmikofeildnpdaaGreatKUr
import Derived.Test.YtmikofeildnpdaaGreatKUi
import Derived.Test.YtmikofeildnpdaaGreatKUd

set_option maxRecDepth 100000
set_option maxHeartbeats 12800000
/- slices.SortFunc at rows of structs of any kind. -/
namespace Go.Proofs.YtmikofeildnpdaaGreat
open Go.RowKit
open Go.Shelf Go.Lib Go.Sort
def CeE {α : Type} (k : Nat) (El : World→List Value→α→Prop) (w0 : World) : Type:={ x : List Value × α // x.1.length = k∧(∀ u ∈ x.1,u.oneCell' = true)∧El w0 x.1 x.2 }
def CeE.enc {α : Type} {k : Nat} {El : World→List Value→α→Prop} {w0 : World} (x : CeE k El w0) : List Value:=x.1.1
theorem flat_K {β : Type} [Inhabited β] (enc : β→List Value) (k : Nat) (hk : 0 < k) (hlen : ∀ x,(enc x).length = k) (d : Array β) (j : Nat) (hj : j < d.size) : ((flatK enc k d).toList.drop (j * k)).take k = enc d[j]!:=by
 apply List.ext_getElem?
 intro i
 rw [List.getElem?_take]
 by_cases hi : i < k
 ·have hle : j * k + k ≤ d.size * k:=by rw [← Nat.succ_mul]; exact Nat.mul_le_mul_right _ hj
  rw [if_pos hi,List.getElem?_drop,Array.getElem?_toList,Array.getElem?_eq_getElem (by rw [size_flatK]; omega)]
  have:=get_flatK enc k d (j * k + i) (by omega)
  rw [getElem!_pos _ _ (by rw [size_flatK]; omega)] at this
  have e1 : (j * k + i) / k = j:=by rw [Nat.add_comm,Nat.add_mul_div_right _ _ hk,Nat.div_eq_of_lt hi,Nat.zero_add]
  have e2 : (j * k + i) % k = i:=by rw [Nat.add_comm,Nat.add_mul_mod_self_right,Nat.mod_eq_of_lt hi]
  rw [this,e1,e2]
  have hl:=hlen d[j]!
  rw [getElem!_pos _ i (by omega)]
  exact (List.getElem?_eq_getElem (by omega)).symm
 ·rw [if_neg hi,List.getElem?_eq_none (by rw [hlen]; omega)]
theorem sortOwX {α : Type} {ρ : Ren} (L : SlLaysF0.n6 Tryz.prog ρ) {k : Nat} (hk : 0 < k) (aE : ∀ w,(isAgg (ρ.t 24)).run Tryz.prog w = .ok true w) (zE : ∀ w,(Go.sizeOf (ρ.t 24)).run Tryz.prog w = .ok k w) {E : TypeId} {El : World→List Value→α→Prop} (hSt : Stab E El) {fn : Nat} {cf : α→α→Int}
  (hO : ∀ a b,cf a b < 0→¬ cf b a < 0) (hTr : ∀ a b c,cf a b < 0→cf b c < 0→cf a c < 0) (hNt : ∀ a b c,¬ cf a b < 0→¬ cf b c < 0→¬ cf a c < 0)
  (eg : ∀ args w,(callFunc fn args).run Tryz.prog w = .ok (.enter fn args) w) {w : World}
  (hcmp : ∀ W,KeepX E w W→∀ cs ds x y,El w cs x→El w ds y→cs.length = k→ds.length = k→Calls Tryz.prog fn #[.agg cs.toArray,.agg ds.toArray] W fun e w'=>e = .returned (.int .i64 (cf x y))∧Go.RowKit.Below W.heap.size W w'∧W.drawn ≤ w'.drawn)
  {B g n cap : Nat} {xs : List α} (h : OwX E k El w B (.slice (some ⟨g,0,none⟩) n cap) n xs) (hn0 : 0 < n) (hn : n ≤ 1000000) :
  Calls Tryz.prog (ρ.f 6) #[.slice (some ⟨g,0,none⟩) n cap,.func (.func fn) #[] #[]] w fun e w'=>
   e = .returned (.tuple #[])∧∃ ys : List α,ys.Perm xs∧ys.Pairwise (fun a b=>¬ cf b a < 0)∧OwX E k El w' B (.slice (some ⟨g,0,none⟩) n cap) n ys∧Go.RowKit.Below B w w'∧KeepX E w w':=by
 have hl:=h.length
 obtain ⟨ws,h1,h2,h3,h4⟩:=h
 have hwl : ws.length = n * k:=h1.1
 rcases h1.2 with ⟨h0,_⟩ | ⟨g',cap',cur,he,hB,hg,hc1,hc2,hc3,hc4⟩
 ·cases h0
 ·injection he with he1 he2 he3
  injection he1 with he1
  injection he1 with he1
  subst he1 he3
  have hle : ∀ j,j < n→j * k + k ≤ n * k:=fun j hj=>by rw [← Nat.succ_mul]; exact Nat.mul_le_mul_right _ hj
  let mk : Fin n→CeE k El w:=fun j=>⟨((ws.drop (j * k)).take k,xs[j.1]'(by rw [hl]; exact j.2)),by rw [List.length_take,List.length_drop]; have:=hle j j.2; omega,
   fun u hu=>h3 u (List.mem_of_mem_drop (List.mem_of_mem_take hu)),h4 j _ (List.getElem?_eq_getElem (by rw [hl]; exact j.2))⟩
  letI : Inhabited (CeE k El w):=⟨mk ⟨0,hn0⟩⟩
  obtain ⟨d,hd⟩:=exF (Array.ofFn mk)
  have hds : d.size = n:=by rw [hd]; simp
  have hdj : ∀ j (hj : j < n),d[j]! = mk ⟨j,hj⟩:=fun j hj=>by rw [getElem!_pos d j (by omega)]; simp [hd]
  have hlen : ∀ x : CeE k El w,(CeE.enc x).length = k:=fun x=>x.2.1
  have hone : ∀ x : CeE k El w,∀ v ∈ CeE.enc x,v.oneCell' = true:=fun x=>x.2.2.1
  have hH : HoldsK (CeE.enc (k:=k) (El:=El) (w0:=w)) k w g 0 d:=by
   intro t ht
   rw [size_flatK,hds] at ht
   have htj : t / k < n:=by rw [Nat.div_lt_iff_lt_mul hk]; exact ht
   have hm : t % k < k:=Nat.mod_lt _ hk
   have hdm : t / k * k + t % k = t:=by rw [Nat.mul_comm,Nat.div_add_mod]
   constructor
   ·rw [get_flatK _ _ _ _ (by rw [hds]; exact ht),hdj _ htj,Nat.zero_add,World.ownsRow.cellAt h1 t (by omega)]
    have hl7:=hlen (mk ⟨t / k,htj⟩)
    rw [getElem!_pos _ _ (by rw [hl7]; exact hm)]
    have hq : ((ws.drop (t / k * k)).take k)[t % k]? = ws[t]?:=by rw [List.getElem?_take,if_pos hm,List.getElem?_drop,hdm]
    rw [← hq]
    exact List.getElem?_eq_getElem _
   ·rw [Nat.zero_add]; exact World.ownsRow.frozenAt h1 t
  have hgl:=(Array.getElem?_eq_some_iff.1 hg).1
  let cf' : CeE k El w→CeE k El w→Int:=fun x y=>cf x.1.2 y.1.2
  have hswo : SWO (ltOf cf'):=
   { irrefl:=fun _=>decide_eq_false fun h=>hO _ _ h h
    trans:=fun _ _ _ h1 h2=>decide_eq_true (hTr _ _ _ (of_decide_eq_true h1) (of_decide_eq_true h2))
    ntrans:=fun _ _ _ h1 h2=>decide_eq_false (hNt _ _ _ (of_decide_eq_false h1) (of_decide_eq_false h2)) }
  have hlay : CmpLays Tryz.prog fn #[] (CeE.enc (k:=k) (El:=El) (w0:=w)) k cf' g 0 d.size w:=by
   intro m os dk _ x y
   have hkp : KeepX E w (sortWorldK (CeE.enc (k:=k) (El:=El) (w0:=w)) k w g 0 m dk os):=keep_sort (enc:=id) m (flatK (CeE.enc (k:=k) (El:=El) (w0:=w)) k dk) os hg
   exact (hcmp _ hkp _ _ _ _ x.2.2.2 y.2.2.2 x.2.1 y.2.1).mono fun _ _ ⟨he,hb,hd⟩=>⟨he,grown_of hb hd⟩
  have hS:=AnyQ.slices_SortFunc L k aE zE (CeE.enc (k:=k) (El:=El) (w0:=w)) hlen hone cf' hswo fn #[] g 0 cap d w eg hlay hH hgl (by rw [hds]; omega)
  rw [hds] at hS
  refine hS.mono ?_
  rintro e w' ⟨rfl,d',m,os,hp,hs,rfl⟩
  obtain ⟨hp1,_,hp2⟩:=hp
  rw [hds] at hp1
  have e1 : d'.extract 0 n = d':=by rw [← hp1]; simp
  have e2 : d.extract 0 n = d:=by rw [← hds]; simp
  rw [e1,e2] at hp2
  have ex : d.toList.map (fun x : CeE k El w=>x.1.2) = xs:=by
   apply List.ext_getElem
   ·simp [hds,hl]
   ·intro j hj1 hj2
    simp only [List.getElem_map,Array.getElem_toList]
    have:=hdj j (by omega)
    rw [getElem!_pos d j (by omega)] at this
    rw [this]
  have hfs : (flatK (CeE.enc (k:=k) (El:=El) (w0:=w)) k d').size = n * k:=by rw [size_flatK,hp1]
  have hcs : n * k ≤ cur.size:=by rw [hc3]; exact Nat.mul_le_mul_right _ hc1
  have hW : sortWorldK (CeE.enc (k:=k) (El:=El) (w0:=w)) k w g 0 m d' os = sortWorld id w g 0 m (flatK (CeE.enc (k:=k) (El:=El) (w0:=w)) k d') os:=rfl
  have hkx : KeepX E w (sortWorld id w g 0 m (flatK (CeE.enc (k:=k) (El:=El) (w0:=w)) k d') os):=keep_sort (enc:=id) m _ os hg
  rw [hW]
  refine ⟨rfl,d'.toList.map (fun x : CeE k El w=>x.1.2),?_,?_,⟨(flatK (CeE.enc (k:=k) (El:=El) (w0:=w)) k d').toList,⟨by rw [Array.length_toList,hfs],.inr ⟨g,cap,putCells id 0 (flatK (CeE.enc (k:=k) (El:=El) (w0:=w)) k d') cur,rfl,hB,heap_sortWorld_same 0 m _ os hg,hc1,hc2,by simpa [putCells] using hc3,?_⟩⟩,by simp [hp1],?_,?_⟩,below_sortWorld m _ os hB hgl,hkx⟩
  ·rw [← ex]; exact hp2.map _
  ·rw [List.pairwise_map,List.pairwise_iff_getElem]
   intro i j hi hj hij
   simp only [Array.length_toList] at hi hj
   have:=hs i j (Nat.zero_le _) hij (by omega)
   rw [getElem!_pos d' i hi,getElem!_pos d' j hj] at this
   exact of_decide_eq_false this
  ·have:=putCells_take id (flatK (CeE.enc (k:=k) (El:=El) (w0:=w)) k d') cur (by omega)
   rw [hfs] at this
   rw [this,List.map_id]
  ·intro u hu
   obtain ⟨t,ht,rfl⟩:=List.getElem_of_mem hu
   rw [Array.length_toList,hfs] at ht
   have:=get_flatK (CeE.enc (k:=k) (El:=El) (w0:=w)) k d' t (by rw [hp1]; exact ht)
   rw [getElem!_pos _ _ (by omega)] at this
   rw [Array.getElem_toList,this]
   have hl7:=hlen d'[t / k]!
   rw [getElem!_pos _ _ (by rw [hl7]; exact Nat.mod_lt _ hk)]
   exact hone _ _ (List.getElem_mem _)
  ·intro j x hj
   rw [List.getElem?_map] at hj
   have hjl : j < d'.size:=by
    rcases Nat.lt_or_ge j d'.size with h | h
    ·exact h
    ·rw [List.getElem?_eq_none (by simpa using h)] at hj; cases hj
   rw [flat_K _ k hk hlen d' j hjl]
   rw [Array.getElem?_toList,Array.getElem?_eq_getElem hjl] at hj
   simp only [Option.map_some,Option.some.injEq] at hj
   rw [getElem!_pos d' j hjl,← hj]
   exact hSt _ _ _ _ d'[j].2.2.2 hkx
end Go.Proofs.YtmikofeildnpdaaGreat

/- task.Check. -/
namespace Go.Proofs.YtmikofeildnpdaaGreat
open Go.RowKit
def unordC' (cs : List Cs) (k : Nat) : Bool:=decide (0 < k∧0 ≤ cmpL (cs.getD (k - 1) csNil).1 (cs.getD k csNil).1)
theorem caseE_eq {n i o : Int} {cs : List Cs} {k : Nat} : caseE n i o cs k = if vecE (cs.getD k csNil).1 n i ≠ 0 then vecE (cs.getD k csNil).1 n i else if unordC' cs k = true then 14 else outsE n o (cs.getD k csNil):=by
 unfold caseE unordC'; simp only [decide_eq_true_eq]
theorem CsS.at {w : World} {a : Option Addr} {c : Nat} {l : List Cs} (h : CsS w (.slice a l.length c) l) (h0 : 0 < l.length) : ∃ b off,a = some ⟨b,off,none⟩∧CsC w b off l:=by
 obtain ⟨a',c',b,off,hv,ha,hc,_⟩:=h
 injection hv with e1 _ _
 exact ⟨b,off,e1.trans (ha h0),hc⟩
theorem box4' {W : World} {b : Nat} {v0 v1 v2 v3 : Value} {T : TypeId} (h : W.heap[b]? = some (.cells #[v0,v1,v2,v3] T)) : W.cell? ⟨b,0,none⟩ = some v0∧W.cell? ⟨b,1,none⟩ = some v1∧W.cell? ⟨b,2,none⟩ = some v2∧W.cell? ⟨b,3,none⟩ = some v3:=
 ⟨by rw [cell_of_row _ _ 0 _ _ _ h]; rfl,by rw [cell_of_row _ _ 1 _ _ _ h]; rfl,by rw [cell_of_row _ _ 2 _ _ _ h]; rfl,by rw [cell_of_row _ _ 3 _ _ _ h]; rfl⟩
theorem box3' {W : World} {b : Nat} {v0 v1 v2 : Value} {T : TypeId} (h : W.heap[b]? = some (.cells #[v0,v1,v2] T)) : W.cell? ⟨b,0,none⟩ = some v0∧W.cell? ⟨b,1,none⟩ = some v1∧W.cell? ⟨b,2,none⟩ = some v2:=
 ⟨by rw [cell_of_row _ _ 0 _ _ _ h]; rfl,by rw [cell_of_row _ _ 1 _ _ _ h]; rfl,by rw [cell_of_row _ _ 2 _ _ _ h]; rfl⟩
theorem keep4 {W W1 : World} {b : Nat} {v0 v1 v2 v3 : Value} (hb : Below W.heap.size W W1) (h : W.cell? ⟨b,0,none⟩ = some v0∧W.cell? ⟨b,1,none⟩ = some v1∧W.cell? ⟨b,2,none⟩ = some v2∧W.cell? ⟨b,3,none⟩ = some v3) : W1.cell? ⟨b,0,none⟩ = some v0∧W1.cell? ⟨b,1,none⟩ = some v1∧W1.cell? ⟨b,2,none⟩ = some v2∧W1.cell? ⟨b,3,none⟩ = some v3:=
 ⟨cell_kept hb h.1,cell_kept hb h.2.1,cell_kept hb h.2.2.1,cell_kept hb h.2.2.2⟩
theorem keep3 {W W1 : World} {b : Nat} {v0 v1 v2 : Value} (hb : Below W.heap.size W W1) (h : W.cell? ⟨b,0,none⟩ = some v0∧W.cell? ⟨b,1,none⟩ = some v1∧W.cell? ⟨b,2,none⟩ = some v2) : W1.cell? ⟨b,0,none⟩ = some v0∧W1.cell? ⟨b,1,none⟩ = some v1∧W1.cell? ⟨b,2,none⟩ = some v2:=
 ⟨cell_kept hb h.1,cell_kept hb h.2.1,cell_kept hb h.2.2⟩
theorem checkT {w : World} {v : Value} {n i o : Int} {cs : List Cs} (h : TaskV w v n i o cs) :
  Calls Tryz.prog 113 #[v] w fun e w'=>e = .returned (.int .i64 (chkT n i o cs))∧Below w.heap.size w w':=by
 have hmx : Tryz.prog.follows .mixedOrders = true:=by kernel_rfl
 obtain ⟨sv,rfl,hS⟩:=h
 obtain ⟨sa,sc,hs⟩:=hS.shape
 subst hs
 obtain ⟨W1,hW1⟩:=exF (w.alloc (.cells #[.int .i64 n,.int .i64 i,.int .i64 o,.slice sa cs.length sc] 64))
 have hb1 : Below w.heap.size w W1:=by rw [hW1]; exact (Below.refl _ w).alloc (Nat.le_refl _) _
 have kT : W1.heap[w.heap.size]? = some (.cells #[.int .i64 n,.int .i64 i,.int .i64 o,.slice sa cs.length sc] 64):=by rw [hW1]; exact heap_alloc_new _ _
 have HK:=Lib.hid (fun W (hb : Below W1.heap.size W1 W)=>keep4 hb (box4' kT))
 have HS:=Lib.hid (fun W (hb : Below W1.heap.size W1 W)=>(hS.keep hb1).keep hb)
 obtain ⟨E,hE⟩:=exE (chkT n i o cs)
 rw [hE]
 unfold chkT at hE
 have hNl : cs.length ≤ 1954687338268:=by obtain ⟨_,_,_,_,_,_,_,h⟩:=hS; exact h
 clear kT hS
 obtain ⟨g0,g1,g2,g3⟩:=HK.out W1 (Below.refl _ _)
 rw [hW1] at g0 g1 g2 g3
 by_cases qn0 : n < 1
 ·have dn0 : decide ((n : Int) < 1) = true:=decide_eq_true qn0
  rw [if_pos (by omega)] at hE
  replace hE:=Lib.hid hE
  clear qn0
  go_enter Tryz.func113, Tryz.ntmps113
  go_wp2
  go_ret
  exact ⟨ret_int hE.out,by rw [← hW1]; exact hb1⟩
 have dn0 : decide ((n : Int) < 1) = false:=decide_eq_false qn0
 by_cases qn1 : 5 < n
 ·have dn1 : decide ((5 : Int) < n) = true:=decide_eq_true qn1
  rw [if_pos (by omega)] at hE
  replace hE:=Lib.hid hE
  clear qn1
  clear qn0
  go_enter Tryz.func113, Tryz.ntmps113
  go_wp2
  go_ret
  exact ⟨ret_int hE.out,by rw [← hW1]; exact hb1⟩
 have dn1 : decide ((5 : Int) < n) = false:=decide_eq_false qn1
 by_cases qi0 : i < 1
 ·have di0 : decide ((i : Int) < 1) = true:=decide_eq_true qi0
  rw [if_pos (by omega)] at hE
  replace hE:=Lib.hid hE
  clear qi0
  clear qn0 qn1
  go_enter Tryz.func113, Tryz.ntmps113
  go_wp2
  go_ret
  exact ⟨ret_int hE.out,by rw [← hW1]; exact hb1⟩
 have di0 : decide ((i : Int) < 1) = false:=decide_eq_false qi0
 by_cases qi1 : 8 < i
 ·have di1 : decide ((8 : Int) < i) = true:=decide_eq_true qi1
  rw [if_pos (by omega)] at hE
  replace hE:=Lib.hid hE
  clear qi1
  clear qn0 qn1 qi0
  go_enter Tryz.func113, Tryz.ntmps113
  go_wp2
  go_ret
  exact ⟨ret_int hE.out,by rw [← hW1]; exact hb1⟩
 have di1 : decide ((8 : Int) < i) = false:=decide_eq_false qi1
 by_cases qo0 : o < 1
 ·have do0 : decide ((o : Int) < 1) = true:=decide_eq_true qo0
  rw [if_pos (by omega)] at hE
  replace hE:=Lib.hid hE
  clear qo0
  clear qn0 qn1 qi0 qi1
  go_enter Tryz.func113, Tryz.ntmps113
  go_wp2
  go_ret
  exact ⟨ret_int hE.out,by rw [← hW1]; exact hb1⟩
 have do0 : decide ((o : Int) < 1) = false:=decide_eq_false qo0
 by_cases qo1 : 8 < o
 ·have do1 : decide ((8 : Int) < o) = true:=decide_eq_true qo1
  rw [if_pos (by omega)] at hE
  replace hE:=Lib.hid hE
  clear qo1
  clear qn0 qn1 qi0 qi1 qo0
  go_enter Tryz.func113, Tryz.ntmps113
  go_wp2
  go_ret
  exact ⟨ret_int hE.out,by rw [← hW1]; exact hb1⟩
 have do1 : decide ((8 : Int) < o) = false:=decide_eq_false qo1
 rw [if_neg (by omega)] at hE
 clear qn0 qn1 qi0 qi1 qo0 qo1
 by_cases qe0 : cs.length < 1
 ·have de0 : decide ((cs.length : Int) < 1) = true:=decide_eq_true (by omega)
  rw [if_pos (by omega)] at hE
  replace hE:=Lib.hid hE
  go_enter Tryz.func113, Tryz.ntmps113
  go_wp2
  go_ret
  exact ⟨ret_int hE.out,by rw [← hW1]; exact hb1⟩
 have de0 : decide ((cs.length : Int) < 1) = false:=decide_eq_false (by omega)
 by_cases qe1 : 1024 < cs.length
 ·have de1 : decide ((1024 : Int) < (cs.length : Int)) = true:=decide_eq_true (by omega)
  rw [if_pos (by omega)] at hE
  replace hE:=Lib.hid hE
  go_enter Tryz.func113, Tryz.ntmps113
  go_wp2
  go_ret
  exact ⟨ret_int hE.out,by rw [← hW1]; exact hb1⟩
 have de1 : decide ((1024 : Int) < (cs.length : Int)) = false:=decide_eq_false (by omega)
 rw [if_neg (by omega)] at hE
 have hl0 : 0 < cs.length:=by omega
 have hlb : cs.length ≤ 1024:=by omega
 have s1 : Hid (firstE (caseE n i o cs) (cs.length - 0) 0 = E):=hE
 clear hE qe0 qe1
 go_enter Tryz.func113, Tryz.ntmps113
 go_wp2_with fail
 rw [← hW1]
 replace hW1:=Lib.hid hW1
 clear g0 g1 g2 g3 dn0 dn1 di0 di1 do0 do1 de0 de1
 go_loopw [46] (fun iv wr=>∃ k : Nat,iv = .int .i64 k∧k ≤ cs.length∧Hid (firstE (caseE n i o cs) (cs.length - k) k = E)∧Below W1.heap.size W1 wr) (fun iv _=>cs.length - (intOf iv).toNat)
 case atStart=>exact ⟨0,rfl,by omega,s1,Below.refl _ _⟩
 case round=>
  clear s1
  obtain ⟨k,rfl,hk,ht,hbr⟩:=hrel
  obtain ⟨g0,g1,g2,g3⟩:=HK.out wr hbr
  by_cases hlt : k < cs.length
  ·have ht1:=ht.out
   rw [show cs.length - k = (cs.length - (k + 1)) + 1 by omega] at ht1
   obtain ⟨b,off,rfl,hc⟩:=(HS.out wr hbr).at hl0
   obtain ⟨u0,u1,u2,c0,c1,c2,i0,i1,i2⟩:=hc k hlt
   obtain ⟨x0,y0,hs⟩:=i0.shape
   subst hs
   obtain ⟨x1,y1,hs⟩:=i1.shape
   subst hs
   obtain ⟨x2,y2,hs⟩:=i2.shape
   subst hs
   obtain ⟨c,hcc⟩:=exE (cs.getD k csNil)
   have hfk:=caseE_eq (n:=n) (i:=i) (o:=o) (cs:=cs) (k:=k)
   rw [hcc] at hfk
   rw [hcc] at c0 c1 c2 i0 i1 i2
   obtain ⟨W2,hW2⟩:=exF (wr.alloc (.cells #[.slice x0 c.1.length y0,.slice x1 c.2.1.length y1,.slice x2 c.2.2.length y2] 128))
   have hb2 : Below wr.heap.size wr W2:=by rw [hW2]; exact (Below.refl _ _).alloc (Nat.le_refl _) _
   have kC : W2.heap[wr.heap.size]? = some (.cells #[.slice x0 c.1.length y0,.slice x1 c.2.1.length y1,.slice x2 c.2.2.length y2] 128):=by rw [hW2]; exact heap_alloc_new _ _
   have HC:=Lib.hid (fun W (hb : Below W2.heap.size W2 W)=>keep3 hb (box3' kC))
   have D2:=btt hbr hb2
   have HV:=vectorC (n:=n) (most:=i) (i0.keep hb2)
   have HVs:=Lib.hid (fun W (hb : Below W2.heap.size W2 W)=>vectorsC (n:=n) (i:=i) (o:=o) (ta:=some ⟨b,off,none⟩) (tn:=cs.length) (tc:=sc) (c:=c) ((i0.keep hb2).keep hb) ((i1.keep hb2).keep hb) ((i2.keep hb2).keep hb))
   have HP:=Lib.hid (fun (h0 : 0 < k)=>by
    obtain ⟨p0,_,_,q0,_,_,j0,_⟩:=hc (k - 1) (by omega)
    exact (⟨p0,q0,j0⟩ : ∃ p0,wr.cell? ⟨b,off + (k - 1) * 3,none⟩ = some p0∧Ints wr p0 (cs.getD (k - 1) csNil).1))
   have I0:=Lib.hid (fun W (hb : Below W2.heap.size W2 W)=>(i0.keep hb2).keep hb)
   obtain ⟨z,hz⟩:=exE (vecE c.1 n i)
   obtain ⟨B,hB⟩:=exE (unordC' cs k)
   obtain ⟨y,hy⟩:=exE (outsE n o c)
   rw [hz,hB,hy] at hfk
   rw [hz] at HV
   simp only [hy] at HVs
   replace HV:=Lib.hid HV
   obtain ⟨g0',g1',g2',g3'⟩:=HK.out W2 D2
   obtain ⟨r0,r1,r2⟩:=HC.out W2 (Below.refl _ _)
   rw [hW2] at g0' g1' g2' g3' r0 r1 r2
   clear kC i0 i1 i2 hz hy ht hc
   by_cases hz0 : z = 0
   ·subst hz0
    rw [if_neg (fun h=>h rfl)] at hfk
    go_wp2_with fail
    rw [← hW2]
    replace hW2:=Lib.hid hW2
    refine HV.out.mono ?_
    rintro e w3 ⟨rfl,hb3⟩
    have D3:=btt D2 hb3
    clear g0 g1 g2 g3 g0' g1' g2' g3' r0 r1 r2 c0 c1 c2
    have HKr:=Lib.hid (fun W (hb : Below w3.heap.size w3 W)=>And.intro (HK.out W (btt D3 hb)).2.2.2 (HC.out W (btt hb3 hb)).1)
    have hreg : k = 0∨0 < k:=by omega
    have fin : B = true→Hid ((14 : Int) = E):=fun hBt=>by
     have:=firstE_stop ht1 (by rw [hfk,if_pos hBt]; decide)
     rw [hfk,if_pos hBt] at this
     exact this
    have nxt : B = false→y = 0→Hid (firstE (caseE n i o cs) (cs.length - (k + 1)) (k + 1) = E):=fun hBf hy0=>by
     refine firstE_step ht1 ?_
     rw [hfk,if_neg (by rw [hBf]; decide),hy0]
    have stp : B = false→y ≠ 0→Hid (y = E):=fun hBf hy0=>by
     have e1 : caseE n i o cs k = y:=by rw [hfk,if_neg (by rw [hBf]; decide)]
     have:=firstE_stop ht1 (by rw [e1]; exact hy0)
     rw [e1] at this
     exact this
    replace fin:=Lib.hid fin
    replace nxt:=Lib.hid nxt
    replace stp:=Lib.hid stp
    clear ht1 hfk
    go_wp2_with fail
    rcases hreg with h0 | h0
    ·subst h0
     have hBf : B = false:=by rw [← hB]; exact decide_eq_false (fun h=>by omega)
     replace fin:=trivial
     replace nxt:=Lib.hid (nxt.out hBf)
     replace stp:=Lib.hid (stp.out hBf)
     clear hB hBf HP
     refine wp_region_bw hmx (by kernel_rfl) ?_
     repeat (refine WQ.step (fun K hK => ?_)
             go_simp
             first
               | (refine hK _ ?_; clear hK K)
               | (apply Exists.intro
                  refine ⟨fun wq hC => ?_, hK _ ?_⟩
                  · (first | with_reducible rfl | (go_simp; first | done | with_reducible rfl | with_reducible exact ⟨rfl,rfl⟩))
                  clear hK K))
     refine WQ.nil ?_
     intro w4 hb4
     obtain ⟨g0,g1,g2,g3⟩:=HK.out w4 (btt D3 hb4)
     obtain ⟨r0,r1,r2⟩:=HC.out w4 (btt hb3 hb4)
     go_wp2_with fail
     refine (HVs.out w4 (btt hb3 hb4)).mono ?_
     rintro e w5 ⟨rfl,hb5⟩
     have hbf:=btt (btt D3 hb4) hb5
     by_cases hy0 : y = 0
     ·have hn:=nxt.out hy0
      subst hy0
      clear stp nxt
      go_wp2_with fail
      go_roundw
      case rel=>exact ⟨_,by go_num,hlt,hn,hbf⟩
      case measure=>simp [intOf]; omega
     ·have hn:=stp.out hy0
      have hy1 : (y != 0) = true:=by simpa using hy0
      have hbff:=btt hb1 hbf
      clear stp nxt
      go_wp2_with fail
      go_ret
      exact ⟨ret_int hn.out,hbff⟩
    ·obtain ⟨p0,q0,j0⟩:=HP.out h0
     obtain ⟨pa,pc,hs⟩:=j0.shape
     subst hs
     obtain ⟨P,hP⟩:=exE ((cs.getD (k - 1) csNil).1)
     have hBz : B = decide (0 ≤ cmpL P c.1):=by rw [← hB,← hP,← hcc]; unfold unordC'; simp [h0]
     rw [hP] at q0 j0
     obtain ⟨t,ht⟩:=exE (cmpL P c.1)
     have HCm:=Lib.hid (fun W (hb : Below w3.heap.size w3 W)=>cmpIntsC (j0.keep (btt (btt hb2 hb3) hb)) (I0.out W (btt hb3 hb)))
     simp only [ht] at HCm
     rw [ht] at hBz
     obtain ⟨m1,hm1⟩:=exE (P.length)
     obtain ⟨m2,hm2⟩:=exE (c.1.length)
     obtain ⟨k1,hk1⟩:=exE (k - 1)
     rw [hm1,hk1] at q0
     simp only [hm1,hm2] at HCm
     have HKr2:=Lib.hid (fun W (hb : Below w3.heap.size w3 W)=>And.intro (HKr.out W hb) (cell_kept (btt (btt hb2 hb3) hb) q0))
     simp only [hm2] at HKr2
     have d1 : decide ((0 : Int) < (k : Int)) = true:=decide_eq_true (by omega)
     have hwr : IntKind.i64.wrap ((k : Int) - 1) = (k1 : Int):=by rw [show (k : Int) - 1 = (k1 : Int) by omega]; exact IntWalk.i64_in _ (by omega)
     have hi1 : (k1 : Int) < (cs.length : Int):=by omega
     have hi2 : (k : Int) < (cs.length : Int):=by omega
     replace hB:=Lib.hid hB
     replace hP:=Lib.hid hP
     replace ht:=Lib.hid ht
     replace hm1:=Lib.hid hm1
     replace hm2:=Lib.hid hm2
     replace hk1:=Lib.hid hk1
     clear q0 j0
     refine wp_region_bw hmx (by kernel_rfl) ?_
     repeat (refine WQ.step (fun K hK => ?_)
             go_simp
             first
               | (refine hK _ ?_; clear hK K)
               | (apply Exists.intro
                  refine ⟨fun wq hC => ?_, hK _ ?_⟩
                  · (first | with_reducible rfl | (obtain ⟨⟨f0,f1⟩,f2⟩:=HKr2.out wq hC; go_simp; first | done | with_reducible rfl | with_reducible exact ⟨rfl,rfl⟩))
                  clear hK K))
     (refine WQ.step (fun K hK => ?_)
      go_simp
      first
        | (refine hK _ ?_; clear hK K)
        | (apply Exists.intro
           refine ⟨fun wq hC => ?_, hK _ ?_⟩
           · (refine (HCm.out wq hC).mono ?_; rintro e w' ⟨rfl,rfl⟩; exact ⟨rfl,hC⟩)
           clear hK K))
     repeat (refine WQ.step (fun K hK => ?_)
             go_simp
             first
               | (refine hK _ ?_; clear hK K)
               | (apply Exists.intro
                  refine ⟨fun wq hC => ?_, hK _ ?_⟩
                  · (first | with_reducible rfl | (go_simp; first | done | with_reducible rfl | with_reducible exact ⟨rfl,rfl⟩))
                  clear hK K))
     refine WQ.nil ?_
     intro w4 hb4
     rw [← hBz]
     clear hBz
     cases B
     ·replace fin:=trivial
      replace nxt:=Lib.hid (nxt.out rfl)
      replace stp:=Lib.hid (stp.out rfl)
      obtain ⟨g0,g1,g2,g3⟩:=HK.out w4 (btt D3 hb4)
      obtain ⟨r0,r1,r2⟩:=HC.out w4 (btt hb3 hb4)
      go_wp2_with fail
      refine (HVs.out w4 (btt hb3 hb4)).mono ?_
      rintro e w5 ⟨rfl,hb5⟩
      have hbf:=btt (btt D3 hb4) hb5
      by_cases hy0 : y = 0
      ·have hn:=nxt.out hy0
       subst hy0
       clear stp nxt
       go_wp2_with fail
       go_roundw
       case rel=>exact ⟨_,by go_num,hlt,hn,hbf⟩
       case measure=>simp [intOf]; omega
      ·have hn:=stp.out hy0
       have hy1 : (y != 0) = true:=by simpa using hy0
       have hbff:=btt hb1 hbf
       clear stp nxt
       go_wp2_with fail
       go_ret
       exact ⟨ret_int hn.out,hbff⟩
     ·have hEf:=fin.out rfl
      have hbf:=btt hb1 (btt D3 hb4)
      go_wp2_with fail
      go_ret
      exact ⟨ret_int hEf.out,hbf⟩
   ·rw [if_pos hz0] at hfk
    have hn:=firstE_stop ht1 (by rw [hfk]; exact hz0)
    rw [hfk] at hn
    replace hn:=Lib.hid hn
    have hz1 : (z != 0) = true:=by simpa using hz0
    clear ht1 hfk HP
    go_wp2_with fail
    rw [← hW2]
    replace hW2:=Lib.hid hW2
    refine HV.out.mono ?_
    rintro e w3 ⟨rfl,hb3⟩
    have hbf:=btt hb1 (btt D2 hb3)
    go_wp2_with fail
    go_ret
    exact ⟨ret_int hn.out,hbf⟩
  ·have hE0 : Hid ((0 : Int) = E):=by
    have:=ht.out
    rw [show cs.length - k = 0 by omega] at this
    exact this
   have hb03:=btt hb1 hbr
   clear ht
   go_wp2_with fail
   go_ret
   exact ⟨ret_int hE0.out,hb03⟩
end Go.Proofs.YtmikofeildnpdaaGreat

/- Rows of cases that a call made; their sort. -/
namespace Go.Proofs.YtmikofeildnpdaaGreat
open Go.RowKit
open Go.Shelf Go.Lib Go.Sort
def ECs (w : World) (cs : List Value) (x : Cs) : Prop:=∃ u0 u1 u2,cs = [u0,u1,u2]∧OI w 0 u0 x.1.length x.1∧OII w 0 u1 x.2.1.length x.2.1∧OII w 0 u2 x.2.2.length x.2.2∧x.1.length ≤ 1000
theorem ECs.stab : Stab 128 ECs:=fun _ _ _ _ ⟨u0,u1,u2,h,h0,h1,h2,hl⟩ hx=>⟨u0,u1,u2,h,ownsRow_X h0 (by decide) hx,h1.otherX (by decide) (by decide) hx,h2.otherX (by decide) (by decide) hx,hl⟩
theorem elemCs : ElemK Tryz.prog 62 128 (.agg #[.slice none 0 0,.slice none 0 0,.slice none 0 0]) 3 72:=⟨by kernel_rfl,by kernel_rfl,rfl⟩
theorem caseCompareC {w : World} {u0 u1 u2 v0 v1 v2 : Value} {x y : List Int} (hx : OI w 0 u0 x.length x) (hy : OI w 0 v0 y.length y) (lx : x.length ≤ 1000) (ly : y.length ≤ 1000) :
  Calls Tryz.prog 116 #[.agg #[u0,u1,u2],.agg #[v0,v1,v2]] w fun e w'=>e = .returned (.int .i64 (cmpL x y))∧Go.RowKit.Below w.heap.size w w'∧w.drawn ≤ w'.drawn:=by
 have hb : Go.RowKit.Below w.heap.size w ((w.alloc (.cells #[u0,u1,u2] 128)).alloc (.cells #[v0,v1,v2] 128)):=((Go.RowKit.Below.refl _ _).alloc (Nat.le_refl _) _).alloc (by simp) _
 have HC:=Lib.hid (fun W (hb : Go.RowKit.Below w.heap.size w W)=>cmpIntsC ((hx.keep hb).ints (by omega)) ((hy.keep hb).ints (by omega)))
 obtain ⟨R,hR⟩:=exE (cmpL x y)
 rw [hR] at HC ⊢
 clear hR hx hy
 go_enter Tryz.func116, Tryz.ntmps116
 go_wp2_with fail
 refine (HC.out _ hb).mono ?_; rintro e w1 ⟨rfl,hw1⟩
 subst hw1
 go_wp2
 go_ret
 exact ⟨rfl,hb,Nat.le_refl _⟩
theorem sortCases {w : World} {B g n cap : Nat} {xs : List Cs} (h : OwX 128 3 ECs w B (.slice (some ⟨g,0,none⟩) n cap) n xs) (hn0 : 0 < n) (hn : n ≤ 1000000) :
  Calls Tryz.prog 115 #[.slice (some ⟨g,0,none⟩) n cap,.func (.func 116) #[] #[]] w fun e w'=>
   e = .returned (.tuple #[])∧∃ ys : List Cs,ys.Perm xs∧ys.Pairwise (fun a b=>¬ cmpC b a < 0)∧OwX 128 3 ECs w' B (.slice (some ⟨g,0,none⟩) n cap) n ys∧Go.RowKit.Below B w w'∧KeepX 128 w w':=by
 have aE : ∀ w,(isAgg (Tryz.sortCs_ren.t 24)).run Tryz.prog w = .ok true w:=fun w=>by kernel_rfl
 have zE : ∀ w,(Go.sizeOf (Tryz.sortCs_ren.t 24)).run Tryz.prog w = .ok 3 w:=fun w=>by kernel_rfl
 have eg : ∀ args w,(callFunc 116 args).run Tryz.prog w = .ok (.enter 116 args) w:=enters_of Tryz.func116 (by kernel_rfl) rfl
 exact sortOwX Tryz.sortCs (by decide) aE zE ECs.stab (cf:=cmpC) (fun a b h k=>cmpL_asymm _ _ h k) (fun a b c h k=>cmpL_trans _ _ _ h k) (fun a b c h k=>cmpL_ntrans _ _ _ h k) eg
  (fun W hk cs ds x y hx hy _ _=>by
   obtain ⟨u0,u1,u2,rfl,a0,a1,a2,al⟩:=ECs.stab _ _ _ _ hx hk
   obtain ⟨v0,v1,v2,rfl,b0,b1,b2,bl⟩:=ECs.stab _ _ _ _ hy hk
   exact caseCompareC a0 b0 al bl) h hn0 hn
theorem OwX.css {w : World} {B n : Nat} {v : Value} {xs : List Cs} (h : OwX 128 3 ECs w B v n xs) (hn : n ≤ 1000000) (hl : ∀ x ∈ xs,x.2.1.length ≤ 1000000∧x.2.2.length ≤ 1000000∧(∀ y ∈ x.2.1,y.length ≤ 1000)∧∀ y ∈ x.2.2,y.length ≤ 1000) : CsS w v xs:=by
 have hxl:=h.length
 rcases Nat.eq_zero_or_pos n with h0 | h0
 ·subst h0
  obtain rfl:=List.length_eq_zero_iff.1 hxl
  obtain ⟨a,c,rfl⟩:=h.shape
  exact ⟨a,c,0,0,rfl,fun h=>absurd h (Nat.lt_irrefl 0),fun j hj=>absurd hj (Nat.not_lt_zero j),Nat.zero_le _⟩
 ·obtain ⟨g,cap,rfl,_⟩:=h.form h0
  refine ⟨_,_,g,0,by rw [hxl],fun _=>rfl,fun j hj=>?_,by omega⟩
  obtain ⟨cs,hc,⟨u0,u1,u2,rfl,a0,a1,a2,al⟩,hcl⟩:=h.cells (j:=j) (x:=xs.getD j csNil) (by rw [getD_eq hj]; exact List.getElem?_eq_getElem hj)
  obtain ⟨l1,l2,l3,l4⟩:=hl _ (getD_mem (d:=csNil) hj)
  refine ⟨u0,u1,u2,?_,?_,?_,a0.ints (by omega),a1.intss (by omega) fun x hx=>by have:=l3 x hx; omega,a2.intss (by omega) fun x hx=>by have:=l4 x hx; omega⟩
  ·have:=hcl 0 u0 rfl; rwa [Nat.add_zero,← Nat.zero_add (j * 3)] at this
  ·have:=hcl 1 u1 rfl; rwa [← Nat.zero_add (j * 3)] at this
  ·have:=hcl 2 u2 rfl; rwa [← Nat.zero_add (j * 3)] at this
end Go.Proofs.YtmikofeildnpdaaGreat

/- Regions that draw their order, one lemma for each operation: what each slot holds, how the worlds grow. -/
namespace Go.Proofs.YtmikofeildnpdaaGreat
open Go.RowKit
def phiG : List (World→Value→Prop)→Nat→World→Value→Prop
 | [],_,_,_=>True
 | p::_,0,W,v=>p W v
 | _::l,i + 1,W,v=>phiG l i W v
def StabG (R : World→World→Prop) : List (World→Value→Prop)→Prop
 | []=>True
 | p::l=>(∀ W W' v,p W v→R W W'→p W' v)∧StabG R l
theorem StabG.at {R : World→World→Prop} : ∀ {l : List (World→Value→Prop)},StabG R l→∀ (i : Nat) (W W' : World) (v : Value),phiG l i W v→R W W'→phiG l i W' v
 | [],_,_,_,_,_,_,_=>trivial
 | _::_,h,0,W,W',v,hp,hr=>h.1 W W' v hp hr
 | _::_,h,i + 1,W,W',v,hp,hr=>h.2.at i W W' v hp hr
def depsG (o : Oper) : List Nat:=(o.after.toList.filter (Region.binds .any)).map (·.on)
def HasG (Φ : List (World→Value→Prop)) (D : Nat→Bool) (W : World) (ys : Nat→Value) : List Nat→Prop
 | []=>True
 | j::l=>(D j = true∧phiG Φ j W (ys j))∧HasG Φ D W ys l
theorem HasG.of {Φ : List (World→Value→Prop)} {D : Nat→Bool} {W : World} {ys : Nat→Value} : ∀ {l : List Nat},(∀ j ∈ l,D j = true∧phiG Φ j W (ys j))→HasG Φ D W ys l
 | [],_=>trivial
 | j::l,h=>⟨h j (by simp),HasG.of fun k hk=>h k (by simp [hk])⟩
def ClG (ops : Array Oper) (D : Nat→Bool) : Prop:=∀ j o,D j = true→ops[j]? = some o→∀ k ∈ depsG o,D k = true
theorem ClG.no {ops : Array Oper} {D : Nat→Bool} (h : ClG ops D) {i j : Nat} {o : Oper} (ho : ops[j]? = some o) (hk : (depsG o).elem i = true) (hi : D i = false) : D j = false:=by
 cases hj : D j with
 | false=>rfl
 | true=>
  have:=h j o hj ho i (List.mem_of_elem_eq_true hk)
  rw [hi] at this; cases this
def updG (ys : Nat→Value) (i : Nat) (v : Value) : Nat→Value:=fun j=>if j = i then v else ys j
def addG (D : Nat→Bool) (i : Nat) : Nat→Bool:=fun j=>if j = i then true else D j
def StepG (P : Program) (ops : Array Oper) (F : (Nat→Value)→Act) (Φ : List (World→Value→Prop)) (R : World→World→Prop) (G : (Nat→Bool)→(Nat→Value)→World→Prop) (Q : Exit→Act→World→Prop) (i : Nat) (o : Oper) : Prop:=
 ∀ (D : Nat→Bool) (ys : Nat→Value) (W : World) (K : Act→World→Prop),D i = false→ClG ops D→HasG Φ D W ys (depsG o)→G D ys W→
  (∀ v W',R W W'→G (addG D i) (updG ys i v) W'→phiG Φ i W' v→K (F (updG ys i v)) W')→if Region.wanted o (yielded ops (F ys).tmps) = true then Oper.wp P o (F ys) W K Q else K ((F ys).put o.dst undef) W
def StepsG (P : Program) (ops : Array Oper) (F : (Nat→Value)→Act) (Φ : List (World→Value→Prop)) (R : World→World→Prop) (G : (Nat→Bool)→(Nat→Value)→World→Prop) (Q : Exit→Act→World→Prop) : List Oper→Nat→Prop
 | [],_=>True
 | o::l,i=>StepG P ops F Φ R G Q i o∧StepsG P ops F Φ R G Q l (i + 1)
theorem StepsG.at {P : Program} {ops : Array Oper} {F : (Nat→Value)→Act} {Φ : List (World→Value→Prop)} {R : World→World→Prop} {G : (Nat→Bool)→(Nat→Value)→World→Prop} {Q : Exit→Act→World→Prop} : ∀ {l : List Oper} {k : Nat},StepsG P ops F Φ R G Q l k→∀ {i : Nat} {o : Oper},l[i]? = some o→StepG P ops F Φ R G Q (k + i) o
 | [],_,_,_,_,h=>by simp at h
 | p::l,k,hs,0,o,h=>by
  simp only [List.getElem?_cons_zero,Option.some.injEq] at h
  subst h; exact hs.1
 | p::l,k,hs,i + 1,o,h=>by
  simp only [List.getElem?_cons_succ] at h
  have:=hs.2.at h
  rwa [show k + (i + 1) = k + 1 + i by omega]
def backG (l : List Oper) : Bool:=l.zipIdx.all fun p=>(depsG p.1).all fun j=>decide (j < p.2)
theorem backG_of {l : List Oper} (h : backG l = true) {i : Nat} {o : Oper} (ho : l[i]? = some o) : ∀ j ∈ depsG o,j < i:=by
 intro j hj
 have h1:=List.all_eq_true.1 h (o,i) (by rw [List.mem_iff_getElem?]; exact ⟨i,by rw [List.getElem?_zipIdx,ho]; simp⟩)
 exact of_decide_eq_true (List.all_eq_true.1 h1 j hj)
theorem mem_readyG {ops : Array Oper} {listed : Array Bool} {i : Nat} : i ∈ Region.ready .any ops listed ↔ listed.getD i true = false∧∃ o,ops[i]? = some o∧∀ j ∈ depsG o,listed.getD j false = true:=by
 unfold Region.ready
 rw [List.mem_filter,List.mem_range]
 constructor
 ·rintro ⟨h1,h2⟩
  rw [Bool.and_eq_true,Bool.not_eq_true'] at h2
  refine ⟨h2.1,ops[i],by rw [Array.getElem?_eq_getElem h1],fun j hj=>?_⟩
  have h3:=h2.2
  rw [Array.getElem?_eq_getElem h1] at h3
  simp only [Option.map_some,Option.getD_some] at h3
  obtain ⟨e,he,rfl⟩:=List.mem_map.1 hj
  obtain ⟨he1,he2⟩:=List.mem_filter.1 he
  have h4:=Array.all_eq_true'.1 h3 e (by simpa using he1)
  rw [he2] at h4
  rw [Bool.not_true,Bool.false_or] at h4
  exact h4
 ·rintro ⟨h1,o,ho,h2⟩
  have hlt:=(Array.getElem?_eq_some_iff.1 ho).1
  refine ⟨hlt,?_⟩
  rw [Bool.and_eq_true,Bool.not_eq_true']
  refine ⟨h1,?_⟩
  rw [ho]
  simp only [Option.map_some,Option.getD_some]
  refine Array.all_eq_true'.2 fun e he=>?_
  cases hb : Region.binds .any e with
  | false=>rfl
  | true=>exact h2 e.on (List.mem_map.2 ⟨e,List.mem_filter.2 ⟨by simpa using he,hb⟩,rfl⟩)
theorem any_rg {P : Program} {l : List Oper} {F : (Nat→Value)→Act} {Φ : List (World→Value→Prop)} {R : World→World→Prop} {G : (Nat→Bool)→(Nat→Value)→World→Prop} {Q : Exit→Act→World→Prop}
  (hback : backG l = true) (hR : StabG R Φ) (hS : StepsG P l.toArray F Φ R G Q l 0)
  (hend : ∀ ys W,G (fun i=>decide (i < l.length)) ys W→(∀ i,i < l.length→phiG Φ i W (ys i))→Q .normal (F ys) W) (hGx : ∀ D D' ys W,(∀ i,i < l.length→D i = D' i)→G D ys W→G D' ys W) :
  ∀ (fuel : Nat) (listed : Array Bool) (D : Nat→Bool) (ys : Nat→Value) (W : World),listed.size = l.length→(∀ i,i < l.length→listed.getD i true = D i)→(∀ i,l.length ≤ i→D i = false)→(∀ i,D i = true→phiG Φ i W (ys i))→G D ys W→ClG l.toArray D→
   ((List.range l.length).filter fun i=>!D i).length = fuel→wpAny P .any l.toArray Q fuel listed (F ys) W:=by
 have all : ∀ {D : Nat→Bool},(∀ i,i < l.length→D i = true)→∀ {ys W},(∀ i,D i = true→phiG Φ i W (ys i))→G D ys W→Q .normal (F ys) W:=fun {D} h {ys W} h1 h2=>
  hend ys W (hGx _ _ _ _ (fun i hi=>by rw [h i hi,decide_eq_true hi]) h2) fun i hi=>h1 i (h i hi)
 have none : ∀ {listed : Array Bool} {D : Nat→Bool},(∀ i,i < l.length→listed.getD i true = D i)→listed.size = l.length→Region.ready .any l.toArray listed = []→∀ i,i < l.length→D i = true:=by
  intro listed D hl hsz hr i
  induction i using Nat.strongRecOn with
  | _ i ih=>
   intro hi
   cases hD : D i with
   | true=>rfl
   | false=>
    have ho : l[i]? = some l[i]:=List.getElem?_eq_getElem hi
    have : i ∈ Region.ready .any l.toArray listed:=mem_readyG.2 ⟨(hl i hi).trans hD,l[i],by simp,fun j hj=>by
     have hji:=backG_of hback ho j hj
     have h1:=(hl j (by omega)).trans (ih j hji (by omega))
     rw [Array.getD_eq_getD_getElem?,Array.getElem?_eq_getElem (by omega)] at h1 ⊢
     exact h1⟩
    rw [hr] at this; cases this
 intro fuel
 induction fuel with
 | zero=>
  intro listed D ys W hsz hl hlo hp hG hcl hf
  have hD : ∀ i,i < l.length→D i = true:=fun i hi=>by
   have h1:=List.length_eq_zero_iff.1 hf
   cases hD : D i with
   | true=>rfl
   | false=>
    have : i ∈ ((List.range l.length).filter fun i=>!D i):=List.mem_filter.2 ⟨List.mem_range.2 hi,by rw [hD]; rfl⟩
    rw [h1] at this; cases this
  refine ⟨?_,all hD hp hG⟩
  cases hr : Region.ready .any l.toArray listed with
  | nil=>rfl
  | cons i r=>
   obtain ⟨h1,o,ho,_⟩:=mem_readyG.1 (show i ∈ Region.ready .any l.toArray listed by rw [hr]; simp)
   have hi : i < l.length:=(Array.getElem?_eq_some_iff.1 ho).1
   rw [hl i hi,hD i hi] at h1; cases h1
 | succ fuel ih=>
  intro listed D ys W hsz hl hlo hp hG hcl hf
  refine ⟨fun hr=>all (none hl hsz hr) hp hG,fun i hi=>?_⟩
  obtain ⟨h1,o,ho,h2⟩:=mem_readyG.1 hi
  have hil : i < l.length:=(Array.getElem?_eq_some_iff.1 ho).1
  have ho' : l[i]? = some o:=by simpa using ho
  have hDi : D i = false:=(hl i hil).symm.trans h1
  have hst:=hS.at ho'
  rw [Nat.zero_add] at hst
  refine wpOp_step ho fun K hK=>hst D ys W K hDi hcl (HasG.of fun j hj=>?_) hG fun v W' hr hG' hv=>hK _ _ ?_
  ·have hji:=backG_of hback ho' j hj
   have h3:=h2 j hj
   have hDj : D j = true:=by
    rw [← hl j (by omega)]
    rw [Array.getD_eq_getD_getElem?,Array.getElem?_eq_getElem (by omega)] at h3 ⊢
    exact h3
   exact ⟨hDj,hp j hDj⟩
  ·refine ih _ (addG D i) (updG ys i v) W' (by simpa using hsz) (fun j hj=>?_) (fun j hj=>?_) (fun j hj=>?_) hG' (fun j oj hj hoj k hk=>?_) ?_
   ·unfold addG
    rw [Array.getD_eq_getD_getElem?,Array.getElem?_setIfInBounds]
    by_cases e : i = j
    ·subst e
     rw [if_pos rfl,if_pos rfl,if_pos (by omega)]; rfl
    ·rw [if_neg e,if_neg (fun h=>e h.symm),← hl j hj,Array.getD_eq_getD_getElem?]
   ·unfold addG
    rw [if_neg (by omega)]; exact hlo j hj
   ·unfold addG at hj
    unfold updG
    by_cases e : j = i
    ·subst e; rw [if_pos rfl]; exact hv
    ·rw [if_neg e] at hj ⊢
     exact hR.at j W W' _ (hp j hj) hr
   ·unfold addG at hj ⊢
    by_cases ek : k = i
    ·rw [if_pos ek]
    ·rw [if_neg ek]
     by_cases e : j = i
     ·subst e
      rw [ho] at hoj
      injection hoj with hoj
      subst hoj
      have hji:=backG_of hback ho' k hk
      have h3:=h2 k hk
      rw [← hl k (by omega)]
      rw [Array.getD_eq_getD_getElem?,Array.getElem?_eq_getElem (by omega)] at h3 ⊢
      exact h3
     ·rw [if_neg e] at hj
      exact hcl j oj hj hoj k hk
   ·have key : ∀ (m : List Nat),m.Nodup→i ∈ m→(m.filter fun j=>!addG D i j).length + 1 = (m.filter fun j=>!D j).length:=by
     intro m
     induction m with
     | nil=>intro _ h; cases h
     | cons a m ihm=>
      intro hn hm
      obtain ⟨hn1,hn2⟩:=List.nodup_cons.1 hn
      by_cases e : a = i
      ·subst e
       have h5 : ∀ j ∈ m,(!addG D a j) = !D j:=fun j hj=>by
        unfold addG
        rw [if_neg (fun e : j = a=>hn1 (by rw [← e]; exact hj))]
       rw [List.filter_cons,List.filter_cons,List.filter_congr h5]
       have h6 : (!addG D a a) = false:=by unfold addG; rw [if_pos rfl]; rfl
       rw [h6,hDi]
       simp
      ·have hm' : i ∈ m:=by
        rcases List.mem_cons.1 hm with h | h
        ·exact absurd h.symm e
        ·exact h
       have h5 : (!addG D i a) = !D a:=by unfold addG; rw [if_neg e]
       rw [List.filter_cons,List.filter_cons,h5]
       have:=ihm hn2 hm'
       split
       ·rw [List.length_cons,List.length_cons]; omega
       ·exact this
    have:=key (List.range l.length) List.nodup_range (List.mem_range.2 hil)
    omega
theorem wp_region_rg {P : Program} {id : Nat} {Q : Exit→Act→World→Prop} {w : World} {l : List Oper} (F : (Nat→Value)→Act) (Φ : List (World→Value→Prop)) (R : World→World→Prop) (G : (Nat→Bool)→(Nat→Value)→World→Prop) (ys : Nat→Value) (hm : P.follows .mixedOrders = true)
  (hback : backG l = true) (hR : StabG R Φ) (h0 : G (fun _=>false) ys (w.drewN 1)) (hGx : ∀ D D' ys W,(∀ i,i < l.length→D i = D' i)→G D ys W→G D' ys W) (hS : StepsG P l.toArray F Φ R G Q l 0)
  (hend : ∀ ys W,G (fun i=>decide (i < l.length)) ys W→(∀ i,i < l.length→phiG Φ i W (ys i))→Q .normal (F ys) W) :
  (Code.region id l.toArray true).wp P Q (F ys) w:=by
 refine wp_region_any hm ?_
 refine any_rg hback hR hS hend hGx _ _ (fun _=>false) ys _ (by simp) (fun i hi=>?_) (fun _ _=>rfl) (fun i hi=>by cases hi) h0 (fun j o hj=>by cases hj) ?_
 ·rw [Array.getD_eq_getD_getElem?,List.size_toArray,Array.getElem?_replicate,if_pos hi]; rfl
 ·have h1 : ((List.range l.length).filter fun _=>!false) = List.range l.length:=List.filter_eq_self.2 (fun _ _=>rfl)
  rw [h1,List.length_range,List.size_toArray]
end Go.Proofs.YtmikofeildnpdaaGreat
