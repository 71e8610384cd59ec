/- Texts of this claim, put together: Pb Wm Wc Wn Pd Sh Sa Sb. -/
import Derived.Test.YtmikofeildnpdaaGreatKYl
import Derived.Deep.LoopGhost
import Derived.Test.YtmikofeildnpdaaGreatKYg
import Derived.Test.YtmikofeildnpdaaGreatKYk
import Derived.Test.YtmikofeildnpdaaGreatKYj
import Derived.Test.YtmikofeildnpdaaGreatKYc
import Derived.Lib.Builder
import Derived.Lib.AppendStr
import Derived.Lib.UnsafeStr
import Derived.Lib.Strings
import Derived.Lib.Slices
import Derived.Lib.Walk
import Derived.Laws.Externs
import Derived.Laws.IdiomCopy
import Derived.Shelf.Strings.Builder1
import Derived.Test.YtmikofeildnpdaaGreatKYd
import Derived.Maps.Own
import Derived.Sort.LoopGhostIn
import Derived.OwnWalkIn
import Derived.TacticsInMore
import Derived.LoopNIn
import Derived.LoopIn
import Derived.Shelf.RegionOpen
import Derived.Ground.SlsfProg
import Derived.Ground.SlgmProg
import Derived.Shelf.SlSortCmp.WholeK
import Derived.Shelf.SlSortCmp.Whole1
import Derived.Shelf.SortM.Plain
import Derived.Test.YtmikofeildnpdaaGreatProg

set_option maxRecDepth 100000
set_option maxHeartbeats 12800000
/- What holds of the 153 permutations, looked up one by one. -/
namespace Go.Proofs.YtmikofeildnpdaaGreat
def permsAll:List (List Int):=[1,2,3,4,5].flatMap everyL
theorem mem_permsAll {a:List Int} (h:chk a=0):a∈permsAll:=by
 obtain ⟨⟨h1,h5⟩,hP⟩:=chk_iff.1 h
 rw [permsAll,List.mem_flatMap]
 exact ⟨a.length,by simp; omega,mem_everyL.2 hP⟩
theorem perm_all {p:List Int→Bool} (h:permsAll.all p=true) {a:List Int} (ha:chk a=0):p a=true:=List.all_eq_true.1 h a (mem_permsAll ha)
theorem img_same:permsAll.all (fun a=>(List.range 32).all (fun s=>decide (imgR a s a.length=imgP a s a.length)))=true:=by decide +kernel
end Go.Proofs.YtmikofeildnpdaaGreat

/- The walk of the reference's Closure. -/
namespace Go.Proofs.YtmikofeildnpdaaGreat
open Go.RowKit
theorem OII.open' {w:World} {B:Nat} {v:Value} {n:Nat} {xss:List (List Int)} (h:OII w B v n xss) :
  ∃ a c b,v = .slice a n c∧(0 < n→a=some ⟨b,0,none⟩)∧∀ j,j < n→∃ u,w.cell? ⟨b,j,none⟩=some u∧OI w 0 u (xss.getD j []).length (xss.getD j []):=by
 obtain ⟨vs,h1,h2,_,h3⟩:=h
 have hvl:vs.length=n:=by have:=h1.1; omega
 rcases h1.2 with ⟨rfl,rfl⟩ | ⟨g,cap,cur,rfl,_,h4,h5,h6,h7,h8⟩
 ·exact ⟨none,0,0,rfl,by simp,by simp⟩
 ·refine ⟨_,cap,g,rfl,fun _=>rfl,fun j hj=>⟨vs.getD j undef,?_,h3 j hj⟩⟩
  rw [cell_of_row w g j cur 25 (0,0) h4]
  have:(cur.toList.take (n * 1))[j]? = some (vs.getD j undef):=by rw [h8]; simp [show j < vs.length by omega]
  rw [List.getElem?_take,if_pos (by omega)] at this
  simpa using this
theorem clIn_step {y:List Int} {l g:List (List Int)} {k:Nat} (h:k < l.length) {a:List Int} (ha:l.getD k []=a) :
  clIn y (l.drop k) g=clIn y (l.drop (k+1)) (if timesL a y∈g then g else g ++ [timesL a y]):=by
 rw [drop_cons h [],clIn,ha]
theorem clIn_end {y:List Int} {l g:List (List Int)} {k:Nat} (h : ¬ k < l.length):clIn y (l.drop k) g=g:=by
 rw [List.drop_eq_nil_of_le (by omega),clIn]
theorem IsP.len5 {n:Nat} (hn:n≤5) {g:List (List Int)} (h:InvG n g):∀ x∈g,x.length≤17592186044416:=fun x hx=>by have:=(h.2 x hx).1; omega
end Go.Proofs.YtmikofeildnpdaaGreat

/- The walks of Few, List, right. -/
namespace Go.Proofs.YtmikofeildnpdaaGreat
open Go.RowKit
theorem chkAll_step {n:Int} {l:List (List Int)} {k:Nat} (h:k < l.length) {x:List Int} (hx:l.getD k []=x) :
  chkAll n (l.drop k)=if chk x ≠ 0 then chk x else if (x.length:Int) ≠ n then 22 else chkAll n (l.drop (k+1)):=by
 rw [drop_cons h [],chkAll,hx]
theorem chkAll_end {n:Int} {l:List (List Int)} {k:Nat} (h : ¬ k < l.length):chkAll n (l.drop k)=0:=by
 rw [List.drop_eq_nil_of_le (by omega),chkAll]
theorem chkAll_1 {n:Int} {l:List (List Int)} {k:Nat} (h:k < l.length) {x:List Int} (hx:l.getD k []=x) {m:Nat} (hm:x.length=m) (hz:chk x=0) (hn:(m:Int)=n) :
  chkAll n (l.drop k)=chkAll n (l.drop (k+1)):=by rw [chkAll_step h hx,if_neg (fun h=>h hz),if_neg (fun h=>h (by rw [hm]; exact hn))]
theorem chkAll_2 {n:Int} {l:List (List Int)} {k:Nat} (h:k < l.length) {x:List Int} (hx:l.getD k []=x) {m:Nat} (hm:x.length=m) (hz:chk x=0) (hn : ¬ (m:Int)=n) :
  chkAll n (l.drop k)=22:=by rw [chkAll_step h hx,if_neg (fun h=>h hz),if_pos (by rw [hm]; exact hn)]
theorem chkAll_3 {n:Int} {l:List (List Int)} {k:Nat} (h:k < l.length) {x:List Int} (hx:l.getD k []=x) (hz : ¬ chk x=0) :
  chkAll n (l.drop k)=chk x:=by rw [chkAll_step h hx,if_pos hz]
end Go.Proofs.YtmikofeildnpdaaGreat

/- The walks of the reference's Generate, Format, Parse. -/
namespace Go.Proofs.YtmikofeildnpdaaGreat
open Go.RowKit
def closL (n:Nat) (l:List (List Int)):List (List Int):=(clGo l 3126 0 [oneL n]).getD []
def genR (n:Int) (l:List (List Int)):List (List Int):=if chkList n l=0 then (everyL n.toNat).filter (fun x=>decide (x∈closL n.toNat l)) else []
theorem chkAll_ok {n:Int}:∀ {l:List (List Int)},chkAll n l=0→∀ a∈l,chk a=0∧(a.length:Int)=n
 | [],_=>by simp
 | a::r,h=>by
  rw [chkAll] at h
  by_cases h1:chk a=0
  ·rw [if_neg (fun h=>h h1)] at h
   by_cases h2:(a.length:Int)=n
   ·rw [if_neg (fun h=>h h2)] at h
    intro b hb
    rcases List.mem_cons.1 hb with rfl | hb
    ·exact ⟨h1,h2⟩
    ·exact chkAll_ok h b hb
   ·rw [if_pos h2] at h; cases h
  ·rw [if_pos h1] at h; exact absurd h h1
theorem chkList_ok {n:Int} {l:List (List Int)} (h:chkList n l=0):(1≤n∧n≤5)∧l.length≤1024∧∀ a∈l,IsP n.toNat a:=by
 unfold chkList at h
 by_cases h1:n < 1∨5 < n
 ·rw [if_pos h1] at h; cases h
 ·rw [if_neg h1] at h
  by_cases h2:1024 < l.length
  ·rw [if_pos h2] at h; cases h
  ·rw [if_neg h2] at h
   refine ⟨by omega,by omega,fun a ha=>?_⟩
   obtain ⟨k1,k2⟩:=chkAll_ok h a ha
   have:=(chk_iff.1 k1).2
   rwa [show a.length=n.toNat by omega] at this
def RS (w:World) (x:ByteArray) (y:Int) (e:Ending) (w':World):Prop:=e = .returned (.tuple #[.string x,.int .i64 y])∧Below w.heap.size w w'
end Go.Proofs.YtmikofeildnpdaaGreat

/- Sorted lists of permutations. -/
namespace Go.Proofs.YtmikofeildnpdaaGreat
theorem every_sorted:∀ n,n≤5→(everyL n).Pairwise (fun a b=>cmpL a b < 0):=by
 intro n hn
 have:n=0∨n=1∨n=2∨n=3∨n=4∨n=5:=by omega
 rcases this with rfl | rfl | rfl | rfl | rfl | rfl <;> decide +kernel
theorem group_sorted {n:Nat} (hn:n≤5) {G l:List (List Int)} (hG:∀ y∈G,IsP n y) (hl:l.Pairwise (fun a b=>¬ cmpL b a < 0)) (hnd:l.Nodup) (hm:∀ x,x∈l↔x∈G) :
  l=(everyL n).filter (fun x=>decide (x∈G)):=by
 refine sorted_unique (lt:=fun a b=>cmpL a b < 0) cmpL_asymm ?_ ((every_sorted n hn).filter _) fun x=>?_
 ·refine (hl.and hnd).imp fun {a b} h=>?_
  rcases cmpL_total a b with h1 | h1 | h1
  ·exact h1
  ·exact absurd h1 h.2
  ·exact absurd h1 h.1
 ·rw [hm,List.mem_filter]
  constructor
  ·intro h; exact ⟨mem_everyL.2 (hG x h),by simpa using h⟩
  ·intro h; simpa using h.2
end Go.Proofs.YtmikofeildnpdaaGreat

/-
  DERIVED: THE SHELF's CONTRACTS AT THIS DUMP, IN PLAIN WORDS (tools/lay-plain.mjs out of 'YtmikofeildnpdaaGreatShScratch.lean', which tools/lay-shelf.mjs wrote): THE SAME DECLARATIONS UNDER THE SAME NAMES: 'import', 'namespace', 'open', 'def', 'theorem' AND NOTHING ELSE: no command of the shelf's: FOR A HAND-IN. Each laying: the table of numbers ('.._ren') and one theorem, a field a fact of the dump's own or the kernel's comparison; each contract: ONE APPLICATION.
-/
namespace Go.Proofs
open Go.Shelf
def Tryz.sortMv_ren : Go.Shelf.Ren := ⟨fun | 6 => 99 | 15 => 108 | 14 => 134 | 28 => 153 | 29 => 154 | 20 => 182 | 21 => 183 | 22 => 184 | 23 => 185 | 24 => 186 | 25 => 187 | 26 => 188 | 27 => 189 | 46 => 211 | 47 => 192 | 48 => 193 | 49 => 212 | 50 => 213 | 57 => 224 | n => n, fun | 22 => 98 | 24 => 100 | 25 => 155 | 3 => 3 | 39 => 162 | 0 => 0 | 53 => 206 | 55 => 208 | 4 => 4 | 46 => 200 | 45 => 199 | 50 => 188 | 5 => 5 | 9 => 9 | 66 => 231 | 70 => 235 | 76 => 252 | 77 => 253 | n => n, fun | n => n⟩
theorem Tryz.sortMv : Go.Proofs.SlLaysF0.n6 Tryz.prog Tryz.sortMv_ren := {
  mixed := by kernel_rfl
  f6 := ⟨Tryz.f99.name, by decide, Tryz.func99.trans (congrArg some (by kernel_rfl))⟩
  f14 := ⟨Tryz.f134.name, by decide, Tryz.func134.trans (congrArg some (by kernel_rfl))⟩
  f15 := Tryz.func108.trans (congrArg some (by kernel_rfl))
  f20 := ⟨Tryz.f182.name, by decide, Tryz.func182.trans (congrArg some (by kernel_rfl))⟩
  f21 := ⟨Tryz.f183.name, by decide, Tryz.func183.trans (congrArg some (by kernel_rfl))⟩
  f22 := ⟨Tryz.f184.name, by decide, Tryz.func184.trans (congrArg some (by kernel_rfl))⟩
  f23 := ⟨Tryz.f185.name, by decide, Tryz.func185.trans (congrArg some (by kernel_rfl))⟩
  f24 := ⟨Tryz.f186.name, by decide, Tryz.func186.trans (congrArg some (by kernel_rfl))⟩
  f25 := ⟨Tryz.f187.name, by decide, Tryz.func187.trans (congrArg some (by kernel_rfl))⟩
  f26 := ⟨Tryz.f188.name, by decide, Tryz.func188.trans (congrArg some (by kernel_rfl))⟩
  f27 := ⟨Tryz.f189.name, by decide, Tryz.func189.trans (congrArg some (by kernel_rfl))⟩
  f28 := Tryz.func153.trans (congrArg some (by kernel_rfl))
  f29 := Tryz.func154.trans (congrArg some (by kernel_rfl))
  f46 := ⟨Tryz.f211.name, by decide, Tryz.func211.trans (congrArg some (by kernel_rfl))⟩
  f47 := Tryz.func192.trans (congrArg some (by kernel_rfl))
  f48 := Tryz.func193.trans (congrArg some (by kernel_rfl))
  f49 := ⟨Tryz.f212.name, by decide, Tryz.func212.trans (congrArg some (by kernel_rfl))⟩
  f50 := ⟨Tryz.f213.name, by decide, Tryz.func213.trans (congrArg some (by kernel_rfl))⟩
  f57 := ⟨Tryz.f224.name, by decide, Tryz.func224.trans (congrArg some (by kernel_rfl))⟩
  t0 := Tryz.underlying0
  a0 := Tryz.isAgg0
  z0 := Tryz.sizeOf0
  v0 := Tryz.zeroValue0
  t3 := Tryz.underlying3
  a3 := Tryz.isAgg3
  z3 := Tryz.sizeOf3
  v3 := Tryz.zeroValue3
  t4 := Tryz.underlying4
  a4 := Tryz.isAgg4
  z4 := Tryz.sizeOf4
  v4 := Tryz.zeroValue4
  t5 := Tryz.underlying5
  a5 := Tryz.isAgg5
  z5 := Tryz.sizeOf5
  v5 := Tryz.zeroValue5
  t9 := Tryz.underlying9
  a9 := Tryz.isAgg9
  z9 := Tryz.sizeOf9
  v9 := Tryz.zeroValue9
  t22 := Tryz.underlying98
  a22 := Tryz.isAgg98
  z22 := Tryz.sizeOf98
  v22 := Tryz.zeroValue98
  t25 := Tryz.underlying155
  a25 := Tryz.isAgg155
  z25 := Tryz.sizeOf155
  v25 := Tryz.zeroValue155
  t39 := Tryz.underlying162
  a39 := Tryz.isAgg162
  z39 := Tryz.sizeOf162
  v39 := Tryz.zeroValue162
  t45 := Tryz.underlying199
  a45 := Tryz.isAgg199
  z45 := Tryz.sizeOf199
  v45 := Tryz.zeroValue199
  t46 := Tryz.underlying200
  a46 := Tryz.isAgg200
  z46 := Tryz.sizeOf200
  v46 := Tryz.zeroValue200
  t50 := Tryz.underlying188
  a50 := Tryz.isAgg188
  z50 := Tryz.sizeOf188
  v50 := Tryz.zeroValue188
  t53 := Tryz.underlying206
  a53 := Tryz.isAgg206
  z53 := Tryz.sizeOf206
  v53 := Tryz.zeroValue206
  t55 := Tryz.underlying208
  a55 := Tryz.isAgg208
  z55 := Tryz.sizeOf208
  v55 := Tryz.zeroValue208
  t66 := Tryz.underlying231
  a66 := Tryz.isAgg231
  z66 := Tryz.sizeOf231
  v66 := Tryz.zeroValue231
  t70 := Tryz.underlying235
  a70 := Tryz.isAgg235
  z70 := Tryz.sizeOf235
  v70 := Tryz.zeroValue235
  t76 := Tryz.underlying252
  a76 := Tryz.isAgg252
  z76 := Tryz.sizeOf252
  v76 := Tryz.zeroValue252
  t77 := Tryz.underlying253
  a77 := Tryz.isAgg253
  z77 := Tryz.sizeOf253
  v77 := Tryz.zeroValue253 }
def Tryz.sortCs_ren : Go.Shelf.Ren := ⟨fun | 6 => 115 | 15 => 108 | 14 => 167 | 28 => 153 | 29 => 154 | 20 => 203 | 21 => 204 | 22 => 205 | 23 => 206 | 24 => 207 | 25 => 208 | 26 => 209 | 27 => 210 | 46 => 221 | 47 => 192 | 48 => 193 | 49 => 222 | 50 => 223 | 57 => 225 | n => n, fun | 22 => 62 | 24 => 128 | 25 => 170 | 3 => 3 | 39 => 162 | 0 => 0 | 53 => 206 | 55 => 208 | 4 => 4 | 46 => 200 | 45 => 199 | 50 => 188 | 5 => 5 | 9 => 9 | 66 => 231 | 70 => 235 | 76 => 252 | 77 => 253 | n => n, fun | n => n⟩
theorem Tryz.sortCs : Go.Proofs.SlLaysF0.n6 Tryz.prog Tryz.sortCs_ren := {
  mixed := by kernel_rfl
  f6 := ⟨Tryz.f115.name, by decide, Tryz.func115.trans (congrArg some (by kernel_rfl))⟩
  f14 := ⟨Tryz.f167.name, by decide, Tryz.func167.trans (congrArg some (by kernel_rfl))⟩
  f15 := Tryz.func108.trans (congrArg some (by kernel_rfl))
  f20 := ⟨Tryz.f203.name, by decide, Tryz.func203.trans (congrArg some (by kernel_rfl))⟩
  f21 := ⟨Tryz.f204.name, by decide, Tryz.func204.trans (congrArg some (by kernel_rfl))⟩
  f22 := ⟨Tryz.f205.name, by decide, Tryz.func205.trans (congrArg some (by kernel_rfl))⟩
  f23 := ⟨Tryz.f206.name, by decide, Tryz.func206.trans (congrArg some (by kernel_rfl))⟩
  f24 := ⟨Tryz.f207.name, by decide, Tryz.func207.trans (congrArg some (by kernel_rfl))⟩
  f25 := ⟨Tryz.f208.name, by decide, Tryz.func208.trans (congrArg some (by kernel_rfl))⟩
  f26 := ⟨Tryz.f209.name, by decide, Tryz.func209.trans (congrArg some (by kernel_rfl))⟩
  f27 := ⟨Tryz.f210.name, by decide, Tryz.func210.trans (congrArg some (by kernel_rfl))⟩
  f28 := Tryz.func153.trans (congrArg some (by kernel_rfl))
  f29 := Tryz.func154.trans (congrArg some (by kernel_rfl))
  f46 := ⟨Tryz.f221.name, by decide, Tryz.func221.trans (congrArg some (by kernel_rfl))⟩
  f47 := Tryz.func192.trans (congrArg some (by kernel_rfl))
  f48 := Tryz.func193.trans (congrArg some (by kernel_rfl))
  f49 := ⟨Tryz.f222.name, by decide, Tryz.func222.trans (congrArg some (by kernel_rfl))⟩
  f50 := ⟨Tryz.f223.name, by decide, Tryz.func223.trans (congrArg some (by kernel_rfl))⟩
  f57 := ⟨Tryz.f225.name, by decide, Tryz.func225.trans (congrArg some (by kernel_rfl))⟩
  t0 := Tryz.underlying0
  a0 := Tryz.isAgg0
  z0 := Tryz.sizeOf0
  v0 := Tryz.zeroValue0
  t3 := Tryz.underlying3
  a3 := Tryz.isAgg3
  z3 := Tryz.sizeOf3
  v3 := Tryz.zeroValue3
  t4 := Tryz.underlying4
  a4 := Tryz.isAgg4
  z4 := Tryz.sizeOf4
  v4 := Tryz.zeroValue4
  t5 := Tryz.underlying5
  a5 := Tryz.isAgg5
  z5 := Tryz.sizeOf5
  v5 := Tryz.zeroValue5
  t9 := Tryz.underlying9
  a9 := Tryz.isAgg9
  z9 := Tryz.sizeOf9
  v9 := Tryz.zeroValue9
  t22 := Tryz.underlying62
  a22 := Tryz.isAgg62
  z22 := Tryz.sizeOf62
  v22 := Tryz.zeroValue62
  t25 := Tryz.underlying170
  a25 := Tryz.isAgg170
  z25 := Tryz.sizeOf170
  v25 := Tryz.zeroValue170
  t39 := Tryz.underlying162
  a39 := Tryz.isAgg162
  z39 := Tryz.sizeOf162
  v39 := Tryz.zeroValue162
  t45 := Tryz.underlying199
  a45 := Tryz.isAgg199
  z45 := Tryz.sizeOf199
  v45 := Tryz.zeroValue199
  t46 := Tryz.underlying200
  a46 := Tryz.isAgg200
  z46 := Tryz.sizeOf200
  v46 := Tryz.zeroValue200
  t50 := Tryz.underlying188
  a50 := Tryz.isAgg188
  z50 := Tryz.sizeOf188
  v50 := Tryz.zeroValue188
  t53 := Tryz.underlying206
  a53 := Tryz.isAgg206
  z53 := Tryz.sizeOf206
  v53 := Tryz.zeroValue206
  t55 := Tryz.underlying208
  a55 := Tryz.isAgg208
  z55 := Tryz.sizeOf208
  v55 := Tryz.zeroValue208
  t66 := Tryz.underlying231
  a66 := Tryz.isAgg231
  z66 := Tryz.sizeOf231
  v66 := Tryz.zeroValue231
  t70 := Tryz.underlying235
  a70 := Tryz.isAgg235
  z70 := Tryz.sizeOf235
  v70 := Tryz.zeroValue235
  t76 := Tryz.underlying252
  a76 := Tryz.isAgg252
  z76 := Tryz.sizeOf252
  v76 := Tryz.zeroValue252
  t77 := Tryz.underlying253
  a77 := Tryz.isAgg253
  z77 := Tryz.sizeOf253
  v77 := Tryz.zeroValue253 }
def Tryz.sortI_ren : Go.Shelf.Ren := ⟨fun | 5 => 61 | 8 => 108 | 7 => 107 | 19 => 153 | 20 => 154 | 10 => 144 | 11 => 145 | 12 => 146 | 13 => 147 | 14 => 148 | 15 => 149 | 16 => 150 | 17 => 151 | 18 => 152 | 30 => 191 | 31 => 192 | 32 => 193 | 33 => 194 | 34 => 195 | 35 => 163 | 40 => 217 | n => n, fun | 23 => 25 | 25 => 3 | 3 => 3 | 32 => 162 | 22 => 25 | 0 => 0 | 44 => 206 | 46 => 208 | 4 => 4 | 36 => 200 | 35 => 199 | 41 => 188 | 5 => 5 | 9 => 9 | 53 => 231 | 57 => 235 | 63 => 252 | 64 => 253 | n => n, fun | n => n⟩
theorem Tryz.sortI : Go.Proofs.SlLaysM.n5 Tryz.prog Tryz.sortI_ren := {
  mixed := by kernel_rfl
  f5 := ⟨Tryz.f61.name, by decide, Tryz.func61.trans (congrArg some (by kernel_rfl))⟩
  f7 := ⟨Tryz.f107.name, by decide, Tryz.func107.trans (congrArg some (by kernel_rfl))⟩
  f8 := Tryz.func108.trans (congrArg some (by kernel_rfl))
  f10 := ⟨Tryz.f144.name, by decide, Tryz.func144.trans (congrArg some (by kernel_rfl))⟩
  f11 := ⟨Tryz.f145.name, by decide, Tryz.func145.trans (congrArg some (by kernel_rfl))⟩
  f12 := ⟨Tryz.f146.name, by decide, Tryz.func146.trans (congrArg some (by kernel_rfl))⟩
  f13 := ⟨Tryz.f147.name, by decide, Tryz.func147.trans (congrArg some (by kernel_rfl))⟩
  f14 := ⟨Tryz.f148.name, by decide, Tryz.func148.trans (congrArg some (by kernel_rfl))⟩
  f15 := ⟨Tryz.f149.name, by decide, Tryz.func149.trans (congrArg some (by kernel_rfl))⟩
  f16 := ⟨Tryz.f150.name, by decide, Tryz.func150.trans (congrArg some (by kernel_rfl))⟩
  f17 := ⟨Tryz.f151.name, by decide, Tryz.func151.trans (congrArg some (by kernel_rfl))⟩
  f18 := ⟨Tryz.f152.name, by decide, Tryz.func152.trans (congrArg some (by kernel_rfl))⟩
  f19 := Tryz.func153.trans (congrArg some (by kernel_rfl))
  f20 := Tryz.func154.trans (congrArg some (by kernel_rfl))
  f30 := ⟨Tryz.f191.name, by decide, Tryz.func191.trans (congrArg some (by kernel_rfl))⟩
  f31 := Tryz.func192.trans (congrArg some (by kernel_rfl))
  f32 := Tryz.func193.trans (congrArg some (by kernel_rfl))
  f33 := ⟨Tryz.f194.name, by decide, Tryz.func194.trans (congrArg some (by kernel_rfl))⟩
  f34 := ⟨Tryz.f195.name, by decide, Tryz.func195.trans (congrArg some (by kernel_rfl))⟩
  f35 := ⟨Tryz.f163.name, by decide, Tryz.func163.trans (congrArg some (by kernel_rfl))⟩
  f40 := ⟨Tryz.f217.name, by decide, Tryz.func217.trans (congrArg some (by kernel_rfl))⟩
  t0 := Tryz.underlying0
  a0 := Tryz.isAgg0
  z0 := Tryz.sizeOf0
  v0 := Tryz.zeroValue0
  t3 := Tryz.underlying3
  a3 := Tryz.isAgg3
  z3 := Tryz.sizeOf3
  v3 := Tryz.zeroValue3
  t4 := Tryz.underlying4
  a4 := Tryz.isAgg4
  z4 := Tryz.sizeOf4
  v4 := Tryz.zeroValue4
  t5 := Tryz.underlying5
  a5 := Tryz.isAgg5
  z5 := Tryz.sizeOf5
  v5 := Tryz.zeroValue5
  t9 := Tryz.underlying9
  a9 := Tryz.isAgg9
  z9 := Tryz.sizeOf9
  v9 := Tryz.zeroValue9
  t22 := Tryz.underlying25
  a22 := Tryz.isAgg25
  z22 := Tryz.sizeOf25
  v22 := Tryz.zeroValue25
  t23 := Tryz.underlying25
  a23 := Tryz.isAgg25
  z23 := Tryz.sizeOf25
  v23 := Tryz.zeroValue25
  t25 := Tryz.underlying3
  a25 := Tryz.isAgg3
  z25 := Tryz.sizeOf3
  v25 := Tryz.zeroValue3
  t32 := Tryz.underlying162
  a32 := Tryz.isAgg162
  z32 := Tryz.sizeOf162
  v32 := Tryz.zeroValue162
  t35 := Tryz.underlying199
  a35 := Tryz.isAgg199
  z35 := Tryz.sizeOf199
  v35 := Tryz.zeroValue199
  t36 := Tryz.underlying200
  a36 := Tryz.isAgg200
  z36 := Tryz.sizeOf200
  v36 := Tryz.zeroValue200
  t41 := Tryz.underlying188
  a41 := Tryz.isAgg188
  z41 := Tryz.sizeOf188
  v41 := Tryz.zeroValue188
  t44 := Tryz.underlying206
  a44 := Tryz.isAgg206
  z44 := Tryz.sizeOf206
  v44 := Tryz.zeroValue206
  t46 := Tryz.underlying208
  a46 := Tryz.isAgg208
  z46 := Tryz.sizeOf208
  v46 := Tryz.zeroValue208
  t53 := Tryz.underlying231
  a53 := Tryz.isAgg231
  z53 := Tryz.sizeOf231
  v53 := Tryz.zeroValue231
  t57 := Tryz.underlying235
  a57 := Tryz.isAgg235
  z57 := Tryz.sizeOf235
  v57 := Tryz.zeroValue235
  t63 := Tryz.underlying252
  a63 := Tryz.isAgg252
  z63 := Tryz.sizeOf252
  v63 := Tryz.zeroValue252
  t64 := Tryz.underlying253
  a64 := Tryz.isAgg253
  z64 := Tryz.sizeOf253
  v64 := Tryz.zeroValue253 }
def Tryz.sortII_ren : Go.Shelf.Ren := ⟨fun | 6 => 69 | 15 => 108 | 14 => 110 | 28 => 153 | 29 => 154 | 20 => 155 | 21 => 156 | 22 => 157 | 23 => 158 | 24 => 159 | 25 => 160 | 26 => 161 | 27 => 162 | 46 => 196 | 47 => 192 | 48 => 193 | 49 => 197 | 50 => 198 | 57 => 218 | n => n, fun | 22 => 39 | 24 => 25 | 25 => 116 | 3 => 3 | 39 => 162 | 0 => 0 | 53 => 206 | 55 => 208 | 4 => 4 | 46 => 200 | 45 => 199 | 50 => 188 | 5 => 5 | 9 => 9 | 66 => 231 | 70 => 235 | 76 => 252 | 77 => 253 | n => n, fun | n => n⟩
theorem Tryz.sortII : Go.Proofs.SlLaysF.n6 Tryz.prog Tryz.sortII_ren := {
  mixed := by kernel_rfl
  f6 := ⟨Tryz.f69.name, by decide, Tryz.func69.trans (congrArg some (by kernel_rfl))⟩
  f14 := ⟨Tryz.f110.name, by decide, Tryz.func110.trans (congrArg some (by kernel_rfl))⟩
  f15 := Tryz.func108.trans (congrArg some (by kernel_rfl))
  f20 := ⟨Tryz.f155.name, by decide, Tryz.func155.trans (congrArg some (by kernel_rfl))⟩
  f21 := ⟨Tryz.f156.name, by decide, Tryz.func156.trans (congrArg some (by kernel_rfl))⟩
  f22 := ⟨Tryz.f157.name, by decide, Tryz.func157.trans (congrArg some (by kernel_rfl))⟩
  f23 := ⟨Tryz.f158.name, by decide, Tryz.func158.trans (congrArg some (by kernel_rfl))⟩
  f24 := ⟨Tryz.f159.name, by decide, Tryz.func159.trans (congrArg some (by kernel_rfl))⟩
  f25 := ⟨Tryz.f160.name, by decide, Tryz.func160.trans (congrArg some (by kernel_rfl))⟩
  f26 := ⟨Tryz.f161.name, by decide, Tryz.func161.trans (congrArg some (by kernel_rfl))⟩
  f27 := ⟨Tryz.f162.name, by decide, Tryz.func162.trans (congrArg some (by kernel_rfl))⟩
  f28 := Tryz.func153.trans (congrArg some (by kernel_rfl))
  f29 := Tryz.func154.trans (congrArg some (by kernel_rfl))
  f46 := ⟨Tryz.f196.name, by decide, Tryz.func196.trans (congrArg some (by kernel_rfl))⟩
  f47 := Tryz.func192.trans (congrArg some (by kernel_rfl))
  f48 := Tryz.func193.trans (congrArg some (by kernel_rfl))
  f49 := ⟨Tryz.f197.name, by decide, Tryz.func197.trans (congrArg some (by kernel_rfl))⟩
  f50 := ⟨Tryz.f198.name, by decide, Tryz.func198.trans (congrArg some (by kernel_rfl))⟩
  f57 := ⟨Tryz.f218.name, by decide, Tryz.func218.trans (congrArg some (by kernel_rfl))⟩
  t0 := Tryz.underlying0
  a0 := Tryz.isAgg0
  z0 := Tryz.sizeOf0
  v0 := Tryz.zeroValue0
  t3 := Tryz.underlying3
  a3 := Tryz.isAgg3
  z3 := Tryz.sizeOf3
  v3 := Tryz.zeroValue3
  t4 := Tryz.underlying4
  a4 := Tryz.isAgg4
  z4 := Tryz.sizeOf4
  v4 := Tryz.zeroValue4
  t5 := Tryz.underlying5
  a5 := Tryz.isAgg5
  z5 := Tryz.sizeOf5
  v5 := Tryz.zeroValue5
  t9 := Tryz.underlying9
  a9 := Tryz.isAgg9
  z9 := Tryz.sizeOf9
  v9 := Tryz.zeroValue9
  t22 := Tryz.underlying39
  a22 := Tryz.isAgg39
  z22 := Tryz.sizeOf39
  v22 := Tryz.zeroValue39
  a24 := Tryz.isAgg25
  z24 := Tryz.sizeOf25
  t25 := Tryz.underlying116
  a25 := Tryz.isAgg116
  z25 := Tryz.sizeOf116
  v25 := Tryz.zeroValue116
  t39 := Tryz.underlying162
  a39 := Tryz.isAgg162
  z39 := Tryz.sizeOf162
  v39 := Tryz.zeroValue162
  t45 := Tryz.underlying199
  a45 := Tryz.isAgg199
  z45 := Tryz.sizeOf199
  v45 := Tryz.zeroValue199
  t46 := Tryz.underlying200
  a46 := Tryz.isAgg200
  z46 := Tryz.sizeOf200
  v46 := Tryz.zeroValue200
  t50 := Tryz.underlying188
  a50 := Tryz.isAgg188
  z50 := Tryz.sizeOf188
  v50 := Tryz.zeroValue188
  t53 := Tryz.underlying206
  a53 := Tryz.isAgg206
  z53 := Tryz.sizeOf206
  v53 := Tryz.zeroValue206
  t55 := Tryz.underlying208
  a55 := Tryz.isAgg208
  z55 := Tryz.sizeOf208
  v55 := Tryz.zeroValue208
  t66 := Tryz.underlying231
  a66 := Tryz.isAgg231
  z66 := Tryz.sizeOf231
  v66 := Tryz.zeroValue231
  t70 := Tryz.underlying235
  a70 := Tryz.isAgg235
  z70 := Tryz.sizeOf235
  v70 := Tryz.zeroValue235
  t76 := Tryz.underlying252
  a76 := Tryz.isAgg252
  z76 := Tryz.sizeOf252
  v76 := Tryz.zeroValue252
  t77 := Tryz.underlying253
  a77 := Tryz.isAgg253
  z77 := Tryz.sizeOf253
  v77 := Tryz.zeroValue253 }
end Go.Proofs

/- slices.SortFunc over rows of ints, by slices.Compare. -/
namespace Go.Proofs.YtmikofeildnpdaaGreat
open Go.Shelf Go.RowKit Go.Lib Go.Sort
def Elt (w:World) (blk:Nat):Type:={ p:Value × List Int // OI w 0 p.1 p.2.length p.2∧p.2.length≤17592186044416∧∀ g,p.1.ownBlock=some g→g ≠ blk }
def Elt.enc {w:World} {blk:Nat} (x:Elt w blk):Value:=x.1.1
def Elt.cf {w:World} {blk:Nat} (x y:Elt w blk):Int:=cmpL x.1.2 y.1.2
theorem Elt.one {w:World} {blk:Nat}:OneCell (Elt.enc (w:=w) (blk:=blk)):=fun x=>oneCell_slice x.2.1
theorem Elt.swo {w:World} {blk:Nat}:SWO (ltOf (Elt.cf (w:=w) (blk:=blk))) where
 irrefl _x:=decide_eq_false fun h=>cmpL_asymm _ _ h h
 trans _x _y _z h1 h2:=decide_eq_true (cmpL_trans _ _ _ (of_decide_eq_true h1) (of_decide_eq_true h2))
 ntrans _x _y _z h1 h2:=decide_eq_false (cmpL_ntrans _ _ _ (of_decide_eq_false h1) (of_decide_eq_false h2))
theorem heap_sortWorld_other02 {α:Type} [Inhabited α] {enc:α→Value} {w:World} {blk k:Nat} (off n:Nat) (d:Array α) (os:Array Obj) (hne:k ≠ blk) (hk:k < w.heap.size):(sortWorld enc w blk off n d os).heap[k]? = w.heap[k]?:=by
 simp only [sortWorld,grow,putRow,mapBlock,Sort.ahead]
 rw [Array.getElem?_append_left (by simpa using hk),Array.getElem?_modify,if_neg (fun h=>hne h.symm)]
theorem heap_sortWorld_same02 {α:Type} [Inhabited α] {enc:α→Value} {w:World} {blk:Nat} (off n:Nat) (d:Array α) (os:Array Obj) {cs:Array Value} {t:TypeId} {fz:Nat × Nat} (h:w.heap[blk]? = some (.cells cs t fz)):(sortWorld enc w blk off n d os).heap[blk]? = some (.cells (putCells enc off d cs) t fz):=by
 simp only [sortWorld,grow,putRow,mapBlock,Sort.ahead]
 rw [Array.getElem?_append_left (by simpa using (Array.getElem?_eq_some_iff.1 h).1),Array.getElem?_modify,if_pos rfl,h]
 rfl
theorem Elt.reads {w:World} {blk off size:Nat} [Inhabited (Elt w blk)]:CmpReads Tryz.prog 70 #[] (Elt.enc (w:=w) (blk:=blk)) Elt.cf blk off size w:=by
 intro m os dk hs x y
 have key:∀ z:Elt w blk,Ints (sortWorld Elt.enc w blk off m dk os) z.1.1 z.1.2:=by
  rintro ⟨⟨v,l⟩,hO,hl,hz⟩
  simp only at hO hl hz
  have hI:=hO.ints hl
  rcases hO.2 with ⟨rfl,h0⟩ | ⟨g,cap,cur,rfl,_,h3,_⟩
  ·have:l = []:=List.length_eq_zero_iff.1 h0
   subst this
   exact Ints.nil _ _ _
  ·obtain ⟨a,c,b,o,he,ha,hc,hl⟩:=hI
   refine ⟨a,c,b,o,he,ha,fun j hj=>?_,hl⟩
   obtain rfl:=ha (by simp only at hj; omega)
   injection he with he
   injection he with he
   injection he with he1 he2
   subst he1
   rw [World.cell?_of_block (w:=w) (heap_sortWorld_other02 _ _ _ _ (hz g rfl) ((Array.getElem?_eq_some_iff.1 h3).1))]
   exact hc j hj
 exact (slCompare (key x) (key y)).mono fun _ _ ⟨he,q,hq⟩=>⟨he,q,hq⟩
theorem sortRows {w:World} (blk off cap:Nat) [Inhabited (Elt w blk)] (d:Array (Elt w blk)) (hH:Holds Elt.enc w blk off d) (hblk:blk < w.heap.size) (hsz:d.size < 4611686018427387904) :
  Calls Tryz.prog 69 #[.slice (some ⟨blk,off,none⟩) d.size cap,.func (.func 70) #[] #[]] w fun e w'=>e = .returned (.tuple #[])∧∃ d' n os,PermIn 0 d.size d d'∧SortedIn (ltOf Elt.cf) 0 d.size d'∧w'=sortWorld Elt.enc w blk off n d' os:=
 Any.slices_SortFunc Tryz.sortII Elt.enc Elt.one Elt.cf Elt.swo 70 #[] blk off cap d w (enters_of Tryz.func70 (by kernel_rfl) rfl) Elt.reads.lays hH hblk hsz
theorem below_sortWorld02 {α:Type} [Inhabited α] {enc:α→Value} {w:World} {blk:Nat} (n:Nat) (d:Array α) (os:Array Obj) {B:Nat} (hB:B≤blk) (hb:blk < w.heap.size):Below B w (sortWorld enc w blk 0 n d os):=by
 refine ⟨rfl,rfl,rfl,?_,fun k hk=>heap_sortWorld_other02 _ _ _ _ (by omega) (by omega)⟩
 simp [sortWorld,grow,putRow,mapBlock,Sort.ahead]
end Go.Proofs.YtmikofeildnpdaaGreat

/- The sort of rows of ints. -/
namespace Go.Proofs.YtmikofeildnpdaaGreat
open Go.Shelf Go.RowKit Go.Lib Go.Sort
def SortOut02 (w:World) (B:Nat) (v:Value) (n:Nat) (xss:List (List Int)) (e:Ending) (w':World):Prop:=
 e = .returned (.tuple #[])∧∃ yss,yss.Perm xss∧yss.Pairwise (fun a b=>¬ cmpL b a < 0)∧OII w' B v n yss∧Go.RowKit.Below B w w'
theorem OI.heap {w w':World} {B:Nat} {v:Value} {n:Nat} {xs:List Int} (h:OI w B v n xs) (hb:∀ g,v.ownBlock=some g→g < w.heap.size→w'.heap[g]? = w.heap[g]?):OI w' B v n xs:=by
 refine ⟨h.1,?_⟩
 rcases h.2 with h' | ⟨g,cap,cur,h1,h2,h3,h4⟩
 ·exact .inl h'
 ·exact .inr ⟨g,cap,cur,h1,h2,(hb g (by rw [h1]; rfl) (Array.getElem?_eq_some_iff.1 h3).1).trans h3,h4⟩
theorem putCells_take02 {α:Type} [Inhabited α] (enc:α→Value) (d:Array α) (cs:Array Value) (hd:d.size≤cs.size):(putCells enc 0 d cs).toList.take d.size=d.toList.map enc:=by
 apply List.ext_getElem?
 intro k
 rw [List.getElem?_take]
 by_cases hk:k < d.size
 ·rw [if_pos hk,Array.getElem?_toList]
  simp only [putCells,Array.getElem?_mapIdx]
  rw [Array.getElem?_eq_getElem (by omega:k < cs.size)]
  simp [hk]
 ·rw [if_neg hk,List.getElem?_eq_none (by simp; omega)]
theorem sortOut {w:World} {B n:Nat} {v:Value} {xss:List (List Int)} (h:OII w B v n xss) (hn:0 < n) (hn2:n≤1000000) (hl:∀ x∈xss,x.length≤17592186044416) :
  Calls Tryz.prog 69 #[v,.func (.func 70) #[] #[]] w (SortOut02 w B v n xss):=by
 obtain ⟨vs,h1,h2,h4,h3⟩:=h
 have hvl:vs.length=n:=by have:=h1.1; omega
 rcases h1.2 with ⟨rfl,h0⟩ | ⟨g,cap,cur,rfl,hB,hg,hc1,hc2,hc3,hc4⟩
 ·omega
 let mk:Fin n→Elt w g:=fun j=>⟨(vs.getD j undef,xss.getD j []),h3 j j.2,(show (xss.getD j []).length≤_ by rw [getD_eq (by omega)]; exact hl _ (List.getElem_mem _)),fun b hb he=>by
  subst he
  rcases (h3 j j.2).2 with ⟨k1,_⟩ | ⟨g',cap',cur',k1,_,k3,_⟩
  ·simp only at hb; rw [k1] at hb; cases hb
  ·simp only at hb; rw [k1] at hb
   simp only [Value.ownBlock,Option.some.injEq] at hb
   subst hb
   rw [hg] at k3
   simp at k3⟩
 haveI:Inhabited (Elt w g):=⟨mk ⟨0,hn⟩⟩
 obtain ⟨d,hd⟩:=exF (Array.ofFn mk)
 have hds:d.size=n:=by rw [hd]; simp
 have hdj:∀ j (hj:j < n),d[j]! = mk ⟨j,hj⟩:=fun j hj=>by rw [getElem!_pos d j (by omega)]; simp [hd]
 have hH:Holds Elt.enc w g 0 d:=by
  intro j hj
  rw [hds] at hj
  rw [hdj j hj]
  constructor
  ·rw [Nat.zero_add,cell_of_row w g j cur 25 (0,0) hg]
   have:(cur.toList.take (n * 1))[j]? = some (vs.getD j undef):=by rw [hc4]; simp [show j < vs.length by omega]
   rw [List.getElem?_take,if_pos (by omega)] at this
   show cur[j]? = some (vs.getD j undef)
   simpa using this
  ·rw [Nat.zero_add]; exact World.ownsRow.frozenAt h1 j
 have hgl:=(Array.getElem?_eq_some_iff.1 hg).1
 have hS:=sortRows g 0 cap d hH hgl (by omega)
 rw [hds] at hS
 refine hS.mono ?_
 rintro e w' ⟨rfl,d',m,os,hp,hs,rfl⟩
 obtain ⟨hp1,_,hp2⟩:=hp
 rw [hds] at hp1
 have e1:d'.extract 0 n=d':=by rw [← hp1]; simp
 have e2:d.extract 0 n=d:=by rw [← hds]; simp
 rw [e1,e2] at hp2
 have ex:d.toList.map (fun x:Elt w g=>x.1.2)=xss:=by
  apply List.ext_getElem
  ·simp [hds,h2]
  ·intro j hj1 hj2
   simp only [List.getElem_map,Array.getElem_toList]
   have:=hdj j (by omega)
   rw [getElem!_pos d j (by omega)] at this
   rw [this]
   exact getD_eq hj2 []
 refine ⟨rfl,d'.toList.map (fun x:Elt w g=>x.1.2),?_,?_,?_,below_sortWorld02 m d' os hB hgl⟩
 ·rw [← ex]; exact hp2.map _
 ·rw [List.pairwise_map,List.pairwise_iff_getElem]
  intro i j hi hj hij
  simp only [Array.length_toList] at hi hj
  have:=hs i j (Nat.zero_le _) hij (by omega)
  rw [getElem!_pos d' i hi,getElem!_pos d' j hj] at this
  exact of_decide_eq_false this
 ·refine ⟨d'.toList.map (fun x:Elt w g=>x.1.1),⟨by simp [hp1],.inr ⟨g,cap,putCells Elt.enc 0 d' cur,rfl,hB,heap_sortWorld_same02 0 m d' os hg,hc1,hc2,by simpa [putCells] using hc3,?_⟩⟩,by simp [hp1],?_,fun j hj=>?_⟩
  ·rw [Nat.mul_one]
   have:=putCells_take02 Elt.enc d' cur (by omega)
   rwa [hp1] at this
  ·intro x hx
   obtain ⟨y,_,rfl⟩:=List.mem_map.1 hx
   exact oneCell_slice y.2.1
  ·have hj':j < d'.size:=by omega
   rw [getD_eq (by simpa using hj'),getD_eq (by simpa using hj')]
   simp only [List.getElem_map,Array.getElem_toList]
   exact d'[j].2.1.heap fun b hb hlt=>heap_sortWorld_other02 _ _ _ _ (d'[j].2.2.2 b hb) hlt
end Go.Proofs.YtmikofeildnpdaaGreat
