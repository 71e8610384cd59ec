/- Texts of this claim, put together: TI L0 Sh M1 M2 V2. -/
import Derived.Test.YtcnedkkcgdkioaaGreatKBj
import Derived.Ground.SlsfProg
import Derived.Ground.SlgmProg
import Derived.Shelf.SlSortCmp.WholeK
import Derived.Shelf.SlSortCmp.Whole1
import Derived.Shelf.SortM.Plain
import Derived.Lib.AppendZeros
import Derived.Lib.SliceRun

set_option maxRecDepth 100000
set_option maxHeartbeats 12800000
namespace Go.Proofs.YtcnedkkcgdkioaaGreat
open Go.RowKit
abbrev Ex:=Int × Jb × Jb
def BJ:Ex:=(0,[],[])
def NS (w:World) (b o:Nat) (xs:List Ex):Prop:=
 ∀j,j < xs.length->∃u1 u2,w.cell? ⟨b,o+j * 3,none⟩=some (.int .i64 (xs.getD j BJ).1)/\w.cell? ⟨b,o+j * 3+1,none⟩=some u1/\w.cell? ⟨b,o+j * 3+2,none⟩=some u2/\
  KS 7 w u1 (xs.getD j BJ).2.1/\BM w u2 (xs.getD j BJ).2.2
theorem NS.keep {w w':World}{b o:Nat}{xs:List Ex}(h:NS w b o xs) (a:Below w.heap.size w w'):NS w' b o xs:=fun j i=>by
 obtain⟨u1,u2,c,d,e,f,g⟩:=h j i;exact⟨u1,u2,AC a c,AC a d,AC a e,f.keep a,g.keep a⟩
def IV (w:World) (v:Value) (xs:List Ex):Prop:=
 ∃a c b o,v = .slice a xs.length c/\(0 < xs.length->a=some ⟨b,o,none⟩)/\NS w b o xs/\xs.length<=1954687338268
theorem IV.keep {w w':World}{v:Value}{xs:List Ex}(h:IV w v xs) (i:Below w.heap.size w w'):IV w' v xs:=by
 obtain⟨a,c,b,o,d,e,f,g⟩:=h;exact⟨a,c,b,o,d,e,f.keep i,g⟩
theorem IV.at {w:World}{a:Option Addr}{c:Nat}{l:List Ex}(h:IV w (.slice a l.length c) l) (d:0 < l.length):∃b o,a=some ⟨b,o,none⟩/\NS w b o l:=by
 obtain⟨g,i,b,o,v,e,f,_⟩:=h;injection v with e1 _ _;exact⟨b,o,e1.trans (e d),f⟩
def CC (w:World) (v:Value) (n i o:Int) (cs:List Cs) (an:Int) (ss:Jc) (r tn:Int) (vs:Jb) (xs:List Ex):Prop:=
 ∃a c b d e f x g,v = .agg #[.int .i64 n,.int .i64 i,.int .i64 o,.slice a cs.length c,.int .i64 an,.slice b ss.length d,.int .i64 r,.int .i64 tn,.slice e vs.length f,.slice x xs.length g]/\
  ED w (.agg #[.int .i64 n,.int .i64 i,.int .i64 o,.slice a cs.length c,.int .i64 an,.slice b ss.length d,.int .i64 r]) n i o cs an ss r/\KS 8 w (.slice e vs.length f) vs/\IV w (.slice x xs.length g) xs
theorem CC.keep {w w':World}{v:Value}{n i o an r tn:Int}{cs:List Cs}{ss:Jc}{vs:Jb}{xs:List Ex}(h:CC w v n i o cs an ss r tn vs xs) (b:Below w.heap.size w w'):CC w' v n i o cs an ss r tn vs xs:=by
 obtain⟨a,c,d,e,l,m,x,p,f,g,j,k⟩:=h;exact⟨a,c,d,e,l,m,x,p,f,g.keep b,j.keep b,k.keep b⟩
def ND (x:Ex):Bool:=decide (x.2.1.length<=10) && (decide (x.2.2.length<=10) && x.2.2.all (fun l=>decide (l.length<=10)))
def JF (n i o:Int) (cs:List Cs) (an:Int) (ss:Jc) (r:Int) (vs:Jb) (xs:List Ex):Bool:=
 DH n i o cs an ss r && (decide (vs.length<=600) && (decide (xs.length<=70) && xs.all ND))
theorem AW {W:World}{b:Nat}{v a c d e f g i j k:Value}{T:TypeId}(h:W.heap[b]? = some (.cells #[v,a,c,d,e,f,g,i,j,k] T)):(W.cell? ⟨b,0,none⟩=some v/\W.cell? ⟨b,1,none⟩=some a/\W.cell? ⟨b,2,none⟩=some c/\W.cell? ⟨b,3,none⟩=some d/\W.cell? ⟨b,4,none⟩=some e/\W.cell? ⟨b,5,none⟩=some f/\W.cell? ⟨b,6,none⟩=some g)/\W.cell? ⟨b,7,none⟩=some i/\W.cell? ⟨b,8,none⟩=some j/\W.cell? ⟨b,9,none⟩=some k:=
 ⟨⟨by rw[cell_of_row _ _ 0 _ _ _ h];rfl,by rw[cell_of_row _ _ 1 _ _ _ h];rfl,by rw[cell_of_row _ _ 2 _ _ _ h];rfl,by rw[cell_of_row _ _ 3 _ _ _ h];rfl,by rw[cell_of_row _ _ 4 _ _ _ h];rfl,by rw[cell_of_row _ _ 5 _ _ _ h];rfl,by rw[cell_of_row _ _ 6 _ _ _ h];rfl⟩,by rw[cell_of_row _ _ 7 _ _ _ h];rfl,by rw[cell_of_row _ _ 8 _ _ _ h];rfl,by rw[cell_of_row _ _ 9 _ _ _ h];rfl⟩
theorem keep3' {W a:World}{b:Nat}{v d e:Value}(c:Below W.heap.size W a) (h:W.cell? ⟨b,7,none⟩=some v/\W.cell? ⟨b,8,none⟩=some d/\W.cell? ⟨b,9,none⟩=some e):a.cell? ⟨b,7,none⟩=some v/\a.cell? ⟨b,8,none⟩=some d/\a.cell? ⟨b,9,none⟩=some e:=
 ⟨AC c h.1,AC c h.2.1,AC c h.2.2⟩
def CO (k:Nat) (w:World) (v:Value) (xs:Jb):Prop:=
 ∃a c b o,v = .slice a xs.length c/\(0 < xs.length->a=some ⟨b,o,none⟩)/\CK k w b o xs/\xs.length<=2199023255552/\xs.length<=c
theorem CO.ks {k:Nat}{w:World}{v:Value}{xs:Jb}(h:CO k w v xs):KS k w v xs:=by
 obtain⟨a,c,b,o,d,e,f,g,_⟩:=h;exact⟨a,c,b,o,d,e,f,g⟩
theorem CO.keep {k:Nat}{w w':World}{v:Value}{xs:Jb}(h:CO k w v xs) (i:Below w.heap.size w w'):CO k w' v xs:=by
 obtain⟨a,c,b,o,d,e,f,g⟩:=h;exact⟨a,c,b,o,d,e,f.keep i,g⟩
end Go.Proofs.YtcnedkkcgdkioaaGreat
namespace Go.Proofs
open Go.Shelf
def Tryz.sortVx_ren : Go.Shelf.Ren := ⟨fun | 6 => 153 | 15 => 100 | 14 => 203 | 28 => 165 | 29 => 166 | 20 => 232 | 21 => 233 | 22 => 234 | 23 => 235 | 24 => 236 | 25 => 237 | 26 => 238 | 27 => 239 | 46 => 261 | 47 => 205 | 48 => 206 | 49 => 262 | 50 => 263 | 57 => 276 | n => n, fun | 22 => 38 | 24 => 83 | 25 => 186 | 3 => 3 | 39 => 173 | 0 => 0 | 53 => 231 | 55 => 233 | 4 => 4 | 46 => 224 | 45 => 223 | 50 => 228 | 5 => 5 | 9 => 9 | 66 => 259 | 70 => 263 | 76 => 288 | 77 => 289 | n => n, fun | n => n⟩
theorem Tryz.sortVx : Go.Proofs.SlLaysF0.n6 Tryz.prog Tryz.sortVx_ren := {
  mixed := by kernel_rfl
  f6 := ⟨Tryz.f153.name, by decide, Tryz.func153.trans (congrArg some (by kernel_rfl))⟩
  f14 := ⟨Tryz.f203.name, by decide, Tryz.func203.trans (congrArg some (by kernel_rfl))⟩
  f15 := Tryz.func100.trans (congrArg some (by kernel_rfl))
  f20 := ⟨Tryz.f232.name, by decide, Tryz.func232.trans (congrArg some (by kernel_rfl))⟩
  f21 := ⟨Tryz.f233.name, by decide, Tryz.func233.trans (congrArg some (by kernel_rfl))⟩
  f22 := ⟨Tryz.f234.name, by decide, Tryz.func234.trans (congrArg some (by kernel_rfl))⟩
  f23 := ⟨Tryz.f235.name, by decide, Tryz.func235.trans (congrArg some (by kernel_rfl))⟩
  f24 := ⟨Tryz.f236.name, by decide, Tryz.func236.trans (congrArg some (by kernel_rfl))⟩
  f25 := ⟨Tryz.f237.name, by decide, Tryz.func237.trans (congrArg some (by kernel_rfl))⟩
  f26 := ⟨Tryz.f238.name, by decide, Tryz.func238.trans (congrArg some (by kernel_rfl))⟩
  f27 := ⟨Tryz.f239.name, by decide, Tryz.func239.trans (congrArg some (by kernel_rfl))⟩
  f28 := Tryz.func165.trans (congrArg some (by kernel_rfl))
  f29 := Tryz.func166.trans (congrArg some (by kernel_rfl))
  f46 := ⟨Tryz.f261.name, by decide, Tryz.func261.trans (congrArg some (by kernel_rfl))⟩
  f47 := Tryz.func205.trans (congrArg some (by kernel_rfl))
  f48 := Tryz.func206.trans (congrArg some (by kernel_rfl))
  f49 := ⟨Tryz.f262.name, by decide, Tryz.func262.trans (congrArg some (by kernel_rfl))⟩
  f50 := ⟨Tryz.f263.name, by decide, Tryz.func263.trans (congrArg some (by kernel_rfl))⟩
  f57 := ⟨Tryz.f276.name, by decide, Tryz.func276.trans (congrArg some (by kernel_rfl))⟩
  t0 := Tryz.underlying0
  a0 := Tryz.isAgg0
  z0 := Tryz.sizeOf0
  v0 := Tryz.zeroValue0
  t3 := Tryz.underlying3
  a3 := Tryz.isAgg3
  z3 := Tryz.sizeOf3
  v3 := Tryz.zeroValue3
  t4 := Tryz.underlying4
  a4 := Tryz.isAgg4
  z4 := Tryz.sizeOf4
  v4 := Tryz.zeroValue4
  t5 := Tryz.underlying5
  a5 := Tryz.isAgg5
  z5 := Tryz.sizeOf5
  v5 := Tryz.zeroValue5
  t9 := Tryz.underlying9
  a9 := Tryz.isAgg9
  z9 := Tryz.sizeOf9
  v9 := Tryz.zeroValue9
  t22 := Tryz.underlying38
  a22 := Tryz.isAgg38
  z22 := Tryz.sizeOf38
  v22 := Tryz.zeroValue38
  t25 := Tryz.underlying186
  a25 := Tryz.isAgg186
  z25 := Tryz.sizeOf186
  v25 := Tryz.zeroValue186
  t39 := Tryz.underlying173
  a39 := Tryz.isAgg173
  z39 := Tryz.sizeOf173
  v39 := Tryz.zeroValue173
  t45 := Tryz.underlying223
  a45 := Tryz.isAgg223
  z45 := Tryz.sizeOf223
  v45 := Tryz.zeroValue223
  t46 := Tryz.underlying224
  a46 := Tryz.isAgg224
  z46 := Tryz.sizeOf224
  v46 := Tryz.zeroValue224
  t50 := Tryz.underlying228
  a50 := Tryz.isAgg228
  z50 := Tryz.sizeOf228
  v50 := Tryz.zeroValue228
  t53 := Tryz.underlying231
  a53 := Tryz.isAgg231
  z53 := Tryz.sizeOf231
  v53 := Tryz.zeroValue231
  t55 := Tryz.underlying233
  a55 := Tryz.isAgg233
  z55 := Tryz.sizeOf233
  v55 := Tryz.zeroValue233
  t66 := Tryz.underlying259
  a66 := Tryz.isAgg259
  z66 := Tryz.sizeOf259
  v66 := Tryz.zeroValue259
  t70 := Tryz.underlying263
  a70 := Tryz.isAgg263
  z70 := Tryz.sizeOf263
  v70 := Tryz.zeroValue263
  t76 := Tryz.underlying288
  a76 := Tryz.isAgg288
  z76 := Tryz.sizeOf288
  v76 := Tryz.zeroValue288
  t77 := Tryz.underlying289
  a77 := Tryz.isAgg289
  z77 := Tryz.sizeOf289
  v77 := Tryz.zeroValue289 }
def Tryz.sortVs_ren : Go.Shelf.Ren := ⟨fun | 6 => 197 | 15 => 100 | 14 => 231 | 28 => 165 | 29 => 166 | 20 => 253 | 21 => 254 | 22 => 255 | 23 => 256 | 24 => 257 | 25 => 258 | 26 => 259 | 27 => 260 | 46 => 273 | 47 => 205 | 48 => 206 | 49 => 274 | 50 => 275 | 57 => 280 | n => n, fun | 22 => 55 | 24 => 38 | 25 => 129 | 3 => 3 | 39 => 173 | 0 => 0 | 53 => 231 | 55 => 233 | 4 => 4 | 46 => 224 | 45 => 223 | 50 => 228 | 5 => 5 | 9 => 9 | 66 => 259 | 70 => 263 | 76 => 288 | 77 => 289 | n => n, fun | n => n⟩
theorem Tryz.sortVs : Go.Proofs.SlLaysF.n6 Tryz.prog Tryz.sortVs_ren := {
  mixed := by kernel_rfl
  f6 := ⟨Tryz.f197.name, by decide, Tryz.func197.trans (congrArg some (by kernel_rfl))⟩
  f14 := ⟨Tryz.f231.name, by decide, Tryz.func231.trans (congrArg some (by kernel_rfl))⟩
  f15 := Tryz.func100.trans (congrArg some (by kernel_rfl))
  f20 := ⟨Tryz.f253.name, by decide, Tryz.func253.trans (congrArg some (by kernel_rfl))⟩
  f21 := ⟨Tryz.f254.name, by decide, Tryz.func254.trans (congrArg some (by kernel_rfl))⟩
  f22 := ⟨Tryz.f255.name, by decide, Tryz.func255.trans (congrArg some (by kernel_rfl))⟩
  f23 := ⟨Tryz.f256.name, by decide, Tryz.func256.trans (congrArg some (by kernel_rfl))⟩
  f24 := ⟨Tryz.f257.name, by decide, Tryz.func257.trans (congrArg some (by kernel_rfl))⟩
  f25 := ⟨Tryz.f258.name, by decide, Tryz.func258.trans (congrArg some (by kernel_rfl))⟩
  f26 := ⟨Tryz.f259.name, by decide, Tryz.func259.trans (congrArg some (by kernel_rfl))⟩
  f27 := ⟨Tryz.f260.name, by decide, Tryz.func260.trans (congrArg some (by kernel_rfl))⟩
  f28 := Tryz.func165.trans (congrArg some (by kernel_rfl))
  f29 := Tryz.func166.trans (congrArg some (by kernel_rfl))
  f46 := ⟨Tryz.f273.name, by decide, Tryz.func273.trans (congrArg some (by kernel_rfl))⟩
  f47 := Tryz.func205.trans (congrArg some (by kernel_rfl))
  f48 := Tryz.func206.trans (congrArg some (by kernel_rfl))
  f49 := ⟨Tryz.f274.name, by decide, Tryz.func274.trans (congrArg some (by kernel_rfl))⟩
  f50 := ⟨Tryz.f275.name, by decide, Tryz.func275.trans (congrArg some (by kernel_rfl))⟩
  f57 := ⟨Tryz.f280.name, by decide, Tryz.func280.trans (congrArg some (by kernel_rfl))⟩
  t0 := Tryz.underlying0
  a0 := Tryz.isAgg0
  z0 := Tryz.sizeOf0
  v0 := Tryz.zeroValue0
  t3 := Tryz.underlying3
  a3 := Tryz.isAgg3
  z3 := Tryz.sizeOf3
  v3 := Tryz.zeroValue3
  t4 := Tryz.underlying4
  a4 := Tryz.isAgg4
  z4 := Tryz.sizeOf4
  v4 := Tryz.zeroValue4
  t5 := Tryz.underlying5
  a5 := Tryz.isAgg5
  z5 := Tryz.sizeOf5
  v5 := Tryz.zeroValue5
  t9 := Tryz.underlying9
  a9 := Tryz.isAgg9
  z9 := Tryz.sizeOf9
  v9 := Tryz.zeroValue9
  t22 := Tryz.underlying55
  a22 := Tryz.isAgg55
  z22 := Tryz.sizeOf55
  v22 := Tryz.zeroValue55
  a24 := Tryz.isAgg38
  z24 := Tryz.sizeOf38
  t25 := Tryz.underlying129
  a25 := Tryz.isAgg129
  z25 := Tryz.sizeOf129
  v25 := Tryz.zeroValue129
  t39 := Tryz.underlying173
  a39 := Tryz.isAgg173
  z39 := Tryz.sizeOf173
  v39 := Tryz.zeroValue173
  t45 := Tryz.underlying223
  a45 := Tryz.isAgg223
  z45 := Tryz.sizeOf223
  v45 := Tryz.zeroValue223
  t46 := Tryz.underlying224
  a46 := Tryz.isAgg224
  z46 := Tryz.sizeOf224
  v46 := Tryz.zeroValue224
  t50 := Tryz.underlying228
  a50 := Tryz.isAgg228
  z50 := Tryz.sizeOf228
  v50 := Tryz.zeroValue228
  t53 := Tryz.underlying231
  a53 := Tryz.isAgg231
  z53 := Tryz.sizeOf231
  v53 := Tryz.zeroValue231
  t55 := Tryz.underlying233
  a55 := Tryz.isAgg233
  z55 := Tryz.sizeOf233
  v55 := Tryz.zeroValue233
  t66 := Tryz.underlying259
  a66 := Tryz.isAgg259
  z66 := Tryz.sizeOf259
  v66 := Tryz.zeroValue259
  t70 := Tryz.underlying263
  a70 := Tryz.isAgg263
  z70 := Tryz.sizeOf263
  v70 := Tryz.zeroValue263
  t76 := Tryz.underlying288
  a76 := Tryz.isAgg288
  z76 := Tryz.sizeOf288
  v76 := Tryz.zeroValue288
  t77 := Tryz.underlying289
  a77 := Tryz.isAgg289
  z77 := Tryz.sizeOf289
  v77 := Tryz.zeroValue289 }
def Tryz.sortII_ren : Go.Shelf.Ren := ⟨fun | 6 => 141 | 15 => 100 | 14 => 194 | 28 => 165 | 29 => 166 | 20 => 223 | 21 => 224 | 22 => 225 | 23 => 226 | 24 => 227 | 25 => 228 | 26 => 229 | 27 => 230 | 46 => 250 | 47 => 205 | 48 => 206 | 49 => 251 | 50 => 252 | 57 => 272 | n => n, fun | 22 => 78 | 24 => 48 | 25 => 208 | 3 => 3 | 39 => 173 | 0 => 0 | 53 => 231 | 55 => 233 | 4 => 4 | 46 => 224 | 45 => 223 | 50 => 228 | 5 => 5 | 9 => 9 | 66 => 259 | 70 => 263 | 76 => 288 | 77 => 289 | n => n, fun | n => n⟩
theorem Tryz.sortII : Go.Proofs.SlLaysF.n6 Tryz.prog Tryz.sortII_ren := {
  mixed := by kernel_rfl
  f6 := ⟨Tryz.f141.name, by decide, Tryz.func141.trans (congrArg some (by kernel_rfl))⟩
  f14 := ⟨Tryz.f194.name, by decide, Tryz.func194.trans (congrArg some (by kernel_rfl))⟩
  f15 := Tryz.func100.trans (congrArg some (by kernel_rfl))
  f20 := ⟨Tryz.f223.name, by decide, Tryz.func223.trans (congrArg some (by kernel_rfl))⟩
  f21 := ⟨Tryz.f224.name, by decide, Tryz.func224.trans (congrArg some (by kernel_rfl))⟩
  f22 := ⟨Tryz.f225.name, by decide, Tryz.func225.trans (congrArg some (by kernel_rfl))⟩
  f23 := ⟨Tryz.f226.name, by decide, Tryz.func226.trans (congrArg some (by kernel_rfl))⟩
  f24 := ⟨Tryz.f227.name, by decide, Tryz.func227.trans (congrArg some (by kernel_rfl))⟩
  f25 := ⟨Tryz.f228.name, by decide, Tryz.func228.trans (congrArg some (by kernel_rfl))⟩
  f26 := ⟨Tryz.f229.name, by decide, Tryz.func229.trans (congrArg some (by kernel_rfl))⟩
  f27 := ⟨Tryz.f230.name, by decide, Tryz.func230.trans (congrArg some (by kernel_rfl))⟩
  f28 := Tryz.func165.trans (congrArg some (by kernel_rfl))
  f29 := Tryz.func166.trans (congrArg some (by kernel_rfl))
  f46 := ⟨Tryz.f250.name, by decide, Tryz.func250.trans (congrArg some (by kernel_rfl))⟩
  f47 := Tryz.func205.trans (congrArg some (by kernel_rfl))
  f48 := Tryz.func206.trans (congrArg some (by kernel_rfl))
  f49 := ⟨Tryz.f251.name, by decide, Tryz.func251.trans (congrArg some (by kernel_rfl))⟩
  f50 := ⟨Tryz.f252.name, by decide, Tryz.func252.trans (congrArg some (by kernel_rfl))⟩
  f57 := ⟨Tryz.f272.name, by decide, Tryz.func272.trans (congrArg some (by kernel_rfl))⟩
  t0 := Tryz.underlying0
  a0 := Tryz.isAgg0
  z0 := Tryz.sizeOf0
  v0 := Tryz.zeroValue0
  t3 := Tryz.underlying3
  a3 := Tryz.isAgg3
  z3 := Tryz.sizeOf3
  v3 := Tryz.zeroValue3
  t4 := Tryz.underlying4
  a4 := Tryz.isAgg4
  z4 := Tryz.sizeOf4
  v4 := Tryz.zeroValue4
  t5 := Tryz.underlying5
  a5 := Tryz.isAgg5
  z5 := Tryz.sizeOf5
  v5 := Tryz.zeroValue5
  t9 := Tryz.underlying9
  a9 := Tryz.isAgg9
  z9 := Tryz.sizeOf9
  v9 := Tryz.zeroValue9
  t22 := Tryz.underlying78
  a22 := Tryz.isAgg78
  z22 := Tryz.sizeOf78
  v22 := Tryz.zeroValue78
  a24 := Tryz.isAgg48
  z24 := Tryz.sizeOf48
  t25 := Tryz.underlying208
  a25 := Tryz.isAgg208
  z25 := Tryz.sizeOf208
  v25 := Tryz.zeroValue208
  t39 := Tryz.underlying173
  a39 := Tryz.isAgg173
  z39 := Tryz.sizeOf173
  v39 := Tryz.zeroValue173
  t45 := Tryz.underlying223
  a45 := Tryz.isAgg223
  z45 := Tryz.sizeOf223
  v45 := Tryz.zeroValue223
  t46 := Tryz.underlying224
  a46 := Tryz.isAgg224
  z46 := Tryz.sizeOf224
  v46 := Tryz.zeroValue224
  t50 := Tryz.underlying228
  a50 := Tryz.isAgg228
  z50 := Tryz.sizeOf228
  v50 := Tryz.zeroValue228
  t53 := Tryz.underlying231
  a53 := Tryz.isAgg231
  z53 := Tryz.sizeOf231
  v53 := Tryz.zeroValue231
  t55 := Tryz.underlying233
  a55 := Tryz.isAgg233
  z55 := Tryz.sizeOf233
  v55 := Tryz.zeroValue233
  t66 := Tryz.underlying259
  a66 := Tryz.isAgg259
  z66 := Tryz.sizeOf259
  v66 := Tryz.zeroValue259
  t70 := Tryz.underlying263
  a70 := Tryz.isAgg263
  z70 := Tryz.sizeOf263
  v70 := Tryz.zeroValue263
  t76 := Tryz.underlying288
  a76 := Tryz.isAgg288
  z76 := Tryz.sizeOf288
  v76 := Tryz.zeroValue288
  t77 := Tryz.underlying289
  a77 := Tryz.isAgg289
  z77 := Tryz.sizeOf289
  v77 := Tryz.zeroValue289 }
def Tryz.sortI_ren : Go.Shelf.Ren := ⟨fun | 5 => 50 | 8 => 100 | 7 => 99 | 19 => 165 | 20 => 166 | 10 => 156 | 11 => 157 | 12 => 158 | 13 => 159 | 14 => 160 | 15 => 161 | 16 => 162 | 17 => 163 | 18 => 164 | 30 => 204 | 31 => 205 | 32 => 206 | 33 => 207 | 34 => 208 | 35 => 209 | 40 => 240 | n => n, fun | 23 => 48 | 25 => 3 | 3 => 3 | 32 => 173 | 22 => 48 | 0 => 0 | 44 => 231 | 46 => 233 | 4 => 4 | 36 => 224 | 35 => 223 | 41 => 228 | 5 => 5 | 9 => 9 | 53 => 259 | 57 => 263 | 63 => 288 | 64 => 289 | n => n, fun | n => n⟩
theorem Tryz.sortI : Go.Proofs.SlLaysM.n5 Tryz.prog Tryz.sortI_ren := {
  mixed := by kernel_rfl
  f5 := ⟨Tryz.f50.name, by decide, Tryz.func50.trans (congrArg some (by kernel_rfl))⟩
  f7 := ⟨Tryz.f99.name, by decide, Tryz.func99.trans (congrArg some (by kernel_rfl))⟩
  f8 := Tryz.func100.trans (congrArg some (by kernel_rfl))
  f10 := ⟨Tryz.f156.name, by decide, Tryz.func156.trans (congrArg some (by kernel_rfl))⟩
  f11 := ⟨Tryz.f157.name, by decide, Tryz.func157.trans (congrArg some (by kernel_rfl))⟩
  f12 := ⟨Tryz.f158.name, by decide, Tryz.func158.trans (congrArg some (by kernel_rfl))⟩
  f13 := ⟨Tryz.f159.name, by decide, Tryz.func159.trans (congrArg some (by kernel_rfl))⟩
  f14 := ⟨Tryz.f160.name, by decide, Tryz.func160.trans (congrArg some (by kernel_rfl))⟩
  f15 := ⟨Tryz.f161.name, by decide, Tryz.func161.trans (congrArg some (by kernel_rfl))⟩
  f16 := ⟨Tryz.f162.name, by decide, Tryz.func162.trans (congrArg some (by kernel_rfl))⟩
  f17 := ⟨Tryz.f163.name, by decide, Tryz.func163.trans (congrArg some (by kernel_rfl))⟩
  f18 := ⟨Tryz.f164.name, by decide, Tryz.func164.trans (congrArg some (by kernel_rfl))⟩
  f19 := Tryz.func165.trans (congrArg some (by kernel_rfl))
  f20 := Tryz.func166.trans (congrArg some (by kernel_rfl))
  f30 := ⟨Tryz.f204.name, by decide, Tryz.func204.trans (congrArg some (by kernel_rfl))⟩
  f31 := Tryz.func205.trans (congrArg some (by kernel_rfl))
  f32 := Tryz.func206.trans (congrArg some (by kernel_rfl))
  f33 := ⟨Tryz.f207.name, by decide, Tryz.func207.trans (congrArg some (by kernel_rfl))⟩
  f34 := ⟨Tryz.f208.name, by decide, Tryz.func208.trans (congrArg some (by kernel_rfl))⟩
  f35 := ⟨Tryz.f209.name, by decide, Tryz.func209.trans (congrArg some (by kernel_rfl))⟩
  f40 := ⟨Tryz.f240.name, by decide, Tryz.func240.trans (congrArg some (by kernel_rfl))⟩
  t0 := Tryz.underlying0
  a0 := Tryz.isAgg0
  z0 := Tryz.sizeOf0
  v0 := Tryz.zeroValue0
  t3 := Tryz.underlying3
  a3 := Tryz.isAgg3
  z3 := Tryz.sizeOf3
  v3 := Tryz.zeroValue3
  t4 := Tryz.underlying4
  a4 := Tryz.isAgg4
  z4 := Tryz.sizeOf4
  v4 := Tryz.zeroValue4
  t5 := Tryz.underlying5
  a5 := Tryz.isAgg5
  z5 := Tryz.sizeOf5
  v5 := Tryz.zeroValue5
  t9 := Tryz.underlying9
  a9 := Tryz.isAgg9
  z9 := Tryz.sizeOf9
  v9 := Tryz.zeroValue9
  t22 := Tryz.underlying48
  a22 := Tryz.isAgg48
  z22 := Tryz.sizeOf48
  v22 := Tryz.zeroValue48
  t23 := Tryz.underlying48
  a23 := Tryz.isAgg48
  z23 := Tryz.sizeOf48
  v23 := Tryz.zeroValue48
  t25 := Tryz.underlying3
  a25 := Tryz.isAgg3
  z25 := Tryz.sizeOf3
  v25 := Tryz.zeroValue3
  t32 := Tryz.underlying173
  a32 := Tryz.isAgg173
  z32 := Tryz.sizeOf173
  v32 := Tryz.zeroValue173
  t35 := Tryz.underlying223
  a35 := Tryz.isAgg223
  z35 := Tryz.sizeOf223
  v35 := Tryz.zeroValue223
  t36 := Tryz.underlying224
  a36 := Tryz.isAgg224
  z36 := Tryz.sizeOf224
  v36 := Tryz.zeroValue224
  t41 := Tryz.underlying228
  a41 := Tryz.isAgg228
  z41 := Tryz.sizeOf228
  v41 := Tryz.zeroValue228
  t44 := Tryz.underlying231
  a44 := Tryz.isAgg231
  z44 := Tryz.sizeOf231
  v44 := Tryz.zeroValue231
  t46 := Tryz.underlying233
  a46 := Tryz.isAgg233
  z46 := Tryz.sizeOf233
  v46 := Tryz.zeroValue233
  t53 := Tryz.underlying259
  a53 := Tryz.isAgg259
  z53 := Tryz.sizeOf259
  v53 := Tryz.zeroValue259
  t57 := Tryz.underlying263
  a57 := Tryz.isAgg263
  z57 := Tryz.sizeOf263
  v57 := Tryz.zeroValue263
  t63 := Tryz.underlying288
  a63 := Tryz.isAgg288
  z63 := Tryz.sizeOf288
  v63 := Tryz.zeroValue288
  t64 := Tryz.underlying289
  a64 := Tryz.isAgg289
  z64 := Tryz.sizeOf289
  v64 := Tryz.zeroValue289 }
end Go.Proofs
namespace Go.Proofs.YtcnedkkcgdkioaaGreat
open Go.RowKit Go.ChangeMaps Go.MapKept
def BW (w:World) (cs:List Value) (x:Jb):Prop:=∃u,cs = [u]/\AA 148 7 EI w 0 u x.length x
theorem BW.stab {E:TypeId}(h:148 ≠ E):CP E BW:=fun _ _ _ _ ⟨u,a,b⟩ x=>⟨u,a,b.other (EI.stab _) h x⟩
open Go.RowKit Go.ChangeMaps Go.MapKept
theorem AA.kss7 {E:TypeId}{w:World}{B n:Nat}{v:Value}{xs:Jc}(h:AA E 1 BW w B v n xs) (D:n<=5864062014805) (m:∀x∈xs,x.length<=2199023255552):BT 7 w v xs:=by
 obtain⟨s,d,e,A,i⟩:=h;have F:s.length=n:=by have:=d.1;simpa using this
 have y:∀g c,v = .slice (some ⟨g,0,none⟩) n c->LH 7 w g 0 xs:=fun g c p j a=>by
  subst p;have l:=fun j (a:j < s.length)=>World.ownsRow.cellAt d j (by omega);have C:j < n:=by omega
  have r:xs[j]? = some (xs.getD j []):=by rw[AK a];exact List.getElem?_eq_some_iff.2 ⟨a,rfl⟩
  obtain⟨u,f,o⟩:=i j _ r;rw[Nat.mul_one] at f
  have q:s[j]? = some u:=by
   have b:(s.drop j).take 1 = [u]:=f;rw[List.drop_eq_getElem_cons (by omega),List.take_succ_cons,List.take_zero] at b;rw[List.getElem?_eq_getElem (by omega)];exact congrArg some (List.cons.inj b).1
  exact⟨u,by rw[Nat.zero_add,l j (by omega)];exact q,o.ks (m _ (by rw[AK a];exact wG a))⟩
 rcases d.2 with⟨b,k⟩|⟨g,c,z,t,_⟩
 ·subst b k;obtain rfl:=List.length_eq_zero_iff.1 e;exact⟨none,0,0,0,rfl,by simp,by intro j a;simp at a,by simp⟩
 ·subst t;exact⟨some ⟨g,0,none⟩,c,g,0,by rw[e],fun _=>rfl,y g c rfl,by omega⟩
end Go.Proofs.YtcnedkkcgdkioaaGreat
namespace Go.Proofs.YtcnedkkcgdkioaaGreat
open Go.RowKit
theorem mY:((List.range 100).all fun x=>decide (bits .and .u64 (x:Int) 4294967295=(x:Int)))=true:=by decide +kernel
theorem TI {n:Nat}(h:n < 100):bits .and .u64 (n:Int) 4294967295=(n:Int):=of_decide_eq_true (List.all_eq_true.1 mY n (List.mem_range.2 h))
theorem nE {n:Nat}(h:n < 100) (w:World):Calls Tryz.prog 271 #[.int .u64 1,.int .u64 (n:Int)] w fun e w'=>e = .returned (.tuple #[.int .u64 0,.int .u64 (n:Int)])/\w'=w:=by
 have a:=TI h;have b:bits .and .u64 1 4294967295=1:=TI (n:=1) (by omega);have c:bits .and .u64 0 4294967295=0:=TI (n:=0) (by omega);have d:IntKind.u64.wrap (n:Int)=(n:Int):=by rw[IntKind.wrap_u64];omega
 have f:(n:Int) / 4294967296=0:=by omega
 go_enter Tryz.func271, Tryz.ntmps271
 go_wp2;go_ret2
 exact⟨rfl,rfl⟩
theorem nF {n:Nat}(a:n < 100) (w:World):Calls Tryz.prog 248 #[.int .u64 1,.int .u64 (n:Int)] w fun e w'=>e = .returned (.tuple #[.int .u64 0,.int .u64 (n:Int)])/\w'=w:=by
 have b:IntKind.u64.wrap (n:Int)=(n:Int):=by rw[IntKind.wrap_u64];omega
 go_enter Tryz.func248, Tryz.ntmps248
 go_wp2_with fail
 refine(nE a w).mono ?_;rintro e c ⟨rfl,h⟩;replace h:=h.symm;subst h;go_wp2;go_ret2
 exact⟨rfl,rfl⟩
def DK (n m:Nat):List Value:=List.replicate m (.int .i64 1)++List.replicate (n - m) (.int .i64 0)
theorem aN {n m:Nat}(h:m<=n):(DK n m).length=n:=by simp[DK];omega
theorem nT {n m j:Nat}(h:j < m):(DK n m)[j]? = some (.int .i64 1):=by
 rw[DK,List.getElem?_append_left (by simpa using h),List.getElem?_replicate,if_pos h]
theorem nU {n m p:Nat}(h:m+p<=n):(DK n m).take m++List.replicate p (.int .i64 1)++(DK n m).drop (m+p)=DK n (m+p):=by
 have a:(DK n m).take m=List.replicate m (.int .i64 1):=by rw[DK,List.take_left' (by simp)]
 have b:(DK n m).drop (m+p)=List.replicate (n - (m+p)) (.int .i64 0):=by
  rw[DK,List.drop_append,List.drop_replicate,List.drop_replicate,List.length_replicate];rw[show m - (m+p)=0 by omega,show n - m - (m+p - m)=n - (m+p) by omega];simp
 rw[a,b,DK,<-List.replicate_append_replicate]
theorem cT {W:World}{g n m p:Nat}(e:W.heap[g]? = some (.cells (DK n m).toArray 3)) (d:m+p<=n) {a:Addr}{sl sc dc:Nat}(f:p=Nat.min sl (n - m)) (s:∀j,j < p->W.cell? (a.add j)=some (.int .i64 1)) (ty:TypeId) :
  (Builtin.copy_ #[48,48] ty #[.slice (some ⟨g,m,none⟩) (n - m) dc,.slice (some a) sl sc]).run Tryz.prog W = .ok (.int .i64 (p:Int)) (W.setRow g (DK n (m+p)).toArray):=by
 have h:=run_copy_row (P:=Tryz.prog) W 48 48 ty 3 g m (n - m) dc a sl sc (DK n m).toArray 3 (List.replicate p (.int .i64 1)) (by kernel_rfl) (by kernel_rfl) e (by simpa using f) (fun j v b=>?_) (by rw[List.length_replicate,List.size_toArray,aN (by omega)];exact d) (fun v i=>by rw[List.eq_of_mem_replicate i];rfl)
 ·rw[h,List.length_replicate];show _=Result.ok _ (W.setRow g (DK n (m+p)).toArray);rw[<-nU d];rfl
 ·have c:j < p:=by
   have:=(List.getElem?_eq_some_iff.1 b).1
   rwa [List.length_replicate] at this
  rw[List.getElem?_replicate,if_pos c] at b;injection b with b;subst b;exact s j c
theorem dF {W:World}{g:Nat}{c cs:Array Value}{t:TypeId}(h:W.heap[g]? = some (.cells c t)):(W.setRow g cs).heap[g]? = some (.cells cs t):=by
 simp[World.setRow,Array.getElem?_modify,h]
theorem dE {B:Nat}{w0 W:World}(h:Below B w0 W) {g:Nat}(a:B<=g) (cs:Array Value):Below B w0 (W.setRow g cs):=
 h.trans ⟨rfl,rfl,rfl,by simp[World.setRow],fun k b=>by simp[World.setRow,Array.getElem?_modify,show ¬g=k by omega]⟩
theorem sH (n:Nat) (b:n<=1000000) (w:World):(Instr.makeSlice 48 (.int .i64 (n:Int)) (.int .i64 (n:Int))).run Tryz.prog w = .ok (.slice (some ⟨w.heap.size,0,none⟩) n n) (w.alloc (.cells (DK n 0).toArray 3)):=by
 have h:=run_make_row' (P:=Tryz.prog) 48 3 (.int .i64 0) 8 (by kernel_rfl) (by kernel_rfl) rfl .i64 .i64 n (by omega) (by omega) w;rw[h]
 have:madeCells #[.int .i64 0] n=(DK n 0).toArray:=by
  have a:=toList_madeCells_one (.int .i64 0) n;rw[DK,List.replicate_zero,List.nil_append,Nat.sub_zero,<-a,Array.toArray_toList]
 rw[this]
theorem rV {w:World}{a:Addr}{c n:Nat}(z:w.cell? a=some (.int .i64 1)) (T:0 < n) (S:n<=90) :
  Calls Tryz.prog 220 #[.slice (some a) 1 c,.int .i64 (n:Int)] w fun e w'=>∃u,e = .returned u/\OI w' w.heap.size u n (BF (List.replicate n 1))/\Below w.heap.size w w':=by
 have Z:IntKind.u64.wrap (n:Int)=(n:Int):=by rw[IntKind.wrap_u64];omega
 have G:IntKind.i64.wrap (n:Int)=(n:Int):=IntWalk.i64_in _ (by omega);have I:decide ((n:Int) < 0)=false:=vY (by omega);have F:decide ((9223372036854775807:Int) < (n:Int))=false:=vY (by omega);have M:=qH (fun x=>nF (n:=n) (by omega) x);have P:=sH n (by omega);obtain⟨o,d⟩:=AF (w.alloc (.cells (DK n 0).toArray 3));have q:Below w.heap.size w o:=by rw[d];exact(wB _ _).alloc (wC _) _
 have i:o.heap[w.heap.size]? = some (.cells (DK n 0).toArray 3):=by rw[d];exact wE _ _
 have f:=cT (a:=a) (sl:=1) (sc:=c) (dc:=n) (p:=1) i (by omega) (by rw[Nat.sub_zero];simp[Nat.min_def];omega) (fun j A=>by
  have:j=0:=by omega
  subst this;have D:=AC q z;rwa [show a.add 0=a by unfold Addr.add;split<;>simp_all])
 rw[Nat.sub_zero] at f;rw[d] at f;go_enter Tryz.func220, Tryz.ntmps220
 go_wp2_with (go_at_call 248;refine(M.out _).mono ?_;rintro e w2 ⟨rfl,l⟩;replace l:=l.symm;subst l)
 rw[<-d];rw[<-d] at f;have k:=dF (cs:=(DK n (0+1)).toArray) i;have s:=dE q (wC _) (DK n (0+1)).toArray;rw[Nat.zero_add] at k s;clear f i;have R : Tryz.prog.follows .mixedOrders=true:=by kernel_rfl
 go_loopw [8] (fun v wr=>∃m:Nat,v = .int .i64 m/\0 < m/\m<=n/\wr.heap[w.heap.size]? = some (.cells (DK n m).toArray 3)/\Below w.heap.size w wr) (fun v _=>n - (intOf v).toNat)
 case atStart=>exact⟨1,rfl,by omega,by omega,k,s⟩
 case round=>
  clear k s;obtain⟨m,rfl,J,Q,h,r⟩:=hrel;by_cases H:m < n
  ·have L:(m:Int) < (n:Int):=(by omega);have N:(m:Int)<=(n:Int):=(by omega);have K:(0:Int)<=(m:Int):=(by omega);have V : ¬n=m:=(by omega);have U : ¬n=0:=(by omega);obtain⟨b,g⟩:=AF (Nat.min m (n - m));have B:b=min m (n - m):=g;have X:0 < b:=(by omega);have Y:b<=m:=(by omega);have t:m+b<=n:=by omega
   have f:=cT (W:=wr.drew) (a:=⟨w.heap.size,0,none⟩) (sl:=m) (sc:=n) (dc:=n - m) (p:=b) h t g (fun j A=>by
    rw[Addr.add_lit,Nat.zero_add];exact cell_of_row _ _ j _ _ _ h |>.trans (by rw[List.getElem?_toArray];exact nT (by omega)))
   have C:=dF (W:=wr.drew) (cs:=(DK n (m+b)).toArray) h;have y:=dE r.drew (wC _) (DK n (m+b)).toArray;have a0:IntKind.i64.wrap ((m:Int)+(b:Int))=((m+b:Nat):Int):=(by rw[<-Int.natCast_add];exact IntWalk.i64_in _ (by omega));replace g:=qH g;clear B h;go_wp2_with fail
   go_region_held3 (fun _=>True) (trivial) (fail)
   go_wp2;go_roundw
   case rel=>exact⟨m+b,by go_num,by omega,t,C,y⟩
   case measure=>simp[intOf];omega
  ·obtain rfl:m=n:=(by omega);have E : ¬((m:Int) < (m:Int)):=by omega
   have O:OI wr w.heap.size (.slice (some ⟨w.heap.size,0,none⟩) m m) m (BF (List.replicate m 1)):=by
    refine⟨by simp[BF],.inr ⟨_,m,_,rfl,wC _,h,wC _,by unfold maxLen;omega,by rw[List.size_toArray,aN (wC _),Nat.mul_one],?_⟩⟩;simp[DK,BF]
   replace O:=qH O;clear h;go_wp2;go_ret;exact⟨_,rfl,O.out,r⟩
end Go.Proofs.YtcnedkkcgdkioaaGreat
