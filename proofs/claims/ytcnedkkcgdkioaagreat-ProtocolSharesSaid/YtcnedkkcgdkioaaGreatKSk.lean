/- Texts of this claim, put together: TI L0 Sh M1 M2 V2. -/
import Derived.Test.YtcnedkkcgdkioaaGreatKSj
import Derived.Ground.SlsfProg
import Derived.Ground.SlgmProg
import Derived.Shelf.SlSortCmp.WholeK
import Derived.Shelf.SlSortCmp.Whole1
import Derived.Shelf.SortM.Plain
import Derived.Lib.AppendZeros
import Derived.Lib.SliceRun

set_option maxRecDepth 100000
set_option maxHeartbeats 12800000
namespace Go.Proofs.YtcnedkkcgdkioaaGreat
open Go.RowKit
abbrev Ex:=Int × Jb × Jb
def exNil:Ex:=(0,[],[])
def ExC (w:World) (b off:Nat) (xs:List Ex):Prop:=
 ∀j,j < xs.length->∃u1 u2,w.cell? ⟨b,off+j * 3,none⟩=some (.int .i64 (xs.getD j exNil).1)/\w.cell? ⟨b,off+j * 3+1,none⟩=some u1/\w.cell? ⟨b,off+j * 3+2,none⟩=some u2/\
  KS 7 w u1 (xs.getD j exNil).2.1/\Intss w u2 (xs.getD j exNil).2.2
theorem ExC.keep {w w':World}{b off:Nat}{xs:List Ex}(h:ExC w b off xs) (hb:Below w.heap.size w w'):ExC w' b off xs:=fun j hj=>by
 obtain⟨u1,u2,h1,h2,h3,h4,h5⟩:=h j hj;exact⟨u1,u2,cell_kept hb h1,cell_kept hb h2,cell_kept hb h3,h4.keep hb,h5.keep hb⟩
def ExS (w:World) (v:Value) (xs:List Ex):Prop:=
 ∃a c b off,v = .slice a xs.length c/\(0 < xs.length->a=some ⟨b,off,none⟩)/\ExC w b off xs/\xs.length<=1954687338268
theorem ExS.keep {w w':World}{v:Value}{xs:List Ex}(h:ExS w v xs) (hb:Below w.heap.size w w'):ExS w' v xs:=by
 obtain⟨a,c,b,off,h1,h2,h3,h4⟩:=h;exact⟨a,c,b,off,h1,h2,h3.keep hb,h4⟩
theorem ExS.at {w:World}{a:Option Addr}{c:Nat}{l:List Ex}(h:ExS w (.slice a l.length c) l) (h0:0 < l.length):∃b off,a=some ⟨b,off,none⟩/\ExC w b off l:=by
 obtain⟨a',c',b,off,hv,ha,hc,_⟩:=h;injection hv with e1 _ _;exact⟨b,off,e1.trans (ha h0),hc⟩
def SysV (w:World) (v:Value) (n i o:Int) (cs:List Cs) (an:Int) (ss:Jc) (r tn:Int) (vs:Jb) (xs:List Ex):Prop:=
 ∃a c a' c' va vc xa xc,v = .agg #[.int .i64 n,.int .i64 i,.int .i64 o,.slice a cs.length c,.int .i64 an,.slice a' ss.length c',.int .i64 r,.int .i64 tn,.slice va vs.length vc,.slice xa xs.length xc]/\
  PrV w (.agg #[.int .i64 n,.int .i64 i,.int .i64 o,.slice a cs.length c,.int .i64 an,.slice a' ss.length c',.int .i64 r]) n i o cs an ss r/\KS 8 w (.slice va vs.length vc) vs/\ExS w (.slice xa xs.length xc) xs
theorem SysV.keep {w w':World}{v:Value}{n i o an r tn:Int}{cs:List Cs}{ss:Jc}{vs:Jb}{xs:List Ex}(h:SysV w v n i o cs an ss r tn vs xs) (hb:Below w.heap.size w w'):SysV w' v n i o cs an ss r tn vs xs:=by
 obtain⟨a,c,a',c',va,vc,xa,xc,h1,h2,h3,h4⟩:=h;exact⟨a,c,a',c',va,vc,xa,xc,h1,h2.keep hb,h3.keep hb,h4.keep hb⟩
theorem box10' {W:World}{b:Nat}{v0 v1 v2 v3 v4 v5 v6 v7 v8 v9:Value}{T:TypeId}(h:W.heap[b]? = some (.cells #[v0,v1,v2,v3,v4,v5,v6,v7,v8,v9] T)):(W.cell? ⟨b,0,none⟩=some v0/\W.cell? ⟨b,1,none⟩=some v1/\W.cell? ⟨b,2,none⟩=some v2/\W.cell? ⟨b,3,none⟩=some v3/\W.cell? ⟨b,4,none⟩=some v4/\W.cell? ⟨b,5,none⟩=some v5/\W.cell? ⟨b,6,none⟩=some v6)/\W.cell? ⟨b,7,none⟩=some v7/\W.cell? ⟨b,8,none⟩=some v8/\W.cell? ⟨b,9,none⟩=some v9:=
 ⟨⟨by rw[cell_of_row _ _ 0 _ _ _ h];rfl,by rw[cell_of_row _ _ 1 _ _ _ h];rfl,by rw[cell_of_row _ _ 2 _ _ _ h];rfl,by rw[cell_of_row _ _ 3 _ _ _ h];rfl,by rw[cell_of_row _ _ 4 _ _ _ h];rfl,by rw[cell_of_row _ _ 5 _ _ _ h];rfl,by rw[cell_of_row _ _ 6 _ _ _ h];rfl⟩,by rw[cell_of_row _ _ 7 _ _ _ h];rfl,by rw[cell_of_row _ _ 8 _ _ _ h];rfl,by rw[cell_of_row _ _ 9 _ _ _ h];rfl⟩
theorem keep3' {W W1:World}{b:Nat}{v7 v8 v9:Value}(hb:Below W.heap.size W W1) (h:W.cell? ⟨b,7,none⟩=some v7/\W.cell? ⟨b,8,none⟩=some v8/\W.cell? ⟨b,9,none⟩=some v9):W1.cell? ⟨b,7,none⟩=some v7/\W1.cell? ⟨b,8,none⟩=some v8/\W1.cell? ⟨b,9,none⟩=some v9:=
 ⟨cell_kept hb h.1,cell_kept hb h.2.1,cell_kept hb h.2.2⟩
def KSC (k:Nat) (w:World) (v:Value) (xs:Jb):Prop:=
 ∃a c b off,v = .slice a xs.length c/\(0 < xs.length->a=some ⟨b,off,none⟩)/\CK k w b off xs/\xs.length<=2199023255552/\xs.length<=c
theorem KSC.ks {k:Nat}{w:World}{v:Value}{xs:Jb}(h:KSC k w v xs):KS k w v xs:=by
 obtain⟨a,c,b,off,h1,h2,h3,h4,_⟩:=h;exact⟨a,c,b,off,h1,h2,h3,h4⟩
theorem KSC.keep {k:Nat}{w w':World}{v:Value}{xs:Jb}(h:KSC k w v xs) (hb:Below w.heap.size w w'):KSC k w' v xs:=by
 obtain⟨a,c,b,off,h1,h2,h3,h4⟩:=h;exact⟨a,c,b,off,h1,h2,h3.keep hb,h4⟩
end Go.Proofs.YtcnedkkcgdkioaaGreat
namespace Go.Proofs
open Go.Shelf
def Tryz.sortVx_ren : Go.Shelf.Ren := ⟨fun | 6 => 153 | 15 => 100 | 14 => 203 | 28 => 165 | 29 => 166 | 20 => 232 | 21 => 233 | 22 => 234 | 23 => 235 | 24 => 236 | 25 => 237 | 26 => 238 | 27 => 239 | 46 => 261 | 47 => 205 | 48 => 206 | 49 => 262 | 50 => 263 | 57 => 276 | n => n, fun | 22 => 38 | 24 => 83 | 25 => 186 | 3 => 3 | 39 => 173 | 0 => 0 | 53 => 231 | 55 => 233 | 4 => 4 | 46 => 224 | 45 => 223 | 50 => 228 | 5 => 5 | 9 => 9 | 66 => 259 | 70 => 263 | 76 => 288 | 77 => 289 | n => n, fun | n => n⟩
theorem Tryz.sortVx : Go.Proofs.SlLaysF0.n6 Tryz.prog Tryz.sortVx_ren := {
  mixed := by kernel_rfl
  f6 := ⟨Tryz.f153.name, by decide, Tryz.func153.trans (congrArg some (by kernel_rfl))⟩
  f14 := ⟨Tryz.f203.name, by decide, Tryz.func203.trans (congrArg some (by kernel_rfl))⟩
  f15 := Tryz.func100.trans (congrArg some (by kernel_rfl))
  f20 := ⟨Tryz.f232.name, by decide, Tryz.func232.trans (congrArg some (by kernel_rfl))⟩
  f21 := ⟨Tryz.f233.name, by decide, Tryz.func233.trans (congrArg some (by kernel_rfl))⟩
  f22 := ⟨Tryz.f234.name, by decide, Tryz.func234.trans (congrArg some (by kernel_rfl))⟩
  f23 := ⟨Tryz.f235.name, by decide, Tryz.func235.trans (congrArg some (by kernel_rfl))⟩
  f24 := ⟨Tryz.f236.name, by decide, Tryz.func236.trans (congrArg some (by kernel_rfl))⟩
  f25 := ⟨Tryz.f237.name, by decide, Tryz.func237.trans (congrArg some (by kernel_rfl))⟩
  f26 := ⟨Tryz.f238.name, by decide, Tryz.func238.trans (congrArg some (by kernel_rfl))⟩
  f27 := ⟨Tryz.f239.name, by decide, Tryz.func239.trans (congrArg some (by kernel_rfl))⟩
  f28 := Tryz.func165.trans (congrArg some (by kernel_rfl))
  f29 := Tryz.func166.trans (congrArg some (by kernel_rfl))
  f46 := ⟨Tryz.f261.name, by decide, Tryz.func261.trans (congrArg some (by kernel_rfl))⟩
  f47 := Tryz.func205.trans (congrArg some (by kernel_rfl))
  f48 := Tryz.func206.trans (congrArg some (by kernel_rfl))
  f49 := ⟨Tryz.f262.name, by decide, Tryz.func262.trans (congrArg some (by kernel_rfl))⟩
  f50 := ⟨Tryz.f263.name, by decide, Tryz.func263.trans (congrArg some (by kernel_rfl))⟩
  f57 := ⟨Tryz.f276.name, by decide, Tryz.func276.trans (congrArg some (by kernel_rfl))⟩
  t0 := Tryz.underlying0
  a0 := Tryz.isAgg0
  z0 := Tryz.sizeOf0
  v0 := Tryz.zeroValue0
  t3 := Tryz.underlying3
  a3 := Tryz.isAgg3
  z3 := Tryz.sizeOf3
  v3 := Tryz.zeroValue3
  t4 := Tryz.underlying4
  a4 := Tryz.isAgg4
  z4 := Tryz.sizeOf4
  v4 := Tryz.zeroValue4
  t5 := Tryz.underlying5
  a5 := Tryz.isAgg5
  z5 := Tryz.sizeOf5
  v5 := Tryz.zeroValue5
  t9 := Tryz.underlying9
  a9 := Tryz.isAgg9
  z9 := Tryz.sizeOf9
  v9 := Tryz.zeroValue9
  t22 := Tryz.underlying38
  a22 := Tryz.isAgg38
  z22 := Tryz.sizeOf38
  v22 := Tryz.zeroValue38
  t25 := Tryz.underlying186
  a25 := Tryz.isAgg186
  z25 := Tryz.sizeOf186
  v25 := Tryz.zeroValue186
  t39 := Tryz.underlying173
  a39 := Tryz.isAgg173
  z39 := Tryz.sizeOf173
  v39 := Tryz.zeroValue173
  t45 := Tryz.underlying223
  a45 := Tryz.isAgg223
  z45 := Tryz.sizeOf223
  v45 := Tryz.zeroValue223
  t46 := Tryz.underlying224
  a46 := Tryz.isAgg224
  z46 := Tryz.sizeOf224
  v46 := Tryz.zeroValue224
  t50 := Tryz.underlying228
  a50 := Tryz.isAgg228
  z50 := Tryz.sizeOf228
  v50 := Tryz.zeroValue228
  t53 := Tryz.underlying231
  a53 := Tryz.isAgg231
  z53 := Tryz.sizeOf231
  v53 := Tryz.zeroValue231
  t55 := Tryz.underlying233
  a55 := Tryz.isAgg233
  z55 := Tryz.sizeOf233
  v55 := Tryz.zeroValue233
  t66 := Tryz.underlying259
  a66 := Tryz.isAgg259
  z66 := Tryz.sizeOf259
  v66 := Tryz.zeroValue259
  t70 := Tryz.underlying263
  a70 := Tryz.isAgg263
  z70 := Tryz.sizeOf263
  v70 := Tryz.zeroValue263
  t76 := Tryz.underlying288
  a76 := Tryz.isAgg288
  z76 := Tryz.sizeOf288
  v76 := Tryz.zeroValue288
  t77 := Tryz.underlying289
  a77 := Tryz.isAgg289
  z77 := Tryz.sizeOf289
  v77 := Tryz.zeroValue289 }
def Tryz.sortVs_ren : Go.Shelf.Ren := ⟨fun | 6 => 197 | 15 => 100 | 14 => 231 | 28 => 165 | 29 => 166 | 20 => 253 | 21 => 254 | 22 => 255 | 23 => 256 | 24 => 257 | 25 => 258 | 26 => 259 | 27 => 260 | 46 => 273 | 47 => 205 | 48 => 206 | 49 => 274 | 50 => 275 | 57 => 280 | n => n, fun | 22 => 55 | 24 => 38 | 25 => 129 | 3 => 3 | 39 => 173 | 0 => 0 | 53 => 231 | 55 => 233 | 4 => 4 | 46 => 224 | 45 => 223 | 50 => 228 | 5 => 5 | 9 => 9 | 66 => 259 | 70 => 263 | 76 => 288 | 77 => 289 | n => n, fun | n => n⟩
theorem Tryz.sortVs : Go.Proofs.SlLaysF.n6 Tryz.prog Tryz.sortVs_ren := {
  mixed := by kernel_rfl
  f6 := ⟨Tryz.f197.name, by decide, Tryz.func197.trans (congrArg some (by kernel_rfl))⟩
  f14 := ⟨Tryz.f231.name, by decide, Tryz.func231.trans (congrArg some (by kernel_rfl))⟩
  f15 := Tryz.func100.trans (congrArg some (by kernel_rfl))
  f20 := ⟨Tryz.f253.name, by decide, Tryz.func253.trans (congrArg some (by kernel_rfl))⟩
  f21 := ⟨Tryz.f254.name, by decide, Tryz.func254.trans (congrArg some (by kernel_rfl))⟩
  f22 := ⟨Tryz.f255.name, by decide, Tryz.func255.trans (congrArg some (by kernel_rfl))⟩
  f23 := ⟨Tryz.f256.name, by decide, Tryz.func256.trans (congrArg some (by kernel_rfl))⟩
  f24 := ⟨Tryz.f257.name, by decide, Tryz.func257.trans (congrArg some (by kernel_rfl))⟩
  f25 := ⟨Tryz.f258.name, by decide, Tryz.func258.trans (congrArg some (by kernel_rfl))⟩
  f26 := ⟨Tryz.f259.name, by decide, Tryz.func259.trans (congrArg some (by kernel_rfl))⟩
  f27 := ⟨Tryz.f260.name, by decide, Tryz.func260.trans (congrArg some (by kernel_rfl))⟩
  f28 := Tryz.func165.trans (congrArg some (by kernel_rfl))
  f29 := Tryz.func166.trans (congrArg some (by kernel_rfl))
  f46 := ⟨Tryz.f273.name, by decide, Tryz.func273.trans (congrArg some (by kernel_rfl))⟩
  f47 := Tryz.func205.trans (congrArg some (by kernel_rfl))
  f48 := Tryz.func206.trans (congrArg some (by kernel_rfl))
  f49 := ⟨Tryz.f274.name, by decide, Tryz.func274.trans (congrArg some (by kernel_rfl))⟩
  f50 := ⟨Tryz.f275.name, by decide, Tryz.func275.trans (congrArg some (by kernel_rfl))⟩
  f57 := ⟨Tryz.f280.name, by decide, Tryz.func280.trans (congrArg some (by kernel_rfl))⟩
  t0 := Tryz.underlying0
  a0 := Tryz.isAgg0
  z0 := Tryz.sizeOf0
  v0 := Tryz.zeroValue0
  t3 := Tryz.underlying3
  a3 := Tryz.isAgg3
  z3 := Tryz.sizeOf3
  v3 := Tryz.zeroValue3
  t4 := Tryz.underlying4
  a4 := Tryz.isAgg4
  z4 := Tryz.sizeOf4
  v4 := Tryz.zeroValue4
  t5 := Tryz.underlying5
  a5 := Tryz.isAgg5
  z5 := Tryz.sizeOf5
  v5 := Tryz.zeroValue5
  t9 := Tryz.underlying9
  a9 := Tryz.isAgg9
  z9 := Tryz.sizeOf9
  v9 := Tryz.zeroValue9
  t22 := Tryz.underlying55
  a22 := Tryz.isAgg55
  z22 := Tryz.sizeOf55
  v22 := Tryz.zeroValue55
  a24 := Tryz.isAgg38
  z24 := Tryz.sizeOf38
  t25 := Tryz.underlying129
  a25 := Tryz.isAgg129
  z25 := Tryz.sizeOf129
  v25 := Tryz.zeroValue129
  t39 := Tryz.underlying173
  a39 := Tryz.isAgg173
  z39 := Tryz.sizeOf173
  v39 := Tryz.zeroValue173
  t45 := Tryz.underlying223
  a45 := Tryz.isAgg223
  z45 := Tryz.sizeOf223
  v45 := Tryz.zeroValue223
  t46 := Tryz.underlying224
  a46 := Tryz.isAgg224
  z46 := Tryz.sizeOf224
  v46 := Tryz.zeroValue224
  t50 := Tryz.underlying228
  a50 := Tryz.isAgg228
  z50 := Tryz.sizeOf228
  v50 := Tryz.zeroValue228
  t53 := Tryz.underlying231
  a53 := Tryz.isAgg231
  z53 := Tryz.sizeOf231
  v53 := Tryz.zeroValue231
  t55 := Tryz.underlying233
  a55 := Tryz.isAgg233
  z55 := Tryz.sizeOf233
  v55 := Tryz.zeroValue233
  t66 := Tryz.underlying259
  a66 := Tryz.isAgg259
  z66 := Tryz.sizeOf259
  v66 := Tryz.zeroValue259
  t70 := Tryz.underlying263
  a70 := Tryz.isAgg263
  z70 := Tryz.sizeOf263
  v70 := Tryz.zeroValue263
  t76 := Tryz.underlying288
  a76 := Tryz.isAgg288
  z76 := Tryz.sizeOf288
  v76 := Tryz.zeroValue288
  t77 := Tryz.underlying289
  a77 := Tryz.isAgg289
  z77 := Tryz.sizeOf289
  v77 := Tryz.zeroValue289 }
def Tryz.sortII_ren : Go.Shelf.Ren := ⟨fun | 6 => 141 | 15 => 100 | 14 => 194 | 28 => 165 | 29 => 166 | 20 => 223 | 21 => 224 | 22 => 225 | 23 => 226 | 24 => 227 | 25 => 228 | 26 => 229 | 27 => 230 | 46 => 250 | 47 => 205 | 48 => 206 | 49 => 251 | 50 => 252 | 57 => 272 | n => n, fun | 22 => 78 | 24 => 48 | 25 => 208 | 3 => 3 | 39 => 173 | 0 => 0 | 53 => 231 | 55 => 233 | 4 => 4 | 46 => 224 | 45 => 223 | 50 => 228 | 5 => 5 | 9 => 9 | 66 => 259 | 70 => 263 | 76 => 288 | 77 => 289 | n => n, fun | n => n⟩
theorem Tryz.sortII : Go.Proofs.SlLaysF.n6 Tryz.prog Tryz.sortII_ren := {
  mixed := by kernel_rfl
  f6 := ⟨Tryz.f141.name, by decide, Tryz.func141.trans (congrArg some (by kernel_rfl))⟩
  f14 := ⟨Tryz.f194.name, by decide, Tryz.func194.trans (congrArg some (by kernel_rfl))⟩
  f15 := Tryz.func100.trans (congrArg some (by kernel_rfl))
  f20 := ⟨Tryz.f223.name, by decide, Tryz.func223.trans (congrArg some (by kernel_rfl))⟩
  f21 := ⟨Tryz.f224.name, by decide, Tryz.func224.trans (congrArg some (by kernel_rfl))⟩
  f22 := ⟨Tryz.f225.name, by decide, Tryz.func225.trans (congrArg some (by kernel_rfl))⟩
  f23 := ⟨Tryz.f226.name, by decide, Tryz.func226.trans (congrArg some (by kernel_rfl))⟩
  f24 := ⟨Tryz.f227.name, by decide, Tryz.func227.trans (congrArg some (by kernel_rfl))⟩
  f25 := ⟨Tryz.f228.name, by decide, Tryz.func228.trans (congrArg some (by kernel_rfl))⟩
  f26 := ⟨Tryz.f229.name, by decide, Tryz.func229.trans (congrArg some (by kernel_rfl))⟩
  f27 := ⟨Tryz.f230.name, by decide, Tryz.func230.trans (congrArg some (by kernel_rfl))⟩
  f28 := Tryz.func165.trans (congrArg some (by kernel_rfl))
  f29 := Tryz.func166.trans (congrArg some (by kernel_rfl))
  f46 := ⟨Tryz.f250.name, by decide, Tryz.func250.trans (congrArg some (by kernel_rfl))⟩
  f47 := Tryz.func205.trans (congrArg some (by kernel_rfl))
  f48 := Tryz.func206.trans (congrArg some (by kernel_rfl))
  f49 := ⟨Tryz.f251.name, by decide, Tryz.func251.trans (congrArg some (by kernel_rfl))⟩
  f50 := ⟨Tryz.f252.name, by decide, Tryz.func252.trans (congrArg some (by kernel_rfl))⟩
  f57 := ⟨Tryz.f272.name, by decide, Tryz.func272.trans (congrArg some (by kernel_rfl))⟩
  t0 := Tryz.underlying0
  a0 := Tryz.isAgg0
  z0 := Tryz.sizeOf0
  v0 := Tryz.zeroValue0
  t3 := Tryz.underlying3
  a3 := Tryz.isAgg3
  z3 := Tryz.sizeOf3
  v3 := Tryz.zeroValue3
  t4 := Tryz.underlying4
  a4 := Tryz.isAgg4
  z4 := Tryz.sizeOf4
  v4 := Tryz.zeroValue4
  t5 := Tryz.underlying5
  a5 := Tryz.isAgg5
  z5 := Tryz.sizeOf5
  v5 := Tryz.zeroValue5
  t9 := Tryz.underlying9
  a9 := Tryz.isAgg9
  z9 := Tryz.sizeOf9
  v9 := Tryz.zeroValue9
  t22 := Tryz.underlying78
  a22 := Tryz.isAgg78
  z22 := Tryz.sizeOf78
  v22 := Tryz.zeroValue78
  a24 := Tryz.isAgg48
  z24 := Tryz.sizeOf48
  t25 := Tryz.underlying208
  a25 := Tryz.isAgg208
  z25 := Tryz.sizeOf208
  v25 := Tryz.zeroValue208
  t39 := Tryz.underlying173
  a39 := Tryz.isAgg173
  z39 := Tryz.sizeOf173
  v39 := Tryz.zeroValue173
  t45 := Tryz.underlying223
  a45 := Tryz.isAgg223
  z45 := Tryz.sizeOf223
  v45 := Tryz.zeroValue223
  t46 := Tryz.underlying224
  a46 := Tryz.isAgg224
  z46 := Tryz.sizeOf224
  v46 := Tryz.zeroValue224
  t50 := Tryz.underlying228
  a50 := Tryz.isAgg228
  z50 := Tryz.sizeOf228
  v50 := Tryz.zeroValue228
  t53 := Tryz.underlying231
  a53 := Tryz.isAgg231
  z53 := Tryz.sizeOf231
  v53 := Tryz.zeroValue231
  t55 := Tryz.underlying233
  a55 := Tryz.isAgg233
  z55 := Tryz.sizeOf233
  v55 := Tryz.zeroValue233
  t66 := Tryz.underlying259
  a66 := Tryz.isAgg259
  z66 := Tryz.sizeOf259
  v66 := Tryz.zeroValue259
  t70 := Tryz.underlying263
  a70 := Tryz.isAgg263
  z70 := Tryz.sizeOf263
  v70 := Tryz.zeroValue263
  t76 := Tryz.underlying288
  a76 := Tryz.isAgg288
  z76 := Tryz.sizeOf288
  v76 := Tryz.zeroValue288
  t77 := Tryz.underlying289
  a77 := Tryz.isAgg289
  z77 := Tryz.sizeOf289
  v77 := Tryz.zeroValue289 }
def Tryz.sortI_ren : Go.Shelf.Ren := ⟨fun | 5 => 50 | 8 => 100 | 7 => 99 | 19 => 165 | 20 => 166 | 10 => 156 | 11 => 157 | 12 => 158 | 13 => 159 | 14 => 160 | 15 => 161 | 16 => 162 | 17 => 163 | 18 => 164 | 30 => 204 | 31 => 205 | 32 => 206 | 33 => 207 | 34 => 208 | 35 => 209 | 40 => 240 | n => n, fun | 23 => 48 | 25 => 3 | 3 => 3 | 32 => 173 | 22 => 48 | 0 => 0 | 44 => 231 | 46 => 233 | 4 => 4 | 36 => 224 | 35 => 223 | 41 => 228 | 5 => 5 | 9 => 9 | 53 => 259 | 57 => 263 | 63 => 288 | 64 => 289 | n => n, fun | n => n⟩
theorem Tryz.sortI : Go.Proofs.SlLaysM.n5 Tryz.prog Tryz.sortI_ren := {
  mixed := by kernel_rfl
  f5 := ⟨Tryz.f50.name, by decide, Tryz.func50.trans (congrArg some (by kernel_rfl))⟩
  f7 := ⟨Tryz.f99.name, by decide, Tryz.func99.trans (congrArg some (by kernel_rfl))⟩
  f8 := Tryz.func100.trans (congrArg some (by kernel_rfl))
  f10 := ⟨Tryz.f156.name, by decide, Tryz.func156.trans (congrArg some (by kernel_rfl))⟩
  f11 := ⟨Tryz.f157.name, by decide, Tryz.func157.trans (congrArg some (by kernel_rfl))⟩
  f12 := ⟨Tryz.f158.name, by decide, Tryz.func158.trans (congrArg some (by kernel_rfl))⟩
  f13 := ⟨Tryz.f159.name, by decide, Tryz.func159.trans (congrArg some (by kernel_rfl))⟩
  f14 := ⟨Tryz.f160.name, by decide, Tryz.func160.trans (congrArg some (by kernel_rfl))⟩
  f15 := ⟨Tryz.f161.name, by decide, Tryz.func161.trans (congrArg some (by kernel_rfl))⟩
  f16 := ⟨Tryz.f162.name, by decide, Tryz.func162.trans (congrArg some (by kernel_rfl))⟩
  f17 := ⟨Tryz.f163.name, by decide, Tryz.func163.trans (congrArg some (by kernel_rfl))⟩
  f18 := ⟨Tryz.f164.name, by decide, Tryz.func164.trans (congrArg some (by kernel_rfl))⟩
  f19 := Tryz.func165.trans (congrArg some (by kernel_rfl))
  f20 := Tryz.func166.trans (congrArg some (by kernel_rfl))
  f30 := ⟨Tryz.f204.name, by decide, Tryz.func204.trans (congrArg some (by kernel_rfl))⟩
  f31 := Tryz.func205.trans (congrArg some (by kernel_rfl))
  f32 := Tryz.func206.trans (congrArg some (by kernel_rfl))
  f33 := ⟨Tryz.f207.name, by decide, Tryz.func207.trans (congrArg some (by kernel_rfl))⟩
  f34 := ⟨Tryz.f208.name, by decide, Tryz.func208.trans (congrArg some (by kernel_rfl))⟩
  f35 := ⟨Tryz.f209.name, by decide, Tryz.func209.trans (congrArg some (by kernel_rfl))⟩
  f40 := ⟨Tryz.f240.name, by decide, Tryz.func240.trans (congrArg some (by kernel_rfl))⟩
  t0 := Tryz.underlying0
  a0 := Tryz.isAgg0
  z0 := Tryz.sizeOf0
  v0 := Tryz.zeroValue0
  t3 := Tryz.underlying3
  a3 := Tryz.isAgg3
  z3 := Tryz.sizeOf3
  v3 := Tryz.zeroValue3
  t4 := Tryz.underlying4
  a4 := Tryz.isAgg4
  z4 := Tryz.sizeOf4
  v4 := Tryz.zeroValue4
  t5 := Tryz.underlying5
  a5 := Tryz.isAgg5
  z5 := Tryz.sizeOf5
  v5 := Tryz.zeroValue5
  t9 := Tryz.underlying9
  a9 := Tryz.isAgg9
  z9 := Tryz.sizeOf9
  v9 := Tryz.zeroValue9
  t22 := Tryz.underlying48
  a22 := Tryz.isAgg48
  z22 := Tryz.sizeOf48
  v22 := Tryz.zeroValue48
  t23 := Tryz.underlying48
  a23 := Tryz.isAgg48
  z23 := Tryz.sizeOf48
  v23 := Tryz.zeroValue48
  t25 := Tryz.underlying3
  a25 := Tryz.isAgg3
  z25 := Tryz.sizeOf3
  v25 := Tryz.zeroValue3
  t32 := Tryz.underlying173
  a32 := Tryz.isAgg173
  z32 := Tryz.sizeOf173
  v32 := Tryz.zeroValue173
  t35 := Tryz.underlying223
  a35 := Tryz.isAgg223
  z35 := Tryz.sizeOf223
  v35 := Tryz.zeroValue223
  t36 := Tryz.underlying224
  a36 := Tryz.isAgg224
  z36 := Tryz.sizeOf224
  v36 := Tryz.zeroValue224
  t41 := Tryz.underlying228
  a41 := Tryz.isAgg228
  z41 := Tryz.sizeOf228
  v41 := Tryz.zeroValue228
  t44 := Tryz.underlying231
  a44 := Tryz.isAgg231
  z44 := Tryz.sizeOf231
  v44 := Tryz.zeroValue231
  t46 := Tryz.underlying233
  a46 := Tryz.isAgg233
  z46 := Tryz.sizeOf233
  v46 := Tryz.zeroValue233
  t53 := Tryz.underlying259
  a53 := Tryz.isAgg259
  z53 := Tryz.sizeOf259
  v53 := Tryz.zeroValue259
  t57 := Tryz.underlying263
  a57 := Tryz.isAgg263
  z57 := Tryz.sizeOf263
  v57 := Tryz.zeroValue263
  t63 := Tryz.underlying288
  a63 := Tryz.isAgg288
  z63 := Tryz.sizeOf288
  v63 := Tryz.zeroValue288
  t64 := Tryz.underlying289
  a64 := Tryz.isAgg289
  z64 := Tryz.sizeOf289
  v64 := Tryz.zeroValue289 }
end Go.Proofs
namespace Go.Proofs.YtcnedkkcgdkioaaGreat
open Go.RowKit Go.ChangeMaps Go.MapKept
def EWd (w:World) (cs:List Value) (x:Jb):Prop:=∃u,cs = [u]/\OwX 148 7 EI w 0 u x.length x
theorem EWd.stab {E:TypeId}(h:148 ≠ E):Stab E EWd:=fun _ _ _ _ ⟨u,h1,h2⟩ hx=>⟨u,h1,h2.other (EI.stab _) h hx⟩
open Go.RowKit Go.ChangeMaps Go.MapKept
theorem OwX.kss7 {E:TypeId}{w:World}{B n:Nat}{v:Value}{xs:Jc}(h:OwX E 1 EWd w B v n xs) (hn:n<=5864062014805) (hl:∀x∈xs,x.length<=2199023255552):KSS 7 w v xs:=by
 obtain⟨vs,h1,h2,h3,h4⟩:=h;have hvl:vs.length=n:=by have:=h1.1;simpa using this
 have key:∀g cap,v = .slice (some ⟨g,0,none⟩) n cap->CKK 7 w g 0 xs:=fun g cap hv j hj=>by
  subst hv;have hc:=fun j (hj:j < vs.length)=>World.ownsRow.cellAt h1 j (by omega);have hjn:j < n:=by omega
  have hx:xs[j]? = some (xs.getD j []):=by rw[getD_eq hj];exact List.getElem?_eq_some_iff.2 ⟨hj,rfl⟩
  obtain⟨u,hu,ho⟩:=h4 j _ hx;rw[Nat.mul_one] at hu
  have hvj:vs[j]? = some u:=by
   have h5:(vs.drop j).take 1 = [u]:=hu;rw[List.drop_eq_getElem_cons (by omega),List.take_succ_cons,List.take_zero] at h5;rw[List.getElem?_eq_getElem (by omega)];exact congrArg some (List.cons.inj h5).1
  exact⟨u,by rw[Nat.zero_add,hc j (by omega)];exact hvj,ho.ks (hl _ (by rw[getD_eq hj];exact List.getElem_mem hj))⟩
 rcases h1.2 with⟨h5,h6⟩|⟨g,cap,cur,k1,_⟩
 ·subst h5 h6;obtain rfl:=List.length_eq_zero_iff.1 h2;exact⟨none,0,0,0,rfl,by simp,by intro j hj;simp at hj,by simp⟩
 ·subst k1;exact⟨some ⟨g,0,none⟩,cap,g,0,by rw[h2],fun _=>rfl,key g cap rfl,by omega⟩
end Go.Proofs.YtcnedkkcgdkioaaGreat
namespace Go.Proofs.YtcnedkkcgdkioaaGreat
open Go.RowKit
theorem mask32_okV:((List.range 100).all fun x=>decide (bits .and .u64 (x:Int) 4294967295=(x:Int)))=true:=by decide +kernel
theorem mask32V {n:Nat}(h:n < 100):bits .and .u64 (n:Int) 4294967295=(n:Int):=of_decide_eq_true (List.all_eq_true.1 mask32_okV n (List.mem_range.2 h))
theorem mulOneV {n:Nat}(hn:n < 100) (w:World):Calls Tryz.prog 271 #[.int .u64 1,.int .u64 (n:Int)] w fun e w'=>e = .returned (.tuple #[.int .u64 0,.int .u64 (n:Int)])/\w'=w:=by
 have h1:=mask32V hn;have h2:bits .and .u64 1 4294967295=1:=mask32V (n:=1) (by omega);have h3:bits .and .u64 0 4294967295=0:=mask32V (n:=0) (by omega);have h5:IntKind.u64.wrap (n:Int)=(n:Int):=by rw[IntKind.wrap_u64];omega
 have h6:(n:Int) / 4294967296=0:=by omega
 go_enter Tryz.func271, Tryz.ntmps271
 go_wp2;go_ret2
 exact⟨rfl,rfl⟩
theorem mulOneV' {n:Nat}(hn:n < 100) (w:World):Calls Tryz.prog 248 #[.int .u64 1,.int .u64 (n:Int)] w fun e w'=>e = .returned (.tuple #[.int .u64 0,.int .u64 (n:Int)])/\w'=w:=by
 have h5:IntKind.u64.wrap (n:Int)=(n:Int):=by rw[IntKind.wrap_u64];omega
 go_enter Tryz.func248, Tryz.ntmps248
 go_wp2_with fail
 refine(mulOneV hn w).mono ?_;rintro e w2 ⟨rfl,hw2⟩;replace hw2:=hw2.symm;subst hw2;go_wp2;go_ret2
 exact⟨rfl,rfl⟩
def oneR (n m:Nat):List Value:=List.replicate m (.int .i64 1)++List.replicate (n - m) (.int .i64 0)
theorem oneR_len {n m:Nat}(h:m<=n):(oneR n m).length=n:=by simp[oneR];omega
theorem oneR_at {n m j:Nat}(h:j < m):(oneR n m)[j]? = some (.int .i64 1):=by
 rw[oneR,List.getElem?_append_left (by simpa using h),List.getElem?_replicate,if_pos h]
theorem oneR_step {n m p:Nat}(h:m+p<=n):(oneR n m).take m++List.replicate p (.int .i64 1)++(oneR n m).drop (m+p)=oneR n (m+p):=by
 have h1:(oneR n m).take m=List.replicate m (.int .i64 1):=by rw[oneR,List.take_left' (by simp)]
 have h2:(oneR n m).drop (m+p)=List.replicate (n - (m+p)) (.int .i64 0):=by
  rw[oneR,List.drop_append,List.drop_replicate,List.drop_replicate,List.length_replicate];rw[show m - (m+p)=0 by omega,show n - m - (m+p - m)=n - (m+p) by omega];simp
 rw[h1,h2,oneR,<-List.replicate_append_replicate]
theorem runCopyOne {W:World}{g n m p:Nat}(hg:W.heap[g]? = some (.cells (oneR n m).toArray 3)) (hm:m+p<=n) {a:Addr}{sl sc dc:Nat}(hp:p=Nat.min sl (n - m)) (hsrc:∀j,j < p->W.cell? (a.add j)=some (.int .i64 1)) (ty:TypeId) :
  (Builtin.copy_ #[48,48] ty #[.slice (some ⟨g,m,none⟩) (n - m) dc,.slice (some a) sl sc]).run Tryz.prog W = .ok (.int .i64 (p:Int)) (W.setRow g (oneR n (m+p)).toArray):=by
 have h:=run_copy_row (P:=Tryz.prog) W 48 48 ty 3 g m (n - m) dc a sl sc (oneR n m).toArray 3 (List.replicate p (.int .i64 1)) (by kernel_rfl) (by kernel_rfl) hg (by simpa using hp) (fun j v hj=>?_) (by rw[List.length_replicate,List.size_toArray,oneR_len (by omega)];exact hm) (fun v hv=>by rw[List.eq_of_mem_replicate hv];rfl)
 ·rw[h,List.length_replicate];show _=Result.ok _ (W.setRow g (oneR n (m+p)).toArray);rw[<-oneR_step hm];rfl
 ·have hjp:j < p:=by
   have:=(List.getElem?_eq_some_iff.1 hj).1
   rwa [List.length_replicate] at this
  rw[List.getElem?_replicate,if_pos hjp] at hj;injection hj with hj;subst hj;exact hsrc j hjp
theorem setRow_sameV {W:World}{g:Nat}{cur cs:Array Value}{t:TypeId}(hg:W.heap[g]? = some (.cells cur t)):(W.setRow g cs).heap[g]? = some (.cells cs t):=by
 simp[World.setRow,Array.getElem?_modify,hg]
theorem setRow_belowV {B:Nat}{w0 W:World}(h:Below B w0 W) {g:Nat}(hg:B<=g) (cs:Array Value):Below B w0 (W.setRow g cs):=
 h.trans ⟨rfl,rfl,rfl,by simp[World.setRow],fun k hk=>by simp[World.setRow,Array.getElem?_modify,show ¬g=k by omega]⟩
theorem runMakeI (n:Nat) (hn:n<=1000000) (w:World):(Instr.makeSlice 48 (.int .i64 (n:Int)) (.int .i64 (n:Int))).run Tryz.prog w = .ok (.slice (some ⟨w.heap.size,0,none⟩) n n) (w.alloc (.cells (oneR n 0).toArray 3)):=by
 have h:=run_make_row' (P:=Tryz.prog) 48 3 (.int .i64 0) 8 (by kernel_rfl) (by kernel_rfl) rfl .i64 .i64 n (by omega) (by omega) w;rw[h]
 have:madeCells #[.int .i64 0] n=(oneR n 0).toArray:=by
  have h1:=toList_madeCells_one (.int .i64 0) n;rw[oneR,List.replicate_zero,List.nil_append,Nat.sub_zero,<-h1,Array.toArray_toList]
 rw[this]
theorem repeatOne {w:World}{a:Addr}{c n:Nat}(hc:w.cell? a=some (.int .i64 1)) (hn0:0 < n) (hn:n<=90) :
  Calls Tryz.prog 220 #[.slice (some a) 1 c,.int .i64 (n:Int)] w fun e w'=>∃u,e = .returned u/\OI w' w.heap.size u n (natI (List.replicate n 1))/\Below w.heap.size w w':=by
 have hu:IntKind.u64.wrap (n:Int)=(n:Int):=by rw[IntKind.wrap_u64];omega
 have hi:IntKind.i64.wrap (n:Int)=(n:Int):=IntWalk.i64_in _ (by omega);have hlt0:decide ((n:Int) < 0)=false:=decide_eq_false (by omega);have hgt:decide ((9223372036854775807:Int) < (n:Int))=false:=decide_eq_false (by omega);have hM:=qH (fun W=>mulOneV' (n:=n) (by omega) W);have hmk:=runMakeI n (by omega);obtain⟨W1,hW1⟩:=exF (w.alloc (.cells (oneR n 0).toArray 3));have hb1:Below w.heap.size w W1:=by rw[hW1];exact(Below.refl _ _).alloc (Nat.le_refl _) _
 have hg1:W1.heap[w.heap.size]? = some (.cells (oneR n 0).toArray 3):=by rw[hW1];exact heap_alloc_new _ _
 have hcp:=runCopyOne (a:=a) (sl:=1) (sc:=c) (dc:=n) (p:=1) hg1 (by omega) (by rw[Nat.sub_zero];simp[Nat.min_def];omega) (fun j hj=>by
  have:j=0:=by omega
  subst this;have h2:=cell_kept hb1 hc;rwa [show a.add 0=a by unfold Addr.add;split<;>simp_all])
 rw[Nat.sub_zero] at hcp;rw[hW1] at hcp;go_enter Tryz.func220, Tryz.ntmps220
 go_wp2_with (go_at_call 248;refine(hM.out _).mono ?_;rintro e w2 ⟨rfl,hw2⟩;replace hw2:=hw2.symm;subst hw2)
 rw[<-hW1];rw[<-hW1] at hcp;have hs0:=setRow_sameV (cs:=(oneR n (0+1)).toArray) hg1;have hbs0:=setRow_belowV hb1 (Nat.le_refl _) (oneR n (0+1)).toArray;rw[Nat.zero_add] at hs0 hbs0;clear hcp hg1;have hmx : Tryz.prog.follows .mixedOrders=true:=by kernel_rfl
 go_loopw [8] (fun mv wr=>∃m:Nat,mv = .int .i64 m/\0 < m/\m<=n/\wr.heap[w.heap.size]? = some (.cells (oneR n m).toArray 3)/\Below w.heap.size w wr) (fun mv _=>n - (intOf mv).toNat)
 case atStart=>exact⟨1,rfl,by omega,by omega,hs0,hbs0⟩
 case round=>
  clear hs0 hbs0;obtain⟨m,rfl,hm0,hmn,hg,hbr⟩:=hrel;by_cases hlt:m < n
  ·have hmi:(m:Int) < (n:Int):=(by omega);have hmi2:(m:Int)<=(n:Int):=(by omega);have hm00:(0:Int)<=(m:Int):=(by omega);have hnm : ¬n=m:=(by omega);have hn00 : ¬n=0:=(by omega);obtain⟨p,hp⟩:=exF (Nat.min m (n - m));have hp2:p=min m (n - m):=hp;have hp0:0 < p:=(by omega);have hpm:p<=m:=(by omega);have hpn:m+p<=n:=by omega
   have hcp:=runCopyOne (W:=wr.drew) (a:=⟨w.heap.size,0,none⟩) (sl:=m) (sc:=n) (dc:=n - m) (p:=p) hg hpn hp (fun j hj=>by
    rw[Addr.add_lit,Nat.zero_add];exact cell_of_row _ _ j _ _ _ hg |>.trans (by rw[List.getElem?_toArray];exact oneR_at (by omega)))
   have hs1:=setRow_sameV (W:=wr.drew) (cs:=(oneR n (m+p)).toArray) hg;have hbs1:=setRow_belowV hbr.drew (Nat.le_refl _) (oneR n (m+p)).toArray;have hwp:IntKind.i64.wrap ((m:Int)+(p:Int))=((m+p:Nat):Int):=(by rw[<-Int.natCast_add];exact IntWalk.i64_in _ (by omega));replace hp:=qH hp;clear hp2 hg;go_wp2_with fail
   go_region_held3 (fun _=>True) (trivial) (fail)
   go_wp2;go_roundw
   case rel=>exact⟨m+p,by go_num,by omega,hpn,hs1,hbs1⟩
   case measure=>simp[intOf];omega
  ·obtain rfl:m=n:=(by omega);have hge : ¬((m:Int) < (m:Int)):=by omega
   have hOI:OI wr w.heap.size (.slice (some ⟨w.heap.size,0,none⟩) m m) m (natI (List.replicate m 1)):=by
    refine⟨by simp[natI],.inr ⟨_,m,_,rfl,Nat.le_refl _,hg,Nat.le_refl _,by unfold maxLen;omega,by rw[List.size_toArray,oneR_len (Nat.le_refl _),Nat.mul_one],?_⟩⟩;simp[oneR,natI]
   replace hOI:=qH hOI;clear hg;go_wp2;go_ret;exact⟨_,rfl,hOI.out,hbr⟩
end Go.Proofs.YtcnedkkcgdkioaaGreat
