/- Texts of this claim, put together: Lib. -/
import Derived.Test.YtmikofeildnpdaaGreatProg
import Derived.WalkKit
import Derived.WalkSpells
import Derived.WalkLawsBesides
import Derived.Deep.QuietTactic
import Derived.BigQuiet
import Derived.Lib.Hide

set_option maxRecDepth 100000
set_option maxHeartbeats 12800000
namespace Go.Proofs.YtmikofeildnpdaaGreat
open Go.RowKit
def Qt (w w':World):Prop:=∃n,w'=w.drewN n
theorem Qt.refl (w:World):Qt w w:=⟨0,rfl⟩
theorem Qt.mk' (w:World) (n:Nat):Qt w (w.drewN n):=⟨n,rfl⟩
theorem Qt.mk2 (w:World) (n m:Nat):Qt w ((w.drewN n).drewN m):=⟨n+m,by simp⟩
theorem Qt.trans {a b c:World}(h:Qt a b) (k:Qt b c):Qt a c:=by
 obtain⟨n,rfl⟩:=h;obtain⟨m,rfl⟩:=k;exact⟨n+m,by simp⟩
theorem Qt.below {a b:World}(h:Qt a b):Below a.heap.size a b:=by
 obtain⟨n,rfl⟩:=h;exact below_drewN (Below.refl _ _) n
theorem Qt.belowB {a b:World}(h:Qt a b) (B:Nat):Below B a b:=by
 obtain⟨n,rfl⟩:=h;exact below_drewN (Below.refl _ _) n
theorem bt {a b c:World}{B:Nat}(h:Below B a b) (k:Below b.heap.size b c) (hB:B≤b.heap.size):Below B a c:=h.trans (k.mono hB)
theorem btt {a b c:World}(h:Below a.heap.size a b) (k:Below b.heap.size b c):Below a.heap.size a c:=h.trans (k.mono h.size)
theorem cell_kept {w w':World}(h:Below w.heap.size w w') {p:Addr}{v:Value}(hc:w.cell? p=some v):w'.cell? p=some v:=
 (h.cell (World.block_lt_of_cell? w p hc)).trans hc
def CI (w:World) (b off:Nat) (xs:List Int):Prop:=∀j,j < xs.length→w.cell? ⟨b,off+j,none⟩=some (.int .i64 (xs.getD j 0))
theorem CI.keep {w w':World}{b off:Nat}{xs:List Int}(h:CI w b off xs) (hb:Below w.heap.size w w'):CI w' b off xs:=fun j hj=>cell_kept hb (h j hj)
theorem CI.qt {w w':World}{b off:Nat}{xs:List Int}(h:CI w b off xs) (hb:Qt w w'):CI w' b off xs:=h.keep hb.below
def Ints (w:World) (v:Value) (xs:List Int):Prop:=
 ∃a c b off,v = .slice a xs.length c∧(0 < xs.length→a=some ⟨b,off,none⟩)∧CI w b off xs∧xs.length≤17592186044416
theorem Ints.keep {w w':World}{v:Value}{xs:List Int}(h:Ints w v xs) (hb:Below w.heap.size w w'):Ints w' v xs:=by
 obtain⟨a,c,b,off,hv,ha,hc,hl⟩:=h;exact⟨a,c,b,off,hv,ha,hc.keep hb,hl⟩
theorem Ints.drew {w:World}{v:Value}{xs:List Int}(h:Ints w v xs) (n:Nat):Ints (w.drewN n) v xs:=h
theorem Ints.nil (w:World) (a:Option Addr) (c:Nat):Ints w (.slice a 0 c) []:=⟨a,c,0,0,rfl,by simp,by intro j hj;simp at hj,by simp⟩
def CII (w:World) (b off:Nat) (xs:List (List Int)):Prop:=∀j,j < xs.length→∃u,w.cell? ⟨b,off+j,none⟩=some u∧Ints w u (xs.getD j [])
theorem CII.keep {w w':World}{b off:Nat}{xs:List (List Int)}(h:CII w b off xs) (hb:Below w.heap.size w w'):CII w' b off xs:=
 fun j hj=>let ⟨u,h1,h2⟩:=h j hj;⟨u,cell_kept hb h1,h2.keep hb⟩
theorem CII.qt {w w':World}{b off:Nat}{xs:List (List Int)}(h:CII w b off xs) (hb:Qt w w'):CII w' b off xs:=h.keep hb.below
def Intss (w:World) (v:Value) (xs:List (List Int)):Prop:=
 ∃a c b off,v = .slice a xs.length c∧(0 < xs.length→a=some ⟨b,off,none⟩)∧CII w b off xs∧xs.length≤5864062014805
theorem Intss.keep {w w':World}{v:Value}{xs:List (List Int)}(h:Intss w v xs) (hb:Below w.heap.size w w'):Intss w' v xs:=by
 obtain⟨a,c,b,off,hv,ha,hc,hl⟩:=h;exact⟨a,c,b,off,hv,ha,hc.keep hb,hl⟩
theorem getD_eq {α:Type}{xs:List α}{k:Nat}(h:k < xs.length) (d:α):xs.getD k d=xs[k]:=by simp[h]
theorem take_snoc {α:Type}{xs:List α}{k:Nat}(h:k < xs.length) (d:α):xs.take (k+1)=xs.take k ++ [xs.getD k d]:=by
 rw[List.take_succ_eq_append_getElem h,getD_eq h]
theorem drop_cons {α:Type}{xs:List α}{k:Nat}(h:k < xs.length) (d:α):xs.drop k=xs.getD k d::xs.drop (k+1):=by
 rw[getD_eq h,List.drop_eq_getElem_cons h]
theorem mem_take_of {xs:List Int}{m k:Nat}(hlt:k < xs.length) (hmk:m < k) (he:xs[m]?.getD 0=xs[k]):xs.getD k 0∈xs.take k:=by
 rw[getD_eq hlt,←he,List.mem_iff_getElem?];exact⟨m,by rw[List.getElem?_take,if_pos hmk,List.getElem?_eq_getElem (by omega)];simp⟩
theorem ret_bool {a b:Bool}(h:a=b):Ending.returned (.bool a) = .returned (.bool b):=by rw[h]
theorem ret_int {k:IntKind}{a b:Int}(h:a=b):Ending.returned (.int k a) = .returned (.int k b):=by rw[h]
theorem exE {α : Sort _}(e : α) : ∃x,e = x:=⟨e,rfl⟩
theorem exF {α : Sort _}(e : α) : ∃x,x = e:=⟨e,rfl⟩
theorem qH {p : Prop}(h : p) : Hid p:=h
end Go.Proofs.YtmikofeildnpdaaGreat
