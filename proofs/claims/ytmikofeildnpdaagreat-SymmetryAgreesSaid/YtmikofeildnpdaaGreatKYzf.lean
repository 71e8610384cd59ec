/- Texts of this claim, put together: ZL ZM. -/
import Derived.Test.YtmikofeildnpdaaGreatKYze
import Derived.Test.YtmikofeildnpdaaGreatKYv
import Derived.Test.YtmikofeildnpdaaGreatKYq

set_option maxRecDepth 100000
set_option maxHeartbeats 12800000
/- Rows of cases that a call made; their sort. -/
namespace Go.Proofs.YtmikofeildnpdaaGreat
open Go.RowKit
open Go.Shelf Go.Lib Go.Sort
def ECs (w:World) (cs:List Value) (x:Cs):Prop:=∃ u0 u1 u2,cs = [u0,u1,u2]∧OI w 0 u0 x.1.length x.1∧OII w 0 u1 x.2.1.length x.2.1∧OII w 0 u2 x.2.2.length x.2.2∧x.1.length≤1000
theorem ECs.stab:Stab 128 ECs:=fun _ _ _ _ ⟨u0,u1,u2,h,h0,h1,h2,hl⟩ hx=>⟨u0,u1,u2,h,ownsRow_X h0 (by decide) hx,h1.otherX (by decide) (by decide) hx,h2.otherX (by decide) (by decide) hx,hl⟩
theorem elemCs:ElemK Tryz.prog 62 128 (.agg #[.slice none 0 0,.slice none 0 0,.slice none 0 0]) 3 72:=⟨by kernel_rfl,by kernel_rfl,rfl⟩
theorem caseCompareC {w:World} {u0 u1 u2 v0 v1 v2:Value} {x y:List Int} (hx:OI w 0 u0 x.length x) (hy:OI w 0 v0 y.length y) (lx:x.length≤1000) (ly:y.length≤1000) :
  Calls Tryz.prog 116 #[.agg #[u0,u1,u2],.agg #[v0,v1,v2]] w fun e w'=>e = .returned (.int .i64 (cmpL x y))∧Go.RowKit.Below w.heap.size w w'∧w.drawn≤w'.drawn:=by
 have hb:Go.RowKit.Below w.heap.size w ((w.alloc (.cells #[u0,u1,u2] 128)).alloc (.cells #[v0,v1,v2] 128)):=((Go.RowKit.Below.refl _ _).alloc (Nat.le_refl _) _).alloc (by simp) _
 have HC:=Lib.hid (fun W (hb:Go.RowKit.Below w.heap.size w W)=>cmpIntsC ((hx.keep hb).ints (by omega)) ((hy.keep hb).ints (by omega)))
 obtain ⟨R,hR⟩:=exE (cmpL x y)
 rw [hR] at HC ⊢
 clear hR hx hy
 go_enter Tryz.func116, Tryz.ntmps116
 go_wp2_with fail
 refine (HC.out _ hb).mono ?_; rintro e w1 ⟨rfl,hw1⟩
 subst hw1
 go_wp2
 go_ret
 exact ⟨rfl,hb,Nat.le_refl _⟩
theorem sortCases {w:World} {B g n cap:Nat} {xs:List Cs} (h:OwX 128 3 ECs w B (.slice (some ⟨g,0,none⟩) n cap) n xs) (hn0:0 < n) (hn:n≤1000000) :
  Calls Tryz.prog 115 #[.slice (some ⟨g,0,none⟩) n cap,.func (.func 116) #[] #[]] w fun e w'=>
   e = .returned (.tuple #[])∧∃ ys:List Cs,ys.Perm xs∧ys.Pairwise (fun a b=>¬ cmpC b a < 0)∧OwX 128 3 ECs w' B (.slice (some ⟨g,0,none⟩) n cap) n ys∧Go.RowKit.Below B w w'∧KeepX 128 w w':=by
 have aE:∀ w,(isAgg (Tryz.sortCs_ren.t 24)).run Tryz.prog w = .ok true w:=fun w=>by kernel_rfl
 have zE:∀ w,(Go.sizeOf (Tryz.sortCs_ren.t 24)).run Tryz.prog w = .ok 3 w:=fun w=>by kernel_rfl
 have eg:∀ args w,(callFunc 116 args).run Tryz.prog w = .ok (.enter 116 args) w:=enters_of Tryz.func116 (by kernel_rfl) rfl
 exact sortOwX Tryz.sortCs (by decide) aE zE ECs.stab (cf:=cmpC) (fun a b h k=>cmpL_asymm _ _ h k) (fun a b c h k=>cmpL_trans _ _ _ h k) (fun a b c h k=>cmpL_ntrans _ _ _ h k) eg
  (fun W hk cs ds x y hx hy _ _=>by
   obtain ⟨u0,u1,u2,rfl,a0,a1,a2,al⟩:=ECs.stab _ _ _ _ hx hk
   obtain ⟨v0,v1,v2,rfl,b0,b1,b2,bl⟩:=ECs.stab _ _ _ _ hy hk
   exact caseCompareC a0 b0 al bl) h hn0 hn
theorem OwX.css {w:World} {B n:Nat} {v:Value} {xs:List Cs} (h:OwX 128 3 ECs w B v n xs) (hn:n≤1000000) (hl:∀ x∈xs,x.2.1.length≤1000000∧x.2.2.length≤1000000∧(∀ y∈x.2.1,y.length≤1000)∧∀ y∈x.2.2,y.length≤1000):CsS w v xs:=by
 have hxl:=h.length
 rcases Nat.eq_zero_or_pos n with h0 | h0
 ·subst h0
  obtain rfl:=List.length_eq_zero_iff.1 hxl
  obtain ⟨a,c,rfl⟩:=h.shape
  exact ⟨a,c,0,0,rfl,fun h=>absurd h (Nat.lt_irrefl 0),fun j hj=>absurd hj (Nat.not_lt_zero j),Nat.zero_le _⟩
 ·obtain ⟨g,cap,rfl,_⟩:=h.form h0
  refine ⟨_,_,g,0,by rw [hxl],fun _=>rfl,fun j hj=>?_,by omega⟩
  obtain ⟨cs,hc,⟨u0,u1,u2,rfl,a0,a1,a2,al⟩,hcl⟩:=h.cells (j:=j) (x:=xs.getD j csNil) (by rw [getD_eq hj]; exact List.getElem?_eq_getElem hj)
  obtain ⟨l1,l2,l3,l4⟩:=hl _ (getD_mem (d:=csNil) hj)
  refine ⟨u0,u1,u2,?_,?_,?_,a0.ints (by omega),a1.intss (by omega) fun x hx=>by have:=l3 x hx; omega,a2.intss (by omega) fun x hx=>by have:=l4 x hx; omega⟩
  ·have:=hcl 0 u0 rfl; rwa [Nat.add_zero,← Nat.zero_add (j * 3)] at this
  ·have:=hcl 1 u1 rfl; rwa [← Nat.zero_add (j * 3)] at this
  ·have:=hcl 2 u2 rfl; rwa [← Nat.zero_add (j * 3)] at this
end Go.Proofs.YtmikofeildnpdaaGreat

/- task.Permute: its region 13. -/
namespace Go.Proofs.YtmikofeildnpdaaGreat
open Go.RowKit
def KeepP (w w':World):Prop:=∀ (k:Nat) (cs:Array Value) (t:TypeId),w.heap[k]? = some (.cells cs t)→t ≠ 128→t ≠ 64→w'.heap[k]? = w.heap[k]?
theorem KeepP.below {w w':World} (h:Below w.heap.size w w'):KeepP w w':=fun k _ _ hk _ _=>h.block k (Array.getElem?_eq_some_iff.1 hk).1
theorem KeepP.refl (w:World):KeepP w w:=fun _ _ _ _ _ _=>rfl
theorem KeepP.ofX {w w':World} (h:KeepX 128 w w'):KeepP w w':=fun k cs t hk h1 _=>h k cs t hk h1
theorem ownsRow_P {E:TypeId} {w w':World} {B k:Nat} {v:Value} {n:Nat} {xs:List Value} (h:w.ownsRow B E k v n xs) (h1:E ≠ 128) (h2:E ≠ 64) (hx:KeepP w w'):w'.ownsRow B E k v n xs:=by
 refine ⟨h.1,?_⟩
 rcases h.2 with h' | ⟨g,cap,cur,k1,k2,k3,k4⟩
 ·exact .inl h'
 ·exact .inr ⟨g,cap,cur,k1,k2,(hx g cur E k3 h1 h2).trans k3,k4⟩
theorem OI.keepP {w w':World} {B n:Nat} {v:Value} {xs:List Int} (h:OI w B v n xs) (hx:KeepP w w'):OI w' B v n xs:=ownsRow_P h (by decide) (by decide) hx
theorem OII.keepP {w w':World} {B n:Nat} {v:Value} {xss:List (List Int)} (h:OII w B v n xss) (hx:KeepP w w'):OII w' B v n xss:=by
 obtain ⟨vs,k1,k2,k3,k4⟩:=h
 exact ⟨vs,ownsRow_P k1 (by decide) (by decide) hx,k2,k3,fun j hj=>(k4 j hj).keepP hx⟩
theorem ECs.keepP {w w':World} {cs:List Value} {x:Cs} (h:ECs w cs x) (hx:KeepP w w'):ECs w' cs x:=by
 obtain ⟨u0,u1,u2,e,h0,h1,h2,hl⟩:=h
 exact ⟨u0,u1,u2,e,h0.keepP hx,h1.keepP hx,h2.keepP hx,hl⟩
theorem intss1 {w:World} {g:Nat} {u:Value} {x:List Int} (h:w.heap[g]? = some (.cells #[u] 25)) (hx:Ints w u x):Intss w (.slice (some ⟨g,0,none⟩) 1 1) [x]:=by
 refine ⟨_,_,g,0,rfl,fun _=>rfl,fun k hk=>?_,show 1≤5864062014805 by decide⟩
 obtain rfl:k=0:=by simpa using hk
 exact ⟨u,cell_of_one h,hx⟩
theorem mvAll_one (a x:List Int):mvAll a [x] = [movedL a x]:=List.perm_singleton.1 (srtB_perm weakL _)
theorem OII.at0 {w:World} {v:Value} {x:List Int} (h:OII w 0 v 1 [x]):∃ g c cs u,v = .slice (some ⟨g,0,none⟩) 1 c∧w.heap[g]? = some (.cells cs 25)∧cs[0]? = some u∧OI w 0 u x.length x:=by
 obtain ⟨vs,k1,_,_,k4⟩:=h
 have hl:vs.length=1:=k1.1
 rcases k1.2 with ⟨_,h0⟩ | ⟨g,cap,cur,he,h2,h3,h4,h5,h6,h7⟩
 ·cases h0
 ·refine ⟨g,cap,cur,vs.getD 0 undef,he,h3,?_,k4 0 (by decide)⟩
  have:=World.ownsRow.cellAt (he ▸ k1) 0 (by omega)
  rw [cell_of_row _ _ 0 _ _ _ h3] at this
  rw [this,getD_eq (by omega)]
  exact List.getElem?_eq_getElem _
theorem OI.one {w:World} {B n:Nat} {v:Value} {xs:List Int} (h:OI w B v n xs):v.oneCell'=true:=by obtain ⟨a,c,rfl⟩:=h.shape; rfl
theorem ECs.stabT:Stab 64 ECs:=fun _ _ _ _ ⟨u0,u1,u2,h,h0,h1,h2,hl⟩ hx=>⟨u0,u1,u2,h,ownsRow_X h0 (by decide) hx,h1.otherX (by decide) (by decide) hx,h2.otherX (by decide) (by decide) hx,hl⟩
def oPermute13_0:Oper:=⟨some 43,Op.fieldAddr 64 (Operand.tmp 8) 3,0,"task.go:227",#[],none⟩
def oPermute13_1:Oper:=⟨some 44,Op.load 62 (Operand.tmp 43),62,"task.go:227",#[⟨0,.data⟩],none⟩
def oPermute13_2:Oper:=⟨some 45,Op.fieldAddr 128 (Operand.tmp 10) 0,0,"task.go:227",#[],none⟩
def oPermute13_3:Oper:=⟨some 46,Op.load 25 (Operand.tmp 45),25,"task.go:227",#[⟨2,.data⟩],none⟩
def oPermute13_4:Oper:=⟨some 47,Op.buildSlice 39 1 #[(0,Operand.tmp 46)],39,"task.go:227",#[⟨3,.data⟩],none⟩
def oPermute13_5:Oper:=⟨some 48,Op.move (Operand.tmp 1),25,"task.go:227",#[],none⟩
def oPermute13_6:Oper:=⟨some 49,Op.call { callee:=Callee.value (Operand.func 114),args:=#[Operand.tmp 47,Operand.tmp 48],argTypes:=#[39,25] },39,"task.go:227",#[⟨4,.data⟩,⟨5,.data⟩],none⟩
def oPermute13_7:Oper:=⟨some 50,Op.indexAddr 39 (Operand.tmp 49) (Operand.const (Value.int IntKind.i64 0)),0,"task.go:227",#[⟨6,.data⟩],none⟩
def oPermute13_8:Oper:=⟨some 51,Op.load 25 (Operand.tmp 50),25,"task.go:227",#[⟨7,.data⟩],none⟩
def oPermute13_9:Oper:=⟨some 52,Op.fieldAddr 128 (Operand.tmp 10) 1,0,"task.go:227",#[],none⟩
def oPermute13_10:Oper:=⟨some 53,Op.load 39 (Operand.tmp 52),39,"task.go:227",#[⟨9,.data⟩],none⟩
def oPermute13_11:Oper:=⟨some 54,Op.move (Operand.tmp 1),25,"task.go:227",#[],none⟩
def oPermute13_12:Oper:=⟨some 55,Op.call { callee:=Callee.value (Operand.func 114),args:=#[Operand.tmp 53,Operand.tmp 54],argTypes:=#[39,25] },39,"task.go:227",#[⟨10,.data⟩,⟨11,.data⟩,⟨6,.chain⟩],none⟩
def oPermute13_13:Oper:=⟨some 56,Op.fieldAddr 128 (Operand.tmp 10) 2,0,"task.go:227",#[],none⟩
def oPermute13_14:Oper:=⟨some 57,Op.load 39 (Operand.tmp 56),39,"task.go:227",#[⟨13,.data⟩],none⟩
def oPermute13_15:Oper:=⟨some 58,Op.move (Operand.tmp 1),25,"task.go:227",#[],none⟩
def oPermute13_16:Oper:=⟨some 59,Op.call { callee:=Callee.value (Operand.func 114),args:=#[Operand.tmp 57,Operand.tmp 58],argTypes:=#[39,25] },39,"task.go:227",#[⟨14,.data⟩,⟨15,.data⟩,⟨12,.chain⟩],none⟩
def oPermute13_17:Oper:=⟨some 60,Op.build 128 #[(0,Operand.tmp 51),(1,Operand.tmp 55),(2,Operand.tmp 59)],128,"task.go:227",#[⟨8,.data⟩,⟨12,.data⟩,⟨16,.data⟩],none⟩
def oPermute13_18:Oper:=⟨some 61,Op.buildSlice 62 1 #[(0,Operand.tmp 60)],62,"task.go:227",#[⟨17,.data⟩],none⟩
def oPermute13_19:Oper:=⟨some 62,Op.call { callee:=Callee.builtin Builtin.append,args:=#[Operand.tmp 44,Operand.tmp 61],argTypes:=#[62,62] },62,"task.go:227",#[⟨1,.data⟩,⟨18,.data⟩,⟨16,.chain⟩],none⟩
def oPermute13_20:Oper:=⟨some 63,Op.fieldAddr 64 (Operand.tmp 8) 3,0,"task.go:227",#[⟨0,.phase⟩,⟨1,.phase⟩,⟨2,.phase⟩,⟨3,.phase⟩,⟨4,.phase⟩,⟨5,.phase⟩,⟨6,.phase⟩,⟨7,.phase⟩,⟨8,.phase⟩,⟨9,.phase⟩,⟨10,.phase⟩,⟨11,.phase⟩,⟨12,.phase⟩,⟨13,.phase⟩,⟨14,.phase⟩,⟨15,.phase⟩,⟨16,.phase⟩,⟨17,.phase⟩,⟨18,.phase⟩,⟨19,.phase⟩],none⟩
def oPermute13_21:Oper:=⟨none,Op.store 62 (Operand.tmp 63) (Operand.tmp 62),0,"task.go:227",#[⟨20,.data⟩,⟨19,.data⟩,⟨19,.chain⟩,⟨0,.phase⟩,⟨1,.phase⟩,⟨2,.phase⟩,⟨3,.phase⟩,⟨4,.phase⟩,⟨5,.phase⟩,⟨6,.phase⟩,⟨7,.phase⟩,⟨8,.phase⟩,⟨9,.phase⟩,⟨10,.phase⟩,⟨11,.phase⟩,⟨12,.phase⟩,⟨13,.phase⟩,⟨14,.phase⟩,⟨15,.phase⟩,⟨16,.phase⟩,⟨17,.phase⟩,⟨18,.phase⟩,⟨19,.phase⟩],none⟩
def opsPermute13:List Oper:=[oPermute13_0,oPermute13_1,oPermute13_2,oPermute13_3,oPermute13_4,oPermute13_5,oPermute13_6,oPermute13_7,oPermute13_8,oPermute13_9,oPermute13_10,oPermute13_11,oPermute13_12,oPermute13_13,oPermute13_14,oPermute13_15,oPermute13_16,oPermute13_17,oPermute13_18,oPermute13_19,oPermute13_20,oPermute13_21]
theorem regPermute13 {w:World} {x0 x2 x3 x4 x5 x6 x7 x9 x11 x12 x13 x14 x15 x16 x17 x18 x19 x20 x21 x22 x23 x24 x25 x26 x27 x28 x29 x30 x31 x32 x33 x34 x35 x36 x37 x38 x39 x40 x41 x42 x43 x44 x45 x46 x47 x48 x49 x50 x51 x52 x53 x54 x55 x56 x57 x58 x59 x60 x61 x62 x63 x64 x65 x66 x67 x68:Value} {Q:Exit→Act→World→Prop} {b8 b10 B j an uc cn ce n1 z1 n2 z2 nn:Nat} {n i o:Int} {ua ca c1 c2:Option Addr} {tv:Value} {a:List Int} {x:Cs} {xs:List Cs}
  (q8:w.heap[b8]? = some (.cells #[.int .i64 n,.int .i64 i,.int .i64 o,tv] 64)) (q10:w.heap[b10]? = some (.cells #[.slice ca cn ce,.slice c1 n1 z1,.slice c2 n2 z2] 128)) (hB8:B≤b8) (hBw:B≤w.heap.size)
  (hT:OwX 128 3 ECs w B tv j xs) (hj:j≤1000000) (hn1:1≤nn) (hn5:nn≤5) (ha:IsP nn a) (hx:x.1.length=nn∧(∀ y∈x.2.1,y.length=nn)∧∀ y∈x.2.2,y.length=nn) (hx1:x.2.1.length≤100000) (hx2:x.2.2.length≤100000)
  (h0:Ints w (.slice ca cn ce) x.1) (h1:Intss w (.slice c1 n1 z1) x.2.1) (h2:Intss w (.slice c2 n2 z2) x.2.2) (hu:Ints w (.slice ua an uc) a)
  (hfin:∀ (y4 y6 y7 y8 y12 y16 y17 y18 y19 _y21:Value) (W:World),(((fun i=>decide (i < 22)) 19=false→Below w.heap.size w W)∧((fun i=>decide (i < 22)) 18=true→(fun i=>decide (i < 22)) 19=false→∃ g u0 u1 u2,y18 = .slice (some ⟨g,0,none⟩) 1 1∧W.heap[g]? = some (.cells #[u0,u1,u2] 128)∧ECs W [u0,u1,u2] (renC a x)∧u0.oneCell'=true∧u1.oneCell'=true∧u2.oneCell'=true)∧((fun i=>decide (i < 22)) 19=true→(fun i=>decide (i < 22)) 21=false→OwX 128 3 ECs W B y19 (j+1) (xs ++ [renC a x])∧Below B w W∧W.heap[b8]? = some (.cells #[.int .i64 n,.int .i64 i,.int .i64 o,tv] 64))∧((fun i=>decide (i < 22)) 21=true→OwX 128 3 ECs W B y19 (j+1) (xs ++ [renC a x])∧Below B w W∧W.heap[b8]? = some (.cells #[.int .i64 n,.int .i64 i,.int .i64 o,y19] 64)))→(∃ g,y4 = .slice (some ⟨g,0,none⟩) 1 1∧W.heap[g]? = some (.cells #[.slice ca cn ce] 25))→(OII W 0 y6 1 [movedL a x.1])→(∃ g cs u,y7 = .pointer (some ⟨g,0,none⟩)∧W.heap[g]? = some (.cells cs 25)∧cs[0]? = some u∧OI W 0 u (movedL a x.1).length (movedL a x.1))→(OI W 0 y8 (movedL a x.1).length (movedL a x.1))→(OII W 0 y12 (mvAll a x.2.1).length (mvAll a x.2.1))→(OII W 0 y16 (mvAll a x.2.2).length (mvAll a x.2.2))→(∃ u0 u1 u2,y17 = .agg #[u0,u1,u2]∧ECs W [u0,u1,u2] (renC a x))→(True)→(True)→(True)→Q .normal ⟨List.toArray (x0::.slice ua an uc::x2::x3::x4::x5::x6::x7::.pointer (some ⟨b8,0,none⟩)::x9::.pointer (some ⟨b10,0,none⟩)::x11::x12::x13::x14::x15::x16::x17::x18::x19::x20::x21::x22::x23::x24::x25::x26::x27::x28::x29::x30::x31::x32::x33::x34::x35::x36::x37::x38::x39::x40::x41::x42::.pointer (some ⟨b8,3,none⟩)::tv::.pointer (some ⟨b10,0,none⟩)::.slice ca cn ce::y4::.slice ua an uc::y6::y7::y8::.pointer (some ⟨b10,1,none⟩)::.slice c1 n1 z1::.slice ua an uc::y12::.pointer (some ⟨b10,2,none⟩)::.slice c2 n2 z2::.slice ua an uc::y16::y17::y18::y19::.pointer (some ⟨b8,3,none⟩)::x64::x65::x66::x67::x68::[]),[]⟩ W) :
  (Code.region 13 opsPermute13.toArray true).wp Tryz.prog Q ⟨List.toArray (x0::.slice ua an uc::x2::x3::x4::x5::x6::x7::.pointer (some ⟨b8,0,none⟩)::x9::.pointer (some ⟨b10,0,none⟩)::x11::x12::x13::x14::x15::x16::x17::x18::x19::x20::x21::x22::x23::x24::x25::x26::x27::x28::x29::x30::x31::x32::x33::x34::x35::x36::x37::x38::x39::x40::x41::x42::x43::x44::x45::x46::x47::x48::x49::x50::x51::x52::x53::x54::x55::x56::x57::x58::x59::x60::x61::x62::x63::x64::x65::x66::x67::x68::[]),[]⟩ w:=by
 obtain ⟨fr,hfr⟩:∃ fr:Value→Value→Value→Value→Value→Value→Value→Value→Value→Value→Value→Value→Value→Value→Value→Value→Value→Value→Value→Value→Value→Act,fr=fun y0 y1 y2 y3 y4 y5 y6 y7 y8 y9 y10 y11 y12 y13 y14 y15 y16 y17 y18 y19 y20=>⟨List.toArray (x0::.slice ua an uc::x2::x3::x4::x5::x6::x7::.pointer (some ⟨b8,0,none⟩)::x9::.pointer (some ⟨b10,0,none⟩)::x11::x12::x13::x14::x15::x16::x17::x18::x19::x20::x21::x22::x23::x24::x25::x26::x27::x28::x29::x30::x31::x32::x33::x34::x35::x36::x37::x38::x39::x40::x41::x42::y0::y1::y2::y3::y4::y5::y6::y7::y8::y9::y10::y11::y12::y13::y14::y15::y16::y17::y18::y19::y20::x64::x65::x66::x67::x68::[]),[]⟩:=⟨_,rfl⟩
 obtain ⟨GG,hGG⟩:∃ GG:(Nat→Bool)→Value→Value→World→Prop,GG=fun D y18 y19 W=>(D 19=false→Below w.heap.size w W)∧(D 18=true→D 19=false→∃ g u0 u1 u2,y18 = .slice (some ⟨g,0,none⟩) 1 1∧W.heap[g]? = some (.cells #[u0,u1,u2] 128)∧ECs W [u0,u1,u2] (renC a x)∧u0.oneCell'=true∧u1.oneCell'=true∧u2.oneCell'=true)∧(D 19=true→D 21=false→OwX 128 3 ECs W B y19 (j+1) (xs ++ [renC a x])∧Below B w W∧W.heap[b8]? = some (.cells #[.int .i64 n,.int .i64 i,.int .i64 o,tv] 64))∧(D 21=true→OwX 128 3 ECs W B y19 (j+1) (xs ++ [renC a x])∧Below B w W∧W.heap[b8]? = some (.cells #[.int .i64 n,.int .i64 i,.int .i64 o,y19] 64)):=⟨_,rfl⟩
 have st0 {D:Nat→Bool} {y0 y1 y2 y3 y4 y5 y6 y7 y8 y9 y10 y11 y12 y13 y14 y15 y16 y17 y18 y19 y20:Value} {W:World} {K:Act→World→Prop} (hD:D 0=false) (hcl:ClG opsPermute13.toArray D) (hd:True) (hG:GG D y18 y19 W) (hK:∀ (v:Value) (W':World),(KeepP W W')→GG (addG D 0) y18 y19 W'→(v = .pointer (some ⟨b8,3,none⟩))→K (fr v y1 y2 y3 y4 y5 y6 y7 y8 y9 y10 y11 y12 y13 y14 y15 y16 y17 y18 y19 y20) W'):Oper.wp Tryz.prog oPermute13_0 (fr y0 y1 y2 y3 y4 y5 y6 y7 y8 y9 y10 y11 y12 y13 y14 y15 y16 y17 y18 y19 y20) W K Q:=by
  subst hfr hGG
  unfold oPermute13_0
  obtain ⟨g1,g2,g3,g4⟩:=hG
  go_simp
  exact hK _ _ (KeepP.refl _) ⟨g1,g2,g3,g4⟩ rfl
 have st1 {D:Nat→Bool} {y0 y1 y2 y3 y4 y5 y6 y7 y8 y9 y10 y11 y12 y13 y14 y15 y16 y17 y18 y19 y20:Value} {W:World} {K:Act→World→Prop} (hD:D 1=false) (hcl:ClG opsPermute13.toArray D) (hd:(D 0=true∧y0 = .pointer (some ⟨b8,3,none⟩))∧True) (hG:GG D y18 y19 W) (hK:∀ (v:Value) (W':World),(KeepP W W')→GG (addG D 1) y18 y19 W'→(v=tv)→K (fr y0 v y2 y3 y4 y5 y6 y7 y8 y9 y10 y11 y12 y13 y14 y15 y16 y17 y18 y19 y20) W'):Oper.wp Tryz.prog oPermute13_1 (fr y0 y1 y2 y3 y4 y5 y6 y7 y8 y9 y10 y11 y12 y13 y14 y15 y16 y17 y18 y19 y20) W K Q:=by
  subst hfr hGG
  unfold oPermute13_1
  obtain ⟨⟨_,rfl⟩,-⟩:=hd
  obtain ⟨g1,g2,g3,g4⟩:=hG
  have d19:=hcl.no (j:=19) (i:=1) rfl (by kernel_rfl) hD
  have hb:=g1 d19
  have k8:=(hb.block b8 (Array.getElem?_eq_some_iff.1 q8).1).trans q8
  obtain ⟨-,-,-,p3⟩:=boxL4 k8
  go_simp
  exact hK _ _ (KeepP.refl _) ⟨g1,g2,g3,g4⟩ rfl
 have st2 {D:Nat→Bool} {y0 y1 y2 y3 y4 y5 y6 y7 y8 y9 y10 y11 y12 y13 y14 y15 y16 y17 y18 y19 y20:Value} {W:World} {K:Act→World→Prop} (hD:D 2=false) (hcl:ClG opsPermute13.toArray D) (hd:True) (hG:GG D y18 y19 W) (hK:∀ (v:Value) (W':World),(KeepP W W')→GG (addG D 2) y18 y19 W'→(v = .pointer (some ⟨b10,0,none⟩))→K (fr y0 y1 v y3 y4 y5 y6 y7 y8 y9 y10 y11 y12 y13 y14 y15 y16 y17 y18 y19 y20) W'):Oper.wp Tryz.prog oPermute13_2 (fr y0 y1 y2 y3 y4 y5 y6 y7 y8 y9 y10 y11 y12 y13 y14 y15 y16 y17 y18 y19 y20) W K Q:=by
  subst hfr hGG
  unfold oPermute13_2
  obtain ⟨g1,g2,g3,g4⟩:=hG
  go_simp
  exact hK _ _ (KeepP.refl _) ⟨g1,g2,g3,g4⟩ rfl
 have st3 {D:Nat→Bool} {y0 y1 y2 y3 y4 y5 y6 y7 y8 y9 y10 y11 y12 y13 y14 y15 y16 y17 y18 y19 y20:Value} {W:World} {K:Act→World→Prop} (hD:D 3=false) (hcl:ClG opsPermute13.toArray D) (hd:(D 2=true∧y2 = .pointer (some ⟨b10,0,none⟩))∧True) (hG:GG D y18 y19 W) (hK:∀ (v:Value) (W':World),(KeepP W W')→GG (addG D 3) y18 y19 W'→(v = .slice ca cn ce)→K (fr y0 y1 y2 v y4 y5 y6 y7 y8 y9 y10 y11 y12 y13 y14 y15 y16 y17 y18 y19 y20) W'):Oper.wp Tryz.prog oPermute13_3 (fr y0 y1 y2 y3 y4 y5 y6 y7 y8 y9 y10 y11 y12 y13 y14 y15 y16 y17 y18 y19 y20) W K Q:=by
  subst hfr hGG
  unfold oPermute13_3
  obtain ⟨⟨_,rfl⟩,-⟩:=hd
  obtain ⟨g1,g2,g3,g4⟩:=hG
  have d4:=hcl.no (j:=4) (i:=3) rfl (by kernel_rfl) hD
  have d6:=hcl.no (j:=6) (i:=4) rfl (by kernel_rfl) d4
  have d12:=hcl.no (j:=12) (i:=6) rfl (by kernel_rfl) d6
  have d16:=hcl.no (j:=16) (i:=12) rfl (by kernel_rfl) d12
  have d19:=hcl.no (j:=19) (i:=16) rfl (by kernel_rfl) d16
  have hb:=g1 d19
  have k10:=(hb.block b10 (Array.getElem?_eq_some_iff.1 q10).1).trans q10
  obtain ⟨p0,-,-⟩:=boxL3 k10
  go_simp
  exact hK _ _ (KeepP.refl _) ⟨g1,g2,g3,g4⟩ rfl
 have st4 {D:Nat→Bool} {y0 y1 y2 y3 y4 y5 y6 y7 y8 y9 y10 y11 y12 y13 y14 y15 y16 y17 y18 y19 y20:Value} {W:World} {K:Act→World→Prop} (hD:D 4=false) (hcl:ClG opsPermute13.toArray D) (hd:(D 3=true∧y3 = .slice ca cn ce)∧True) (hG:GG D y18 y19 W) (hK:∀ (v:Value) (W':World),(KeepP W W')→GG (addG D 4) y18 y19 W'→(∃ g,v = .slice (some ⟨g,0,none⟩) 1 1∧W'.heap[g]? = some (.cells #[.slice ca cn ce] 25))→K (fr y0 y1 y2 y3 v y5 y6 y7 y8 y9 y10 y11 y12 y13 y14 y15 y16 y17 y18 y19 y20) W'):Oper.wp Tryz.prog oPermute13_4 (fr y0 y1 y2 y3 y4 y5 y6 y7 y8 y9 y10 y11 y12 y13 y14 y15 y16 y17 y18 y19 y20) W K Q:=by
  subst hfr hGG
  unfold oPermute13_4
  obtain ⟨⟨_,rfl⟩,-⟩:=hd
  obtain ⟨g1,g2,g3,g4⟩:=hG
  have d6:=hcl.no (j:=6) (i:=4) rfl (by kernel_rfl) hD
  have d12:=hcl.no (j:=12) (i:=6) rfl (by kernel_rfl) d6
  have d16:=hcl.no (j:=16) (i:=12) rfl (by kernel_rfl) d12
  have d17:=hcl.no (j:=17) (i:=16) rfl (by kernel_rfl) d16
  have d18:=hcl.no (j:=18) (i:=17) rfl (by kernel_rfl) d17
  have d19:=hcl.no (j:=19) (i:=16) rfl (by kernel_rfl) d16
  have d21:=hcl.no (j:=21) (i:=4) rfl (by kernel_rfl) hD
  clear g2 g3 g4
  have hb:=g1 d19
  have hba:=(Below.refl W.heap.size W).alloc (Nat.le_refl _) (.cells #[.slice ca cn ce] 25)
  go_simp
  exact hK _ _ (KeepP.below hba) ⟨fun _=>btt hb hba,fun h=>(by rw [show addG D 4 18=D 18 from rfl,d18] at h; cases h),fun h=>(by rw [show addG D 4 19=D 19 from rfl,d19] at h; cases h),fun h=>(by rw [show addG D 4 21=D 21 from rfl,d21] at h; cases h)⟩ ⟨_,rfl,heap_alloc_new _ _⟩
 have st5 {D:Nat→Bool} {y0 y1 y2 y3 y4 y5 y6 y7 y8 y9 y10 y11 y12 y13 y14 y15 y16 y17 y18 y19 y20:Value} {W:World} {K:Act→World→Prop} (hD:D 5=false) (hcl:ClG opsPermute13.toArray D) (hd:True) (hG:GG D y18 y19 W) (hK:∀ (v:Value) (W':World),(KeepP W W')→GG (addG D 5) y18 y19 W'→(v = .slice ua an uc)→K (fr y0 y1 y2 y3 y4 v y6 y7 y8 y9 y10 y11 y12 y13 y14 y15 y16 y17 y18 y19 y20) W'):Oper.wp Tryz.prog oPermute13_5 (fr y0 y1 y2 y3 y4 y5 y6 y7 y8 y9 y10 y11 y12 y13 y14 y15 y16 y17 y18 y19 y20) W K Q:=by
  subst hfr hGG
  unfold oPermute13_5
  obtain ⟨g1,g2,g3,g4⟩:=hG
  go_simp
  exact hK _ _ (KeepP.refl _) ⟨g1,g2,g3,g4⟩ rfl
 have st6 {D:Nat→Bool} {y0 y1 y2 y3 y4 y5 y6 y7 y8 y9 y10 y11 y12 y13 y14 y15 y16 y17 y18 y19 y20:Value} {W:World} {K:Act→World→Prop} (hD:D 6=false) (hcl:ClG opsPermute13.toArray D) (hd:(D 4=true∧∃ g,y4 = .slice (some ⟨g,0,none⟩) 1 1∧W.heap[g]? = some (.cells #[.slice ca cn ce] 25))∧(D 5=true∧y5 = .slice ua an uc)∧True) (hG:GG D y18 y19 W) (hK:∀ (v:Value) (W':World),(KeepP W W')→GG (addG D 6) y18 y19 W'→(OII W' 0 v 1 [movedL a x.1])→K (fr y0 y1 y2 y3 y4 y5 v y7 y8 y9 y10 y11 y12 y13 y14 y15 y16 y17 y18 y19 y20) W'):Oper.wp Tryz.prog oPermute13_6 (fr y0 y1 y2 y3 y4 y5 y6 y7 y8 y9 y10 y11 y12 y13 y14 y15 y16 y17 y18 y19 y20) W K Q:=by
  subst hfr hGG
  unfold oPermute13_6
  obtain ⟨⟨d4,e4⟩,⟨_,rfl⟩,-⟩:=hd
  obtain ⟨g1,g2,g3,g4⟩:=hG
  have d12:=hcl.no (j:=12) (i:=6) rfl (by kernel_rfl) hD
  have d16:=hcl.no (j:=16) (i:=12) rfl (by kernel_rfl) d12
  have d17:=hcl.no (j:=17) (i:=16) rfl (by kernel_rfl) d16
  have d18:=hcl.no (j:=18) (i:=17) rfl (by kernel_rfl) d17
  have d19:=hcl.no (j:=19) (i:=16) rfl (by kernel_rfl) d16
  have d21:=hcl.no (j:=21) (i:=6) rfl (by kernel_rfl) hD
  have hb:=g1 d19
  obtain ⟨g,rfl,hg⟩:=e4
  have HM:=movedC (a:=a) (l:=[x.1]) hn1 hn5 ha (fun y hy=>by obtain rfl:=List.mem_singleton.1 hy; exact hx.1) (show 1≤100000 by decide) (intss1 hg (h0.keep hb)) (hu.keep hb)
  go_simp
  refine HM.mono ?_
  rintro e W9 ⟨r,rfl,hr,hb9⟩
  exact hK _ _ (KeepP.below hb9) ⟨fun _=>btt hb hb9,fun h=>(by rw [show addG D 6 18=D 18 from rfl,d18] at h; cases h),fun h=>(by rw [show addG D 6 19=D 19 from rfl,d19] at h; cases h),fun h=>(by rw [show addG D 6 21=D 21 from rfl,d21] at h; cases h)⟩ (by rw [mvAll_one] at hr; exact hr.base (Nat.zero_le _))
 have st7 {D:Nat→Bool} {y0 y1 y2 y3 y4 y5 y6 y7 y8 y9 y10 y11 y12 y13 y14 y15 y16 y17 y18 y19 y20:Value} {W:World} {K:Act→World→Prop} (hD:D 7=false) (hcl:ClG opsPermute13.toArray D) (hd:(D 6=true∧OII W 0 y6 1 [movedL a x.1])∧True) (hG:GG D y18 y19 W) (hK:∀ (v:Value) (W':World),(KeepP W W')→GG (addG D 7) y18 y19 W'→(∃ g cs u,v = .pointer (some ⟨g,0,none⟩)∧W'.heap[g]? = some (.cells cs 25)∧cs[0]? = some u∧OI W' 0 u (movedL a x.1).length (movedL a x.1))→K (fr y0 y1 y2 y3 y4 y5 y6 v y8 y9 y10 y11 y12 y13 y14 y15 y16 y17 y18 y19 y20) W'):Oper.wp Tryz.prog oPermute13_7 (fr y0 y1 y2 y3 y4 y5 y6 y7 y8 y9 y10 y11 y12 y13 y14 y15 y16 y17 y18 y19 y20) W K Q:=by
  subst hfr hGG
  unfold oPermute13_7
  obtain ⟨⟨d6,e6⟩,-⟩:=hd
  obtain ⟨g1,g2,g3,g4⟩:=hG
  obtain ⟨g,c,cs,u,rfl,e1,e2,e3⟩:=OII.at0 e6
  go_simp
  exact hK _ _ (KeepP.refl _) ⟨g1,g2,g3,g4⟩ ⟨g,cs,u,rfl,e1,e2,e3⟩
 have st8 {D:Nat→Bool} {y0 y1 y2 y3 y4 y5 y6 y7 y8 y9 y10 y11 y12 y13 y14 y15 y16 y17 y18 y19 y20:Value} {W:World} {K:Act→World→Prop} (hD:D 8=false) (hcl:ClG opsPermute13.toArray D) (hd:(D 7=true∧∃ g cs u,y7 = .pointer (some ⟨g,0,none⟩)∧W.heap[g]? = some (.cells cs 25)∧cs[0]? = some u∧OI W 0 u (movedL a x.1).length (movedL a x.1))∧True) (hG:GG D y18 y19 W) (hK:∀ (v:Value) (W':World),(KeepP W W')→GG (addG D 8) y18 y19 W'→(OI W' 0 v (movedL a x.1).length (movedL a x.1))→K (fr y0 y1 y2 y3 y4 y5 y6 y7 v y9 y10 y11 y12 y13 y14 y15 y16 y17 y18 y19 y20) W'):Oper.wp Tryz.prog oPermute13_8 (fr y0 y1 y2 y3 y4 y5 y6 y7 y8 y9 y10 y11 y12 y13 y14 y15 y16 y17 y18 y19 y20) W K Q:=by
  subst hfr hGG
  unfold oPermute13_8
  obtain ⟨⟨d7,e7⟩,-⟩:=hd
  obtain ⟨g1,g2,g3,g4⟩:=hG
  obtain ⟨g,cs,u,rfl,e1,e2,e3⟩:=e7
  have p0:W.cell? ⟨g,0,none⟩=some u:=by rw [cell_of_row _ _ 0 _ _ _ e1]; exact e2
  go_simp
  exact hK _ _ (KeepP.refl _) ⟨g1,g2,g3,g4⟩ e3
 have st9 {D:Nat→Bool} {y0 y1 y2 y3 y4 y5 y6 y7 y8 y9 y10 y11 y12 y13 y14 y15 y16 y17 y18 y19 y20:Value} {W:World} {K:Act→World→Prop} (hD:D 9=false) (hcl:ClG opsPermute13.toArray D) (hd:True) (hG:GG D y18 y19 W) (hK:∀ (v:Value) (W':World),(KeepP W W')→GG (addG D 9) y18 y19 W'→(v = .pointer (some ⟨b10,1,none⟩))→K (fr y0 y1 y2 y3 y4 y5 y6 y7 y8 v y10 y11 y12 y13 y14 y15 y16 y17 y18 y19 y20) W'):Oper.wp Tryz.prog oPermute13_9 (fr y0 y1 y2 y3 y4 y5 y6 y7 y8 y9 y10 y11 y12 y13 y14 y15 y16 y17 y18 y19 y20) W K Q:=by
  subst hfr hGG
  unfold oPermute13_9
  obtain ⟨g1,g2,g3,g4⟩:=hG
  go_simp
  exact hK _ _ (KeepP.refl _) ⟨g1,g2,g3,g4⟩ rfl
 have st10 {D:Nat→Bool} {y0 y1 y2 y3 y4 y5 y6 y7 y8 y9 y10 y11 y12 y13 y14 y15 y16 y17 y18 y19 y20:Value} {W:World} {K:Act→World→Prop} (hD:D 10=false) (hcl:ClG opsPermute13.toArray D) (hd:(D 9=true∧y9 = .pointer (some ⟨b10,1,none⟩))∧True) (hG:GG D y18 y19 W) (hK:∀ (v:Value) (W':World),(KeepP W W')→GG (addG D 10) y18 y19 W'→(v = .slice c1 n1 z1)→K (fr y0 y1 y2 y3 y4 y5 y6 y7 y8 y9 v y11 y12 y13 y14 y15 y16 y17 y18 y19 y20) W'):Oper.wp Tryz.prog oPermute13_10 (fr y0 y1 y2 y3 y4 y5 y6 y7 y8 y9 y10 y11 y12 y13 y14 y15 y16 y17 y18 y19 y20) W K Q:=by
  subst hfr hGG
  unfold oPermute13_10
  obtain ⟨⟨_,rfl⟩,-⟩:=hd
  obtain ⟨g1,g2,g3,g4⟩:=hG
  have d12:=hcl.no (j:=12) (i:=10) rfl (by kernel_rfl) hD
  have d16:=hcl.no (j:=16) (i:=12) rfl (by kernel_rfl) d12
  have d19:=hcl.no (j:=19) (i:=16) rfl (by kernel_rfl) d16
  have hb:=g1 d19
  have k10:=(hb.block b10 (Array.getElem?_eq_some_iff.1 q10).1).trans q10
  obtain ⟨-,p1,-⟩:=boxL3 k10
  go_simp
  exact hK _ _ (KeepP.refl _) ⟨g1,g2,g3,g4⟩ rfl
 have st11 {D:Nat→Bool} {y0 y1 y2 y3 y4 y5 y6 y7 y8 y9 y10 y11 y12 y13 y14 y15 y16 y17 y18 y19 y20:Value} {W:World} {K:Act→World→Prop} (hD:D 11=false) (hcl:ClG opsPermute13.toArray D) (hd:True) (hG:GG D y18 y19 W) (hK:∀ (v:Value) (W':World),(KeepP W W')→GG (addG D 11) y18 y19 W'→(v = .slice ua an uc)→K (fr y0 y1 y2 y3 y4 y5 y6 y7 y8 y9 y10 v y12 y13 y14 y15 y16 y17 y18 y19 y20) W'):Oper.wp Tryz.prog oPermute13_11 (fr y0 y1 y2 y3 y4 y5 y6 y7 y8 y9 y10 y11 y12 y13 y14 y15 y16 y17 y18 y19 y20) W K Q:=by
  subst hfr hGG
  unfold oPermute13_11
  obtain ⟨g1,g2,g3,g4⟩:=hG
  go_simp
  exact hK _ _ (KeepP.refl _) ⟨g1,g2,g3,g4⟩ rfl
 have st12 {D:Nat→Bool} {y0 y1 y2 y3 y4 y5 y6 y7 y8 y9 y10 y11 y12 y13 y14 y15 y16 y17 y18 y19 y20:Value} {W:World} {K:Act→World→Prop} (hD:D 12=false) (hcl:ClG opsPermute13.toArray D) (hd:(D 10=true∧y10 = .slice c1 n1 z1)∧(D 11=true∧y11 = .slice ua an uc)∧True) (hG:GG D y18 y19 W) (hK:∀ (v:Value) (W':World),(KeepP W W')→GG (addG D 12) y18 y19 W'→(OII W' 0 v (mvAll a x.2.1).length (mvAll a x.2.1))→K (fr y0 y1 y2 y3 y4 y5 y6 y7 y8 y9 y10 y11 v y13 y14 y15 y16 y17 y18 y19 y20) W'):Oper.wp Tryz.prog oPermute13_12 (fr y0 y1 y2 y3 y4 y5 y6 y7 y8 y9 y10 y11 y12 y13 y14 y15 y16 y17 y18 y19 y20) W K Q:=by
  subst hfr hGG
  unfold oPermute13_12
  obtain ⟨⟨_,rfl⟩,⟨_,rfl⟩,-⟩:=hd
  obtain ⟨g1,g2,g3,g4⟩:=hG
  have d16:=hcl.no (j:=16) (i:=12) rfl (by kernel_rfl) hD
  have d17:=hcl.no (j:=17) (i:=16) rfl (by kernel_rfl) d16
  have d18:=hcl.no (j:=18) (i:=17) rfl (by kernel_rfl) d17
  have d19:=hcl.no (j:=19) (i:=16) rfl (by kernel_rfl) d16
  have d21:=hcl.no (j:=21) (i:=12) rfl (by kernel_rfl) hD
  have hb:=g1 d19
  have HM:=movedC (a:=a) hn1 hn5 ha hx.2.1 hx1 (h1.keep hb) (hu.keep hb)
  go_simp
  refine HM.mono ?_
  rintro e W9 ⟨r,rfl,hr,hb9⟩
  exact hK _ _ (KeepP.below hb9) ⟨fun _=>btt hb hb9,fun h=>(by rw [show addG D 12 18=D 18 from rfl,d18] at h; cases h),fun h=>(by rw [show addG D 12 19=D 19 from rfl,d19] at h; cases h),fun h=>(by rw [show addG D 12 21=D 21 from rfl,d21] at h; cases h)⟩ (hr.base (Nat.zero_le _))
 have st13 {D:Nat→Bool} {y0 y1 y2 y3 y4 y5 y6 y7 y8 y9 y10 y11 y12 y13 y14 y15 y16 y17 y18 y19 y20:Value} {W:World} {K:Act→World→Prop} (hD:D 13=false) (hcl:ClG opsPermute13.toArray D) (hd:True) (hG:GG D y18 y19 W) (hK:∀ (v:Value) (W':World),(KeepP W W')→GG (addG D 13) y18 y19 W'→(v = .pointer (some ⟨b10,2,none⟩))→K (fr y0 y1 y2 y3 y4 y5 y6 y7 y8 y9 y10 y11 y12 v y14 y15 y16 y17 y18 y19 y20) W'):Oper.wp Tryz.prog oPermute13_13 (fr y0 y1 y2 y3 y4 y5 y6 y7 y8 y9 y10 y11 y12 y13 y14 y15 y16 y17 y18 y19 y20) W K Q:=by
  subst hfr hGG
  unfold oPermute13_13
  obtain ⟨g1,g2,g3,g4⟩:=hG
  go_simp
  exact hK _ _ (KeepP.refl _) ⟨g1,g2,g3,g4⟩ rfl
 have st14 {D:Nat→Bool} {y0 y1 y2 y3 y4 y5 y6 y7 y8 y9 y10 y11 y12 y13 y14 y15 y16 y17 y18 y19 y20:Value} {W:World} {K:Act→World→Prop} (hD:D 14=false) (hcl:ClG opsPermute13.toArray D) (hd:(D 13=true∧y13 = .pointer (some ⟨b10,2,none⟩))∧True) (hG:GG D y18 y19 W) (hK:∀ (v:Value) (W':World),(KeepP W W')→GG (addG D 14) y18 y19 W'→(v = .slice c2 n2 z2)→K (fr y0 y1 y2 y3 y4 y5 y6 y7 y8 y9 y10 y11 y12 y13 v y15 y16 y17 y18 y19 y20) W'):Oper.wp Tryz.prog oPermute13_14 (fr y0 y1 y2 y3 y4 y5 y6 y7 y8 y9 y10 y11 y12 y13 y14 y15 y16 y17 y18 y19 y20) W K Q:=by
  subst hfr hGG
  unfold oPermute13_14
  obtain ⟨⟨_,rfl⟩,-⟩:=hd
  obtain ⟨g1,g2,g3,g4⟩:=hG
  have d16:=hcl.no (j:=16) (i:=14) rfl (by kernel_rfl) hD
  have d19:=hcl.no (j:=19) (i:=16) rfl (by kernel_rfl) d16
  have hb:=g1 d19
  have k10:=(hb.block b10 (Array.getElem?_eq_some_iff.1 q10).1).trans q10
  obtain ⟨-,-,p2⟩:=boxL3 k10
  go_simp
  exact hK _ _ (KeepP.refl _) ⟨g1,g2,g3,g4⟩ rfl
 have st15 {D:Nat→Bool} {y0 y1 y2 y3 y4 y5 y6 y7 y8 y9 y10 y11 y12 y13 y14 y15 y16 y17 y18 y19 y20:Value} {W:World} {K:Act→World→Prop} (hD:D 15=false) (hcl:ClG opsPermute13.toArray D) (hd:True) (hG:GG D y18 y19 W) (hK:∀ (v:Value) (W':World),(KeepP W W')→GG (addG D 15) y18 y19 W'→(v = .slice ua an uc)→K (fr y0 y1 y2 y3 y4 y5 y6 y7 y8 y9 y10 y11 y12 y13 y14 v y16 y17 y18 y19 y20) W'):Oper.wp Tryz.prog oPermute13_15 (fr y0 y1 y2 y3 y4 y5 y6 y7 y8 y9 y10 y11 y12 y13 y14 y15 y16 y17 y18 y19 y20) W K Q:=by
  subst hfr hGG
  unfold oPermute13_15
  obtain ⟨g1,g2,g3,g4⟩:=hG
  go_simp
  exact hK _ _ (KeepP.refl _) ⟨g1,g2,g3,g4⟩ rfl
 have st16 {D:Nat→Bool} {y0 y1 y2 y3 y4 y5 y6 y7 y8 y9 y10 y11 y12 y13 y14 y15 y16 y17 y18 y19 y20:Value} {W:World} {K:Act→World→Prop} (hD:D 16=false) (hcl:ClG opsPermute13.toArray D) (hd:(D 14=true∧y14 = .slice c2 n2 z2)∧(D 15=true∧y15 = .slice ua an uc)∧True) (hG:GG D y18 y19 W) (hK:∀ (v:Value) (W':World),(KeepP W W')→GG (addG D 16) y18 y19 W'→(OII W' 0 v (mvAll a x.2.2).length (mvAll a x.2.2))→K (fr y0 y1 y2 y3 y4 y5 y6 y7 y8 y9 y10 y11 y12 y13 y14 y15 v y17 y18 y19 y20) W'):Oper.wp Tryz.prog oPermute13_16 (fr y0 y1 y2 y3 y4 y5 y6 y7 y8 y9 y10 y11 y12 y13 y14 y15 y16 y17 y18 y19 y20) W K Q:=by
  subst hfr hGG
  unfold oPermute13_16
  obtain ⟨⟨_,rfl⟩,⟨_,rfl⟩,-⟩:=hd
  obtain ⟨g1,g2,g3,g4⟩:=hG
  have d17:=hcl.no (j:=17) (i:=16) rfl (by kernel_rfl) hD
  have d18:=hcl.no (j:=18) (i:=17) rfl (by kernel_rfl) d17
  have d19:=hcl.no (j:=19) (i:=16) rfl (by kernel_rfl) hD
  have d21:=hcl.no (j:=21) (i:=16) rfl (by kernel_rfl) hD
  have hb:=g1 d19
  have HM:=movedC (a:=a) hn1 hn5 ha hx.2.2 hx2 (h2.keep hb) (hu.keep hb)
  go_simp
  refine HM.mono ?_
  rintro e W9 ⟨r,rfl,hr,hb9⟩
  exact hK _ _ (KeepP.below hb9) ⟨fun _=>btt hb hb9,fun h=>(by rw [show addG D 16 18=D 18 from rfl,d18] at h; cases h),fun h=>(by rw [show addG D 16 19=D 19 from rfl,d19] at h; cases h),fun h=>(by rw [show addG D 16 21=D 21 from rfl,d21] at h; cases h)⟩ (hr.base (Nat.zero_le _))
 have st17 {D:Nat→Bool} {y0 y1 y2 y3 y4 y5 y6 y7 y8 y9 y10 y11 y12 y13 y14 y15 y16 y17 y18 y19 y20:Value} {W:World} {K:Act→World→Prop} (hD:D 17=false) (hcl:ClG opsPermute13.toArray D) (hd:(D 8=true∧OI W 0 y8 (movedL a x.1).length (movedL a x.1))∧(D 12=true∧OII W 0 y12 (mvAll a x.2.1).length (mvAll a x.2.1))∧(D 16=true∧OII W 0 y16 (mvAll a x.2.2).length (mvAll a x.2.2))∧True) (hG:GG D y18 y19 W) (hK:∀ (v:Value) (W':World),(KeepP W W')→GG (addG D 17) y18 y19 W'→(∃ u0 u1 u2,v = .agg #[u0,u1,u2]∧ECs W' [u0,u1,u2] (renC a x))→K (fr y0 y1 y2 y3 y4 y5 y6 y7 y8 y9 y10 y11 y12 y13 y14 y15 y16 v y18 y19 y20) W'):Oper.wp Tryz.prog oPermute13_17 (fr y0 y1 y2 y3 y4 y5 y6 y7 y8 y9 y10 y11 y12 y13 y14 y15 y16 y17 y18 y19 y20) W K Q:=by
  subst hfr hGG
  unfold oPermute13_17
  obtain ⟨⟨d8,e8⟩,⟨d12,e12⟩,⟨d16,e16⟩,-⟩:=hd
  obtain ⟨g1,g2,g3,g4⟩:=hG
  obtain ⟨_,_,rfl⟩:=e8.shape
  obtain ⟨_,_,rfl⟩:=e12.shape
  obtain ⟨_,_,rfl⟩:=e16.shape
  have hl:(movedL a x.1).length≤1000:=by rw [movedL_length,ha.1]; omega
  go_simp
  exact hK _ _ (KeepP.refl _) ⟨g1,g2,g3,g4⟩ ⟨_,_,_,rfl,_,_,_,rfl,e8,e12,e16,hl⟩
 have st18 {D:Nat→Bool} {y0 y1 y2 y3 y4 y5 y6 y7 y8 y9 y10 y11 y12 y13 y14 y15 y16 y17 y18 y19 y20:Value} {W:World} {K:Act→World→Prop} (hD:D 18=false) (hcl:ClG opsPermute13.toArray D) (hd:(D 17=true∧∃ u0 u1 u2,y17 = .agg #[u0,u1,u2]∧ECs W [u0,u1,u2] (renC a x))∧True) (hG:GG D y18 y19 W) (hK:∀ (v:Value) (W':World),(KeepP W W')→GG (addG D 18) v y19 W'→(True)→K (fr y0 y1 y2 y3 y4 y5 y6 y7 y8 y9 y10 y11 y12 y13 y14 y15 y16 y17 v y19 y20) W'):Oper.wp Tryz.prog oPermute13_18 (fr y0 y1 y2 y3 y4 y5 y6 y7 y8 y9 y10 y11 y12 y13 y14 y15 y16 y17 y18 y19 y20) W K Q:=by
  subst hfr hGG
  unfold oPermute13_18
  obtain ⟨⟨d17,e17⟩,-⟩:=hd
  obtain ⟨g1,g2,g3,g4⟩:=hG
  have d19:=hcl.no (j:=19) (i:=18) rfl (by kernel_rfl) hD
  have d21:=hcl.no (j:=21) (i:=18) rfl (by kernel_rfl) hD
  have hb:=g1 d19
  obtain ⟨u0,u1,u2,rfl,h⟩:=e17
  have hcp:=h
  obtain ⟨_,_,_,hq,z0,z1,z2,_⟩:=hcp
  injection hq with hq0 hq
  injection hq with hq1 hq
  injection hq with hq2 _
  subst hq0 hq1 hq2
  have o0:=OI.one z0
  have o1:u1.oneCell'=true:=by obtain ⟨_,_,rfl⟩:=z1.shape; rfl
  have o2:u2.oneCell'=true:=by obtain ⟨_,_,rfl⟩:=z2.shape; rfl
  clear z0 z1 z2 g2 g3 g4
  have hba:=(Below.refl W.heap.size W).alloc (Nat.le_refl _) (.cells #[u0,u1,u2] 128)
  go_simp
  exact hK _ _ (KeepP.below hba) ⟨fun _=>btt hb hba,fun _ _=>⟨_,u0,u1,u2,rfl,heap_alloc_new _ _,h.keepP (KeepP.below hba),o0,o1,o2⟩,fun h=>(by rw [show addG D 18 19=D 19 from rfl,d19] at h; cases h),fun h=>(by rw [show addG D 18 21=D 21 from rfl,d21] at h; cases h)⟩ trivial
 have st19 {D:Nat→Bool} {y0 y1 y2 y3 y4 y5 y6 y7 y8 y9 y10 y11 y12 y13 y14 y15 y16 y17 y18 y19 y20:Value} {W:World} {K:Act→World→Prop} (hD:D 19=false) (hcl:ClG opsPermute13.toArray D) (hd:(D 1=true∧y1=tv)∧(D 18=true∧True)∧True) (hG:GG D y18 y19 W) (hK:∀ (v:Value) (W':World),(KeepP W W')→GG (addG D 19) y18 v W'→(True)→K (fr y0 y1 y2 y3 y4 y5 y6 y7 y8 y9 y10 y11 y12 y13 y14 y15 y16 y17 y18 v y20) W'):Oper.wp Tryz.prog oPermute13_19 (fr y0 y1 y2 y3 y4 y5 y6 y7 y8 y9 y10 y11 y12 y13 y14 y15 y16 y17 y18 y19 y20) W K Q:=by
  subst hfr hGG
  unfold oPermute13_19
  obtain ⟨⟨_,rfl⟩,⟨d18,e18⟩,-⟩:=hd
  obtain ⟨g1,g2,g3,g4⟩:=hG
  have d21:=hcl.no (j:=21) (i:=19) rfl (by kernel_rfl) hD
  have hb:=g1 hD
  have k8:=(hb.block b8 (Array.getElem?_eq_some_iff.1 q8).1).trans q8
  obtain ⟨g,u0,u1,u2,rfl,hg,hE,o0,o1,o2⟩:=g2 d18 hD
  obtain ⟨p0,p1,p2⟩:=boxL3 hg
  clear g2 g3 g4
  refine wp_appX elemCs (by decide) (by decide) ECs.stab (cs:=[u0,u1,u2]) (x:=renC a x) (.tmp 44) (.tmp 61) rfl rfl (hT.keep ECs.stab hb) ⟨g,0,none⟩ 1 rfl rfl ?_ ?_ hE (by omega) (Nat.le_trans hBw hb.size) ?_
  ·intro q u hq
   match q,hq with
   | 0,hq=>injection hq with hq; subst hq; exact p0
   | 1,hq=>injection hq with hq; subst hq; exact p1
   | 2,hq=>injection hq with hq; subst hq; exact p2
  ·intro u hu; simp only [List.mem_cons,List.not_mem_nil,or_false] at hu; rcases hu with rfl | rfl | rfl <;> assumption
  intro v' W9 m1 m2 m3 m4 m5
  exact hK _ _ (KeepP.ofX m5) ⟨fun h=>(by cases h),fun _ h=>(by cases h),fun _ _=>⟨m1,(hb.mono hBw).trans m4,(m5 b8 _ _ k8 (by decide)).trans k8⟩,fun h=>(by rw [show addG D 19 21=D 21 from rfl,d21] at h; cases h)⟩ trivial
 have st20 {D:Nat→Bool} {y0 y1 y2 y3 y4 y5 y6 y7 y8 y9 y10 y11 y12 y13 y14 y15 y16 y17 y18 y19 y20:Value} {W:World} {K:Act→World→Prop} (hD:D 20=false) (hcl:ClG opsPermute13.toArray D) (hd:True) (hG:GG D y18 y19 W) (hK:∀ (v:Value) (W':World),(KeepP W W')→GG (addG D 20) y18 y19 W'→(v = .pointer (some ⟨b8,3,none⟩))→K (fr y0 y1 y2 y3 y4 y5 y6 y7 y8 y9 y10 y11 y12 y13 y14 y15 y16 y17 y18 y19 v) W'):Oper.wp Tryz.prog oPermute13_20 (fr y0 y1 y2 y3 y4 y5 y6 y7 y8 y9 y10 y11 y12 y13 y14 y15 y16 y17 y18 y19 y20) W K Q:=by
  subst hfr hGG
  unfold oPermute13_20
  obtain ⟨g1,g2,g3,g4⟩:=hG
  go_simp
  exact hK _ _ (KeepP.refl _) ⟨g1,g2,g3,g4⟩ rfl
 have st21 {D:Nat→Bool} {y0 y1 y2 y3 y4 y5 y6 y7 y8 y9 y10 y11 y12 y13 y14 y15 y16 y17 y18 y19 y20:Value} {W:World} {K:Act→World→Prop} (hD:D 21=false) (hcl:ClG opsPermute13.toArray D) (hd:(D 20=true∧y20 = .pointer (some ⟨b8,3,none⟩))∧(D 19=true∧True)∧True) (hG:GG D y18 y19 W) (hK:∀ (v:Value) (W':World),(KeepP W W')→GG (addG D 21) y18 y19 W'→(True)→K (fr y0 y1 y2 y3 y4 y5 y6 y7 y8 y9 y10 y11 y12 y13 y14 y15 y16 y17 y18 y19 y20) W'):Oper.wp Tryz.prog oPermute13_21 (fr y0 y1 y2 y3 y4 y5 y6 y7 y8 y9 y10 y11 y12 y13 y14 y15 y16 y17 y18 y19 y20) W K Q:=by
  subst hfr hGG
  unfold oPermute13_21
  obtain ⟨⟨_,rfl⟩,⟨d19,e19⟩,-⟩:=hd
  obtain ⟨g1,g2,g3,g4⟩:=hG
  obtain ⟨m1,m2,m3⟩:=g3 d19 hD
  obtain ⟨ya,yc,hy⟩:=m1.shape
  subst hy
  obtain ⟨-,-,-,p3⟩:=boxL4 m3
  obtain ⟨-,-,-,f3⟩:=freeL4 m3
  clear g1 g2 g3 g4
  have s3:(W.setCell ⟨b8,3,none⟩ (.slice ya (j+1) yc)).heap[b8]? = some (.cells #[.int .i64 n,.int .i64 i,.int .i64 o,.slice ya (j+1) yc] 64):=heap_setCell_same W b8 3 _ _ (.slice ya (j+1) yc) m3
  have hke:KeepX 64 W (W.setCell ⟨b8,3,none⟩ (.slice ya (j+1) yc)):=fun k cs t hk ht=>Below.heap_setCell W ⟨b8,3,none⟩ _ k (fun e=>by have e:k=b8:=e; subst e; rw [m3] at hk; injection hk with hk; injection hk with _ hk; exact ht hk.symm)
  have m1:=OwX.other (E:=128) (E':=64) ECs.stabT m1 (by decide) hke
  have hbs:Below B w (W.setCell ⟨b8,3,none⟩ (.slice ya (j+1) yc)):=m2.setCell (p:=⟨b8,3,none⟩) hB8 (.slice ya (j+1) yc)
  go_simp
  exact hK undef _ (fun k cs t hk h1 h2=>hke k cs t hk h2) ⟨fun h=>(by have:=h.symm.trans (show addG D 21 19=true from d19); cases this),fun _ h=>(by have:=h.symm.trans (show addG D 21 19=true from d19); cases this),fun _ h=>(by cases h),fun _=>⟨m1,hbs,s3⟩⟩ trivial
 subst hfr hGG
 refine wp_region_rg (l:=opsPermute13) (fun ys=>⟨List.toArray (x0::.slice ua an uc::x2::x3::x4::x5::x6::x7::.pointer (some ⟨b8,0,none⟩)::x9::.pointer (some ⟨b10,0,none⟩)::x11::x12::x13::x14::x15::x16::x17::x18::x19::x20::x21::x22::x23::x24::x25::x26::x27::x28::x29::x30::x31::x32::x33::x34::x35::x36::x37::x38::x39::x40::x41::x42::ys 0::ys 1::ys 2::ys 3::ys 4::ys 5::ys 6::ys 7::ys 8::ys 9::ys 10::ys 11::ys 12::ys 13::ys 14::ys 15::ys 16::ys 17::ys 18::ys 19::ys 20::x64::x65::x66::x67::x68::[]),[]⟩) [fun (_:World) (v:Value)=>v = .pointer (some ⟨b8,3,none⟩),fun (_:World) (v:Value)=>v=tv,fun (_:World) (v:Value)=>v = .pointer (some ⟨b10,0,none⟩),fun (_:World) (v:Value)=>v = .slice ca cn ce,fun (W:World) (v:Value)=>∃ g,v = .slice (some ⟨g,0,none⟩) 1 1∧W.heap[g]? = some (.cells #[.slice ca cn ce] 25),fun (_:World) (v:Value)=>v = .slice ua an uc,fun (W:World) (v:Value)=>OII W 0 v 1 [movedL a x.1],fun (W:World) (v:Value)=>∃ g cs u,v = .pointer (some ⟨g,0,none⟩)∧W.heap[g]? = some (.cells cs 25)∧cs[0]? = some u∧OI W 0 u (movedL a x.1).length (movedL a x.1),fun (W:World) (v:Value)=>OI W 0 v (movedL a x.1).length (movedL a x.1),fun (_:World) (v:Value)=>v = .pointer (some ⟨b10,1,none⟩),fun (_:World) (v:Value)=>v = .slice c1 n1 z1,fun (_:World) (v:Value)=>v = .slice ua an uc,fun (W:World) (v:Value)=>OII W 0 v (mvAll a x.2.1).length (mvAll a x.2.1),fun (_:World) (v:Value)=>v = .pointer (some ⟨b10,2,none⟩),fun (_:World) (v:Value)=>v = .slice c2 n2 z2,fun (_:World) (v:Value)=>v = .slice ua an uc,fun (W:World) (v:Value)=>OII W 0 v (mvAll a x.2.2).length (mvAll a x.2.2),fun (W:World) (v:Value)=>∃ u0 u1 u2,v = .agg #[u0,u1,u2]∧ECs W [u0,u1,u2] (renC a x),fun (_:World) (_:Value)=>True,fun (_:World) (_:Value)=>True,fun (_:World) (v:Value)=>v = .pointer (some ⟨b8,3,none⟩),fun (_:World) (_:Value)=>True] (fun W W'=>KeepP W W') (fun D ys W=>(D 19=false→Below w.heap.size w W)∧(D 18=true→D 19=false→∃ g u0 u1 u2,(ys 18) = .slice (some ⟨g,0,none⟩) 1 1∧W.heap[g]? = some (.cells #[u0,u1,u2] 128)∧ECs W [u0,u1,u2] (renC a x)∧u0.oneCell'=true∧u1.oneCell'=true∧u2.oneCell'=true)∧(D 19=true→D 21=false→OwX 128 3 ECs W B (ys 19) (j+1) (xs ++ [renC a x])∧Below B w W∧W.heap[b8]? = some (.cells #[.int .i64 n,.int .i64 i,.int .i64 o,tv] 64))∧(D 21=true→OwX 128 3 ECs W B (ys 19) (j+1) (xs ++ [renC a x])∧Below B w W∧W.heap[b8]? = some (.cells #[.int .i64 n,.int .i64 i,.int .i64 o,(ys 19)] 64))) (fun i=>([x43,x44,x45,x46,x47,x48,x49,x50,x51,x52,x53,x54,x55,x56,x57,x58,x59,x60,x61,x62,x63,undef]:List Value).getD i undef) (by kernel_rfl) (by kernel_rfl) ⟨fun _ _ _ h _=>h,fun _ _ _ h _=>h,fun _ _ _ h _=>h,fun _ _ _ h _=>h,fun W W' v ⟨g,e,h⟩ r=>⟨g,e,(r g _ _ h (by decide) (by decide)).trans h⟩,fun _ _ _ h _=>h,fun W W' v h r=>OII.keepP h r,fun W W' v ⟨g,cs,u,e,h,h1,h2⟩ r=>⟨g,cs,u,e,(r g _ _ h (by decide) (by decide)).trans h,h1,OI.keepP h2 r⟩,fun W W' v h r=>OI.keepP h r,fun _ _ _ h _=>h,fun _ _ _ h _=>h,fun _ _ _ h _=>h,fun W W' v h r=>OII.keepP h r,fun _ _ _ h _=>h,fun _ _ _ h _=>h,fun _ _ _ h _=>h,fun W W' v h r=>OII.keepP h r,fun W W' v ⟨u0,u1,u2,e,h⟩ r=>⟨u0,u1,u2,e,ECs.keepP h r⟩,fun _ _ _ h _=>h,fun _ _ _ h _=>h,fun _ _ _ h _=>h,fun _ _ _ h _=>h,trivial⟩ ?g0 ?gx ⟨fun D ys W K h1 h2 h3 h4 h5=>by rw [if_pos (by rfl)]; exact st0 h1 h2 trivial h4 h5,fun D ys W K h1 h2 h3 h4 h5=>by rw [if_pos (by rfl)]; exact st1 h1 h2 h3 h4 h5,fun D ys W K h1 h2 h3 h4 h5=>by rw [if_pos (by rfl)]; exact st2 h1 h2 trivial h4 h5,fun D ys W K h1 h2 h3 h4 h5=>by rw [if_pos (by rfl)]; exact st3 h1 h2 h3 h4 h5,fun D ys W K h1 h2 h3 h4 h5=>by rw [if_pos (by rfl)]; exact st4 h1 h2 h3 h4 h5,fun D ys W K h1 h2 h3 h4 h5=>by rw [if_pos (by rfl)]; exact st5 h1 h2 trivial h4 h5,fun D ys W K h1 h2 h3 h4 h5=>by rw [if_pos (by rfl)]; exact st6 h1 h2 h3 h4 h5,fun D ys W K h1 h2 h3 h4 h5=>by rw [if_pos (by rfl)]; exact st7 h1 h2 h3 h4 h5,fun D ys W K h1 h2 h3 h4 h5=>by rw [if_pos (by rfl)]; exact st8 h1 h2 h3 h4 h5,fun D ys W K h1 h2 h3 h4 h5=>by rw [if_pos (by rfl)]; exact st9 h1 h2 trivial h4 h5,fun D ys W K h1 h2 h3 h4 h5=>by rw [if_pos (by rfl)]; exact st10 h1 h2 h3 h4 h5,fun D ys W K h1 h2 h3 h4 h5=>by rw [if_pos (by rfl)]; exact st11 h1 h2 trivial h4 h5,fun D ys W K h1 h2 h3 h4 h5=>by rw [if_pos (by rfl)]; exact st12 h1 h2 ⟨h3.1,h3.2.1,trivial⟩ h4 h5,fun D ys W K h1 h2 h3 h4 h5=>by rw [if_pos (by rfl)]; exact st13 h1 h2 trivial h4 h5,fun D ys W K h1 h2 h3 h4 h5=>by rw [if_pos (by rfl)]; exact st14 h1 h2 h3 h4 h5,fun D ys W K h1 h2 h3 h4 h5=>by rw [if_pos (by rfl)]; exact st15 h1 h2 trivial h4 h5,fun D ys W K h1 h2 h3 h4 h5=>by rw [if_pos (by rfl)]; exact st16 h1 h2 ⟨h3.1,h3.2.1,trivial⟩ h4 h5,fun D ys W K h1 h2 h3 h4 h5=>by rw [if_pos (by rfl)]; exact st17 h1 h2 h3 h4 h5,fun D ys W K h1 h2 h3 h4 h5=>by rw [if_pos (by rfl)]; exact st18 h1 h2 h3 h4 h5,fun D ys W K h1 h2 h3 h4 h5=>by rw [if_pos (by rfl)]; exact st19 h1 h2 ⟨h3.1,h3.2.1,trivial⟩ h4 h5,fun D ys W K h1 h2 h3 h4 h5=>by rw [if_pos (by rfl)]; exact st20 h1 h2 trivial h4 h5,fun D ys W K h1 h2 h3 h4 h5=>by rw [if_pos (by rfl)]; exact st21 h1 h2 ⟨h3.1,h3.2.1,trivial⟩ h4 h5,trivial⟩ ?fin
 case g0=>exact ⟨fun _=>below_drewN (Below.refl w.heap.size w) 1,fun h=>(by cases h),fun h=>(by cases h),fun h=>by cases h⟩
 case gx=>exact fun D D' _ W h ⟨h1,h2,h3,h4⟩=>⟨fun q=>h1 ((h 19 (by decide)).trans q),fun q q'=>h2 ((h 18 (by decide)).trans q) ((h 19 (by decide)).trans q'),fun q q'=>h3 ((h 19 (by decide)).trans q) ((h 21 (by decide)).trans q'),fun q=>h4 ((h 21 (by decide)).trans q)⟩
 case fin=>
  intro ys W hG hp
  have e0:ys 0 = .pointer (some ⟨b8,3,none⟩):=hp 0 (by decide)
  have e1:ys 1=tv:=hp 1 (by decide)
  have e2:ys 2 = .pointer (some ⟨b10,0,none⟩):=hp 2 (by decide)
  have e3:ys 3 = .slice ca cn ce:=hp 3 (by decide)
  have e5:ys 5 = .slice ua an uc:=hp 5 (by decide)
  have e9:ys 9 = .pointer (some ⟨b10,1,none⟩):=hp 9 (by decide)
  have e10:ys 10 = .slice c1 n1 z1:=hp 10 (by decide)
  have e11:ys 11 = .slice ua an uc:=hp 11 (by decide)
  have e13:ys 13 = .pointer (some ⟨b10,2,none⟩):=hp 13 (by decide)
  have e14:ys 14 = .slice c2 n2 z2:=hp 14 (by decide)
  have e15:ys 15 = .slice ua an uc:=hp 15 (by decide)
  have e20:ys 20 = .pointer (some ⟨b8,3,none⟩):=hp 20 (by decide)
  show Q .normal ⟨List.toArray (x0::.slice ua an uc::x2::x3::x4::x5::x6::x7::.pointer (some ⟨b8,0,none⟩)::x9::.pointer (some ⟨b10,0,none⟩)::x11::x12::x13::x14::x15::x16::x17::x18::x19::x20::x21::x22::x23::x24::x25::x26::x27::x28::x29::x30::x31::x32::x33::x34::x35::x36::x37::x38::x39::x40::x41::x42::(ys 0)::(ys 1)::(ys 2)::(ys 3)::(ys 4)::(ys 5)::(ys 6)::(ys 7)::(ys 8)::(ys 9)::(ys 10)::(ys 11)::(ys 12)::(ys 13)::(ys 14)::(ys 15)::(ys 16)::(ys 17)::(ys 18)::(ys 19)::(ys 20)::x64::x65::x66::x67::x68::[]),[]⟩ W
  rw [e0,e1,e2,e3,e5,e9,e10,e11,e13,e14,e15,e20]
  exact hfin (ys 4) (ys 6) (ys 7) (ys 8) (ys 12) (ys 16) (ys 17) (ys 18) (ys 19) (ys 21) W hG (hp 4 (by decide)) (hp 6 (by decide)) (hp 7 (by decide)) (hp 8 (by decide)) (hp 12 (by decide)) (hp 16 (by decide)) (hp 17 (by decide)) (hp 18 (by decide)) (hp 19 (by decide)) (hp 21 (by decide))
end Go.Proofs.YtmikofeildnpdaaGreat
