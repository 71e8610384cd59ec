/- Texts of this claim, put together: SI. -/
import Derived.Test.YtmikofeildnpdaaGreatKYv
import Derived.Test.YtmikofeildnpdaaGreatKYu

set_option maxRecDepth 100000
set_option maxHeartbeats 12800000
/- inclusion.steps: the regions of its iterator that take the first move of one side. -/
namespace Go.Proofs.YtmikofeildnpdaaGreat
open Go.RowKit
def stB (c0 c1 c2 c3 c4 c5 c6 c7 c8:Int):Obj:=.cells #[.int .i64 c0,.int .i64 c1,.int .i64 c2,.int .i64 c3,.int .i64 c4,.int .i64 c5,.int .i64 c6,.int .i64 c7,.int .i64 c8] 134
theorem stB.cells {W:World} {b:Nat} {c0 c1 c2 c3 c4 c5 c6 c7 c8:Int} (h:W.heap[b]? = some (stB c0 c1 c2 c3 c4 c5 c6 c7 c8)):(W.cell? ⟨b,0,none⟩=some (.int .i64 c0)∧W.cell? ⟨b,1,none⟩=some (.int .i64 c1)∧W.cell? ⟨b,2,none⟩=some (.int .i64 c2)∧W.cell? ⟨b,3,none⟩=some (.int .i64 c3)∧W.cell? ⟨b,4,none⟩=some (.int .i64 c4)∧W.cell? ⟨b,5,none⟩=some (.int .i64 c5)∧W.cell? ⟨b,6,none⟩=some (.int .i64 c6))∧W.cell? ⟨b,7,none⟩=some (.int .i64 c7)∧W.cell? ⟨b,8,none⟩=some (.int .i64 c8):=by
 unfold stB at h
 refine ⟨⟨?_,?_,?_,?_,?_,?_,?_⟩,?_,?_⟩ <;> (rw [cell_of_row _ b _ _ _ _ h]; rfl)
theorem stB.round {W:World} {b:Nat} {c0 c1 c2 c3 c4 c5 c6 c7 c8:Int} (h:W.heap[b]? = some (stB c0 c1 c2 c3 c4 c5 c6 c7 c8)) (r0 r1 r2 r3 r4 r5 r6:Int):(((((((W.setCell ⟨b,0,none⟩ (.int .i64 r0)).setCell ⟨b,1,none⟩ (.int .i64 r1)).setCell ⟨b,2,none⟩ (.int .i64 r2)).setCell ⟨b,3,none⟩ (.int .i64 r3)).setCell ⟨b,4,none⟩ (.int .i64 r4)).setCell ⟨b,5,none⟩ (.int .i64 r5)).setCell ⟨b,6,none⟩ (.int .i64 r6)).heap[b]? = some (stB r0 r1 r2 r3 r4 r5 r6 c7 c8):=by
 have k0:(W.setCell ⟨b,0,none⟩ (.int .i64 r0)).heap[b]? = some (.cells #[.int .i64 r0,.int .i64 c1,.int .i64 c2,.int .i64 c3,.int .i64 c4,.int .i64 c5,.int .i64 c6,.int .i64 c7,.int .i64 c8] 134):=heap_setCell_same _ b 0 _ _ (.int .i64 r0) h
 have k1:((W.setCell ⟨b,0,none⟩ (.int .i64 r0)).setCell ⟨b,1,none⟩ (.int .i64 r1)).heap[b]? = some (.cells #[.int .i64 r0,.int .i64 r1,.int .i64 c2,.int .i64 c3,.int .i64 c4,.int .i64 c5,.int .i64 c6,.int .i64 c7,.int .i64 c8] 134):=heap_setCell_same _ b 1 _ _ (.int .i64 r1) k0
 have k2:(((W.setCell ⟨b,0,none⟩ (.int .i64 r0)).setCell ⟨b,1,none⟩ (.int .i64 r1)).setCell ⟨b,2,none⟩ (.int .i64 r2)).heap[b]? = some (.cells #[.int .i64 r0,.int .i64 r1,.int .i64 r2,.int .i64 c3,.int .i64 c4,.int .i64 c5,.int .i64 c6,.int .i64 c7,.int .i64 c8] 134):=heap_setCell_same _ b 2 _ _ (.int .i64 r2) k1
 have k3:((((W.setCell ⟨b,0,none⟩ (.int .i64 r0)).setCell ⟨b,1,none⟩ (.int .i64 r1)).setCell ⟨b,2,none⟩ (.int .i64 r2)).setCell ⟨b,3,none⟩ (.int .i64 r3)).heap[b]? = some (.cells #[.int .i64 r0,.int .i64 r1,.int .i64 r2,.int .i64 r3,.int .i64 c4,.int .i64 c5,.int .i64 c6,.int .i64 c7,.int .i64 c8] 134):=heap_setCell_same _ b 3 _ _ (.int .i64 r3) k2
 have k4:(((((W.setCell ⟨b,0,none⟩ (.int .i64 r0)).setCell ⟨b,1,none⟩ (.int .i64 r1)).setCell ⟨b,2,none⟩ (.int .i64 r2)).setCell ⟨b,3,none⟩ (.int .i64 r3)).setCell ⟨b,4,none⟩ (.int .i64 r4)).heap[b]? = some (.cells #[.int .i64 r0,.int .i64 r1,.int .i64 r2,.int .i64 r3,.int .i64 r4,.int .i64 c5,.int .i64 c6,.int .i64 c7,.int .i64 c8] 134):=heap_setCell_same _ b 4 _ _ (.int .i64 r4) k3
 have k5:((((((W.setCell ⟨b,0,none⟩ (.int .i64 r0)).setCell ⟨b,1,none⟩ (.int .i64 r1)).setCell ⟨b,2,none⟩ (.int .i64 r2)).setCell ⟨b,3,none⟩ (.int .i64 r3)).setCell ⟨b,4,none⟩ (.int .i64 r4)).setCell ⟨b,5,none⟩ (.int .i64 r5)).heap[b]? = some (.cells #[.int .i64 r0,.int .i64 r1,.int .i64 r2,.int .i64 r3,.int .i64 r4,.int .i64 r5,.int .i64 c6,.int .i64 c7,.int .i64 c8] 134):=heap_setCell_same _ b 5 _ _ (.int .i64 r5) k4
 have k6:(((((((W.setCell ⟨b,0,none⟩ (.int .i64 r0)).setCell ⟨b,1,none⟩ (.int .i64 r1)).setCell ⟨b,2,none⟩ (.int .i64 r2)).setCell ⟨b,3,none⟩ (.int .i64 r3)).setCell ⟨b,4,none⟩ (.int .i64 r4)).setCell ⟨b,5,none⟩ (.int .i64 r5)).setCell ⟨b,6,none⟩ (.int .i64 r6)).heap[b]? = some (.cells #[.int .i64 r0,.int .i64 r1,.int .i64 r2,.int .i64 r3,.int .i64 r4,.int .i64 r5,.int .i64 r6,.int .i64 c7,.int .i64 c8] 134):=heap_setCell_same _ b 6 _ _ (.int .i64 r6) k5
 exact k6
theorem stB.set7 {W:World} {b:Nat} {c0 c1 c2 c3 c4 c5 c6 c7 c8:Int} (h:W.heap[b]? = some (stB c0 c1 c2 c3 c4 c5 c6 c7 c8)) (r:Int):(W.setCell ⟨b,7,none⟩ (.int .i64 r)).heap[b]? = some (stB c0 c1 c2 c3 c4 c5 c6 r c8):=heap_setCell_same W b 7 _ _ (.int .i64 r) h
theorem stB.set8 {W:World} {b:Nat} {c0 c1 c2 c3 c4 c5 c6 c7 c8:Int} (h:W.heap[b]? = some (stB c0 c1 c2 c3 c4 c5 c6 c7 c8)) (r:Int):(W.setCell ⟨b,8,none⟩ (.int .i64 r)).heap[b]? = some (stB c0 c1 c2 c3 c4 c5 c6 c7 r):=heap_setCell_same W b 8 _ _ (.int .i64 r) h
def SiG (w W:World) (b bx:Nat):Prop:=Only (fun k=>k=b∨k=bx) w W
def oStep9_0:Oper:=⟨some 35,Op.load 98 (Operand.tmp 1),98,"inclusion.go:48",#[],none⟩
def oStep9_1:Oper:=⟨some 36,Op.indexAddr 98 (Operand.tmp 35) (Operand.const (Value.int IntKind.i64 0)),0,"inclusion.go:48",#[⟨0,.data⟩],none⟩
def oStep9_2:Oper:=⟨some 37,Op.fieldAddr 100 (Operand.tmp 36) 0,0,"inclusion.go:48",#[⟨1,.data⟩],none⟩
def oStep9_3:Oper:=⟨some 38,Op.load 87 (Operand.tmp 37),87,"inclusion.go:48",#[⟨2,.data⟩],none⟩
def oStep9_4:Oper:=⟨some 39,Op.load 98 (Operand.tmp 1),98,"inclusion.go:48",#[{ on:=11,ground:=Ground.gcOnly Departure.lateStores }],none⟩
def oStep9_5:Oper:=⟨some 40,Op.indexAddr 98 (Operand.tmp 39) (Operand.const (Value.int IntKind.i64 0)),0,"inclusion.go:48",#[⟨4,.data⟩,{ on:=11,ground:=Ground.gcOnly Departure.lateStores }],none⟩
def oStep9_6:Oper:=⟨some 41,Op.fieldAddr 100 (Operand.tmp 40) 1,0,"inclusion.go:48",#[⟨5,.data⟩,{ on:=11,ground:=Ground.gcOnly Departure.lateStores }],none⟩
def oStep9_7:Oper:=⟨some 42,Op.load 3 (Operand.tmp 41),3,"inclusion.go:48",#[⟨6,.data⟩,{ on:=11,ground:=Ground.gcOnly Departure.lateStores }],none⟩
def oStep9_8:Oper:=⟨some 43,Op.load 98 (Operand.tmp 1),98,"inclusion.go:48",#[],none⟩
def oStep9_9:Oper:=⟨some 44,Op.slice 98 (Operand.tmp 43) (some (Operand.const (Value.int IntKind.i64 1))) none none,98,"inclusion.go:48",#[⟨8,.data⟩],none⟩
def oStep9_10:Oper:=⟨some 45,Op.fieldAddr 134 (Operand.tmp 5) 0,0,"inclusion.go:48",#[⟨0,.phase⟩,⟨1,.phase⟩,⟨2,.phase⟩,⟨3,.phase⟩,{ on:=4,ground:=Ground.textOnly Departure.lateStores },{ on:=5,ground:=Ground.textOnly Departure.lateStores },{ on:=6,ground:=Ground.textOnly Departure.lateStores },{ on:=7,ground:=Ground.textOnly Departure.lateStores },{ on:=8,ground:=Ground.textOnly Departure.lateStores },{ on:=9,ground:=Ground.textOnly Departure.lateStoresUnsure }],none⟩
def oStep9_11:Oper:=⟨none,Op.store 87 (Operand.tmp 45) (Operand.tmp 38),0,"inclusion.go:48",#[⟨10,.data⟩,⟨3,.data⟩,⟨0,.phase⟩,⟨1,.phase⟩,⟨2,.phase⟩,⟨3,.phase⟩,{ on:=4,ground:=Ground.textOnly Departure.lateStores },{ on:=5,ground:=Ground.textOnly Departure.lateStores },{ on:=6,ground:=Ground.textOnly Departure.lateStores },{ on:=7,ground:=Ground.textOnly Departure.lateStores },{ on:=8,ground:=Ground.textOnly Departure.lateStores },{ on:=9,ground:=Ground.textOnly Departure.lateStoresUnsure }],none⟩
def oStep9_12:Oper:=⟨some 46,Op.fieldAddr 134 (Operand.tmp 5) 1,0,"inclusion.go:48",#[],none⟩
def oStep9_13:Oper:=⟨some 47,Op.indexAddr 93 (Operand.tmp 46) (Operand.const (Value.int IntKind.i64 0)),0,"inclusion.go:48",#[⟨12,.data⟩,⟨0,.phase⟩,⟨1,.phase⟩,⟨2,.phase⟩,⟨3,.phase⟩,⟨4,.phase⟩,⟨5,.phase⟩,⟨6,.phase⟩,⟨7,.phase⟩,{ on:=8,ground:=Ground.textOnly Departure.lateStores },{ on:=9,ground:=Ground.textOnly Departure.lateStoresUnsure },⟨10,.phase⟩,⟨11,.phase⟩],none⟩
def oStep9_14:Oper:=⟨none,Op.store 3 (Operand.tmp 47) (Operand.tmp 42),0,"inclusion.go:48",#[⟨13,.data⟩,⟨7,.data⟩,⟨11,.chain⟩,⟨0,.phase⟩,⟨1,.phase⟩,⟨2,.phase⟩,⟨3,.phase⟩,⟨4,.phase⟩,⟨5,.phase⟩,⟨6,.phase⟩,⟨7,.phase⟩,{ on:=8,ground:=Ground.textOnly Departure.lateStores },{ on:=9,ground:=Ground.textOnly Departure.lateStoresUnsure },⟨10,.phase⟩,⟨11,.phase⟩],none⟩
def oStep9_15:Oper:=⟨none,Op.store 98 (Operand.tmp 1) (Operand.tmp 44),0,"inclusion.go:48",#[⟨9,.data⟩,⟨14,.chain⟩,⟨0,.phase⟩,⟨1,.phase⟩,⟨2,.phase⟩,⟨3,.phase⟩,⟨4,.phase⟩,⟨5,.phase⟩,⟨6,.phase⟩,⟨7,.phase⟩,⟨8,.phase⟩,⟨9,.phase⟩,⟨10,.phase⟩,⟨11,.phase⟩,⟨12,.phase⟩,⟨13,.phase⟩,⟨14,.phase⟩],none⟩
def opsStep9:List Oper:=[oStep9_0,oStep9_1,oStep9_2,oStep9_3,oStep9_4,oStep9_5,oStep9_6,oStep9_7,oStep9_8,oStep9_9,oStep9_10,oStep9_11,oStep9_12,oStep9_13,oStep9_14,oStep9_15]
theorem regStep9 {w:World} {x0 x2 x3 x4 x6 x7 x8 x9 x10 x11 x12 x13 x14 x15 x16 x17 x18 x19 x20 x21 x22 x23 x24 x25 x26 x27 x28 x29 x30 x31 x32 x33 x34 x35 x36 x37 x38 x39 x40 x41 x42 x43 x44 x45 x46 x47 x48 x49 x50 x51 x52 x53 x54 x55 x56 x57 x58 x59 x60 x61 x62 x63 x64 x65 x66:Value} {Q:Exit→Act→World→Prop} {b bx mb mo n c:Nat} {tp:Option Addr} {c0 c1 c2 c3 c4 c5 c6 c7 c8 r0 r1 r2 r3 r4 r5 r6 r7:Int}
  (k1:w.heap[b]? = some (stB c0 c1 c2 c3 c4 c5 c6 c7 c8)) (k2:w.heap[bx]? = some (.cells #[.slice (some ⟨mb,mo,none⟩) n c] 98)) (hbb:b ≠ bx) (hmb : ¬ (mb=b∨mb=bx))
  (q0:w.cell? ⟨mb,mo,none⟩=some (.int .i64 r0)) (q1:w.cell? ⟨mb,mo+1,none⟩=some (.int .i64 r1)) (q2:w.cell? ⟨mb,mo+2,none⟩=some (.int .i64 r2)) (q3:w.cell? ⟨mb,mo+3,none⟩=some (.int .i64 r3)) (q4:w.cell? ⟨mb,mo+4,none⟩=some (.int .i64 r4)) (q5:w.cell? ⟨mb,mo+5,none⟩=some (.int .i64 r5)) (q6:w.cell? ⟨mb,mo+6,none⟩=some (.int .i64 r6)) (q7:w.cell? ⟨mb,mo+7,none⟩=some (.int .i64 r7))
  (hn1:1≤n) (hnc:n≤c) (hif:(if c=1 then some (⟨mb,mo,none⟩:Addr) else some ⟨mb,mo+8,none⟩)=tp)
  (hfin:∀ (_y11 _y14 _y15:Value) (W:World),(SiG w W b bx∧W.heap[b]? = some (stB (if (fun i=>decide (i < 16)) 11=true then r0 else c0) (if (fun i=>decide (i < 16)) 11=true then r1 else c1) (if (fun i=>decide (i < 16)) 11=true then r2 else c2) (if (fun i=>decide (i < 16)) 11=true then r3 else c3) (if (fun i=>decide (i < 16)) 11=true then r4 else c4) (if (fun i=>decide (i < 16)) 11=true then r5 else c5) (if (fun i=>decide (i < 16)) 11=true then r6 else c6) (if (fun i=>decide (i < 16)) 14=true then r7 else c7) c8)∧W.heap[bx]? = some (.cells #[if (fun i=>decide (i < 16)) 15=true then .slice tp (n - 1) (c - 1) else .slice (some ⟨mb,mo,none⟩) n c] 98))→(True)→(True)→(True)→Q .normal ⟨#[x0,.pointer (some ⟨bx,0,none⟩),x2,x3,x4,.pointer (some ⟨b,0,none⟩),x6,x7,x8,x9,x10,x11,x12,x13,x14,x15,x16,x17,x18,x19,x20,x21,x22,x23,x24,x25,x26,x27,x28,x29,x30,x31,x32,x33,x34,.slice (some ⟨mb,mo,none⟩) n c,.pointer (some ⟨mb,mo,none⟩),.pointer (some ⟨mb,mo,none⟩),.agg #[.int .i64 r0,.int .i64 r1,.int .i64 r2,.int .i64 r3,.int .i64 r4,.int .i64 r5,.int .i64 r6],.slice (some ⟨mb,mo,none⟩) n c,.pointer (some ⟨mb,mo,none⟩),.pointer (some ⟨mb,mo+7,none⟩),.int .i64 r7,.slice (some ⟨mb,mo,none⟩) n c,.slice tp (n - 1) (c - 1),.pointer (some ⟨b,0,none⟩),.pointer (some ⟨b,7,none⟩),.pointer (some ⟨b,7,none⟩),x48,x49,x50,x51,x52,x53,x54,x55,x56,x57,x58,x59,x60,x61,x62,x63,x64,x65,x66],[]⟩ W) :
  (Code.region 9 opsStep9.toArray true).wp Tryz.prog Q ⟨#[x0,.pointer (some ⟨bx,0,none⟩),x2,x3,x4,.pointer (some ⟨b,0,none⟩),x6,x7,x8,x9,x10,x11,x12,x13,x14,x15,x16,x17,x18,x19,x20,x21,x22,x23,x24,x25,x26,x27,x28,x29,x30,x31,x32,x33,x34,x35,x36,x37,x38,x39,x40,x41,x42,x43,x44,x45,x46,x47,x48,x49,x50,x51,x52,x53,x54,x55,x56,x57,x58,x59,x60,x61,x62,x63,x64,x65,x66],[]⟩ w:=by
 have hn1i:(1:Int)≤(n:Int):=by omega
 have hn0i:(0:Int) < (n:Int):=by omega
 have hnci:(n:Int)≤(c:Int):=by omega
 have h1c:(1:Int)≤(c:Int):=by omega
 have hn0n:0 < n:=by omega
 obtain ⟨fr,hfr⟩:∃ fr:Value→Value→Value→Value→Value→Value→Value→Value→Value→Value→Value→Value→Value→Act,fr=fun y0 y1 y2 y3 y4 y5 y6 y7 y8 y9 y10 y12 y13=>⟨#[x0,.pointer (some ⟨bx,0,none⟩),x2,x3,x4,.pointer (some ⟨b,0,none⟩),x6,x7,x8,x9,x10,x11,x12,x13,x14,x15,x16,x17,x18,x19,x20,x21,x22,x23,x24,x25,x26,x27,x28,x29,x30,x31,x32,x33,x34,y0,y1,y2,y3,y4,y5,y6,y7,y8,y9,y10,y12,y13,x48,x49,x50,x51,x52,x53,x54,x55,x56,x57,x58,x59,x60,x61,x62,x63,x64,x65,x66],[]⟩:=⟨_,rfl⟩
 obtain ⟨GG,hGG⟩:∃ GG:(Nat→Bool)→World→Prop,GG=fun D W=>SiG w W b bx∧W.heap[b]? = some (stB (if D 11=true then r0 else c0) (if D 11=true then r1 else c1) (if D 11=true then r2 else c2) (if D 11=true then r3 else c3) (if D 11=true then r4 else c4) (if D 11=true then r5 else c5) (if D 11=true then r6 else c6) (if D 14=true then r7 else c7) c8)∧W.heap[bx]? = some (.cells #[if D 15=true then .slice tp (n - 1) (c - 1) else .slice (some ⟨mb,mo,none⟩) n c] 98):=⟨_,rfl⟩
 have st0 {D:Nat→Bool} {y0 y1 y2 y3 y4 y5 y6 y7 y8 y9 y10 y12 y13:Value} {W:World} {K:Act→World→Prop} (hD:D 0=false) (hcl:ClG opsStep9.toArray D) (hd:True) (hG:GG D W) (hK:∀ (v:Value) (W':World),(True)→GG (addG D 0) W'→(v = .slice (some ⟨mb,mo,none⟩) n c)→K (fr v y1 y2 y3 y4 y5 y6 y7 y8 y9 y10 y12 y13) W'):Oper.wp Tryz.prog oStep9_0 (fr y0 y1 y2 y3 y4 y5 y6 y7 y8 y9 y10 y12 y13) W K Q:=by
  subst hfr hGG
  unfold oStep9_0
  obtain ⟨g1,g2,g3⟩:=hG
  have d15:=hcl.no (j:=15) (i:=0) rfl (by kernel_rfl) hD
  rw [if_neg (by rw [d15]; decide)] at g3
  have cx:=cell_of_one g3
  go_simp
  exact hK _ _ trivial ⟨g1,g2,by rw [show addG D 0 15=D 15 from rfl,d15]; exact g3⟩ rfl
 have st1 {D:Nat→Bool} {y0 y1 y2 y3 y4 y5 y6 y7 y8 y9 y10 y12 y13:Value} {W:World} {K:Act→World→Prop} (hD:D 1=false) (hcl:ClG opsStep9.toArray D) (hd:(D 0=true∧y0 = .slice (some ⟨mb,mo,none⟩) n c)∧True) (hG:GG D W) (hK:∀ (v:Value) (W':World),(True)→GG (addG D 1) W'→(v = .pointer (some ⟨mb,mo,none⟩))→K (fr y0 v y2 y3 y4 y5 y6 y7 y8 y9 y10 y12 y13) W'):Oper.wp Tryz.prog oStep9_1 (fr y0 y1 y2 y3 y4 y5 y6 y7 y8 y9 y10 y12 y13) W K Q:=by
  subst hfr hGG
  unfold oStep9_1
  obtain ⟨⟨_,rfl⟩,-⟩:=hd
  obtain ⟨g1,g2,g3⟩:=hG
  go_simp
  exact hK _ _ trivial ⟨g1,g2,g3⟩ rfl
 have st2 {D:Nat→Bool} {y0 y1 y2 y3 y4 y5 y6 y7 y8 y9 y10 y12 y13:Value} {W:World} {K:Act→World→Prop} (hD:D 2=false) (hcl:ClG opsStep9.toArray D) (hd:(D 1=true∧y1 = .pointer (some ⟨mb,mo,none⟩))∧True) (hG:GG D W) (hK:∀ (v:Value) (W':World),(True)→GG (addG D 2) W'→(v = .pointer (some ⟨mb,mo,none⟩))→K (fr y0 y1 v y3 y4 y5 y6 y7 y8 y9 y10 y12 y13) W'):Oper.wp Tryz.prog oStep9_2 (fr y0 y1 y2 y3 y4 y5 y6 y7 y8 y9 y10 y12 y13) W K Q:=by
  subst hfr hGG
  unfold oStep9_2
  obtain ⟨⟨_,rfl⟩,-⟩:=hd
  obtain ⟨g1,g2,g3⟩:=hG
  go_simp
  exact hK _ _ trivial ⟨g1,g2,g3⟩ rfl
 have st3 {D:Nat→Bool} {y0 y1 y2 y3 y4 y5 y6 y7 y8 y9 y10 y12 y13:Value} {W:World} {K:Act→World→Prop} (hD:D 3=false) (hcl:ClG opsStep9.toArray D) (hd:(D 2=true∧y2 = .pointer (some ⟨mb,mo,none⟩))∧True) (hG:GG D W) (hK:∀ (v:Value) (W':World),(True)→GG (addG D 3) W'→(v = .agg #[.int .i64 r0,.int .i64 r1,.int .i64 r2,.int .i64 r3,.int .i64 r4,.int .i64 r5,.int .i64 r6])→K (fr y0 y1 y2 v y4 y5 y6 y7 y8 y9 y10 y12 y13) W'):Oper.wp Tryz.prog oStep9_3 (fr y0 y1 y2 y3 y4 y5 y6 y7 y8 y9 y10 y12 y13) W K Q:=by
  subst hfr hGG
  unfold oStep9_3
  obtain ⟨⟨_,rfl⟩,-⟩:=hd
  obtain ⟨g1,g2,g3⟩:=hG
  have a0:=g1.cell (p:=⟨mb,mo,none⟩) hmb q0
  have a1:=g1.cell (p:=⟨mb,mo+1,none⟩) hmb q1
  have a2:=g1.cell (p:=⟨mb,mo+2,none⟩) hmb q2
  have a3:=g1.cell (p:=⟨mb,mo+3,none⟩) hmb q3
  have a4:=g1.cell (p:=⟨mb,mo+4,none⟩) hmb q4
  have a5:=g1.cell (p:=⟨mb,mo+5,none⟩) hmb q5
  have a6:=g1.cell (p:=⟨mb,mo+6,none⟩) hmb q6
  go_simp
  exact hK _ _ trivial ⟨g1,g2,g3⟩ rfl
 have st4 {D:Nat→Bool} {y0 y1 y2 y3 y4 y5 y6 y7 y8 y9 y10 y12 y13:Value} {W:World} {K:Act→World→Prop} (hD:D 4=false) (hcl:ClG opsStep9.toArray D) (hd:True) (hG:GG D W) (hK:∀ (v:Value) (W':World),(True)→GG (addG D 4) W'→(v = .slice (some ⟨mb,mo,none⟩) n c)→K (fr y0 y1 y2 y3 v y5 y6 y7 y8 y9 y10 y12 y13) W'):Oper.wp Tryz.prog oStep9_4 (fr y0 y1 y2 y3 y4 y5 y6 y7 y8 y9 y10 y12 y13) W K Q:=by
  subst hfr hGG
  unfold oStep9_4
  obtain ⟨g1,g2,g3⟩:=hG
  have d15:=hcl.no (j:=15) (i:=4) rfl (by kernel_rfl) hD
  rw [if_neg (by rw [d15]; decide)] at g3
  have cx:=cell_of_one g3
  go_simp
  exact hK _ _ trivial ⟨g1,g2,by rw [show addG D 4 15=D 15 from rfl,d15]; exact g3⟩ rfl
 have st5 {D:Nat→Bool} {y0 y1 y2 y3 y4 y5 y6 y7 y8 y9 y10 y12 y13:Value} {W:World} {K:Act→World→Prop} (hD:D 5=false) (hcl:ClG opsStep9.toArray D) (hd:(D 4=true∧y4 = .slice (some ⟨mb,mo,none⟩) n c)∧True) (hG:GG D W) (hK:∀ (v:Value) (W':World),(True)→GG (addG D 5) W'→(v = .pointer (some ⟨mb,mo,none⟩))→K (fr y0 y1 y2 y3 y4 v y6 y7 y8 y9 y10 y12 y13) W'):Oper.wp Tryz.prog oStep9_5 (fr y0 y1 y2 y3 y4 y5 y6 y7 y8 y9 y10 y12 y13) W K Q:=by
  subst hfr hGG
  unfold oStep9_5
  obtain ⟨⟨_,rfl⟩,-⟩:=hd
  obtain ⟨g1,g2,g3⟩:=hG
  go_simp
  exact hK _ _ trivial ⟨g1,g2,g3⟩ rfl
 have st6 {D:Nat→Bool} {y0 y1 y2 y3 y4 y5 y6 y7 y8 y9 y10 y12 y13:Value} {W:World} {K:Act→World→Prop} (hD:D 6=false) (hcl:ClG opsStep9.toArray D) (hd:(D 5=true∧y5 = .pointer (some ⟨mb,mo,none⟩))∧True) (hG:GG D W) (hK:∀ (v:Value) (W':World),(True)→GG (addG D 6) W'→(v = .pointer (some ⟨mb,mo+7,none⟩))→K (fr y0 y1 y2 y3 y4 y5 v y7 y8 y9 y10 y12 y13) W'):Oper.wp Tryz.prog oStep9_6 (fr y0 y1 y2 y3 y4 y5 y6 y7 y8 y9 y10 y12 y13) W K Q:=by
  subst hfr hGG
  unfold oStep9_6
  obtain ⟨⟨_,rfl⟩,-⟩:=hd
  obtain ⟨g1,g2,g3⟩:=hG
  go_simp
  exact hK _ _ trivial ⟨g1,g2,g3⟩ rfl
 have st7 {D:Nat→Bool} {y0 y1 y2 y3 y4 y5 y6 y7 y8 y9 y10 y12 y13:Value} {W:World} {K:Act→World→Prop} (hD:D 7=false) (hcl:ClG opsStep9.toArray D) (hd:(D 6=true∧y6 = .pointer (some ⟨mb,mo+7,none⟩))∧True) (hG:GG D W) (hK:∀ (v:Value) (W':World),(True)→GG (addG D 7) W'→(v = .int .i64 r7)→K (fr y0 y1 y2 y3 y4 y5 y6 v y8 y9 y10 y12 y13) W'):Oper.wp Tryz.prog oStep9_7 (fr y0 y1 y2 y3 y4 y5 y6 y7 y8 y9 y10 y12 y13) W K Q:=by
  subst hfr hGG
  unfold oStep9_7
  obtain ⟨⟨_,rfl⟩,-⟩:=hd
  obtain ⟨g1,g2,g3⟩:=hG
  have a7:=g1.cell (p:=⟨mb,mo+7,none⟩) hmb q7
  go_simp
  exact hK _ _ trivial ⟨g1,g2,g3⟩ rfl
 have st8 {D:Nat→Bool} {y0 y1 y2 y3 y4 y5 y6 y7 y8 y9 y10 y12 y13:Value} {W:World} {K:Act→World→Prop} (hD:D 8=false) (hcl:ClG opsStep9.toArray D) (hd:True) (hG:GG D W) (hK:∀ (v:Value) (W':World),(True)→GG (addG D 8) W'→(v = .slice (some ⟨mb,mo,none⟩) n c)→K (fr y0 y1 y2 y3 y4 y5 y6 y7 v y9 y10 y12 y13) W'):Oper.wp Tryz.prog oStep9_8 (fr y0 y1 y2 y3 y4 y5 y6 y7 y8 y9 y10 y12 y13) W K Q:=by
  subst hfr hGG
  unfold oStep9_8
  obtain ⟨g1,g2,g3⟩:=hG
  have d15:=hcl.no (j:=15) (i:=8) rfl (by kernel_rfl) hD
  rw [if_neg (by rw [d15]; decide)] at g3
  have cx:=cell_of_one g3
  go_simp
  exact hK _ _ trivial ⟨g1,g2,by rw [show addG D 8 15=D 15 from rfl,d15]; exact g3⟩ rfl
 have st9 {D:Nat→Bool} {y0 y1 y2 y3 y4 y5 y6 y7 y8 y9 y10 y12 y13:Value} {W:World} {K:Act→World→Prop} (hD:D 9=false) (hcl:ClG opsStep9.toArray D) (hd:(D 8=true∧y8 = .slice (some ⟨mb,mo,none⟩) n c)∧True) (hG:GG D W) (hK:∀ (v:Value) (W':World),(True)→GG (addG D 9) W'→(v = .slice tp (n - 1) (c - 1))→K (fr y0 y1 y2 y3 y4 y5 y6 y7 y8 v y10 y12 y13) W'):Oper.wp Tryz.prog oStep9_9 (fr y0 y1 y2 y3 y4 y5 y6 y7 y8 y9 y10 y12 y13) W K Q:=by
  subst hfr hGG
  unfold oStep9_9
  obtain ⟨⟨_,rfl⟩,-⟩:=hd
  obtain ⟨g1,g2,g3⟩:=hG
  go_simp
  exact hK _ _ trivial ⟨g1,g2,g3⟩ rfl
 have st10 {D:Nat→Bool} {y0 y1 y2 y3 y4 y5 y6 y7 y8 y9 y10 y12 y13:Value} {W:World} {K:Act→World→Prop} (hD:D 10=false) (hcl:ClG opsStep9.toArray D) (hd:True) (hG:GG D W) (hK:∀ (v:Value) (W':World),(True)→GG (addG D 10) W'→(v = .pointer (some ⟨b,0,none⟩))→K (fr y0 y1 y2 y3 y4 y5 y6 y7 y8 y9 v y12 y13) W'):Oper.wp Tryz.prog oStep9_10 (fr y0 y1 y2 y3 y4 y5 y6 y7 y8 y9 y10 y12 y13) W K Q:=by
  subst hfr hGG
  unfold oStep9_10
  obtain ⟨g1,g2,g3⟩:=hG
  go_simp
  exact hK _ _ trivial ⟨g1,g2,g3⟩ rfl
 have st11 {D:Nat→Bool} {y0 y1 y2 y3 y4 y5 y6 y7 y8 y9 y10 y12 y13:Value} {W:World} {K:Act→World→Prop} (hD:D 11=false) (hcl:ClG opsStep9.toArray D) (hd:(D 10=true∧y10 = .pointer (some ⟨b,0,none⟩))∧(D 3=true∧y3 = .agg #[.int .i64 r0,.int .i64 r1,.int .i64 r2,.int .i64 r3,.int .i64 r4,.int .i64 r5,.int .i64 r6])∧True) (hG:GG D W) (hK:∀ (v:Value) (W':World),(True)→GG (addG D 11) W'→(True)→K (fr y0 y1 y2 y3 y4 y5 y6 y7 y8 y9 y10 y12 y13) W'):Oper.wp Tryz.prog oStep9_11 (fr y0 y1 y2 y3 y4 y5 y6 y7 y8 y9 y10 y12 y13) W K Q:=by
  subst hfr hGG
  unfold oStep9_11
  obtain ⟨⟨_,rfl⟩,⟨_,rfl⟩,-⟩:=hd
  obtain ⟨g1,g2,g3⟩:=hG
  rw [hD] at g2
  simp only [Bool.false_eq_true,if_false] at g2
  obtain ⟨⟨z0,z1,z2,z3,z4,z5,z6⟩,z7,z8⟩:=stB.cells g2
  have fz:=row_free g2
  have g4:=stB.round g2 r0 r1 r2 r3 r4 r5 r6
  have hne:bx ≠ b:=fun e=>hbb e.symm
  have g5:∀ k,k ≠ b→(((((((W.setCell ⟨b,0,none⟩ (.int .i64 r0)).setCell ⟨b,1,none⟩ (.int .i64 r1)).setCell ⟨b,2,none⟩ (.int .i64 r2)).setCell ⟨b,3,none⟩ (.int .i64 r3)).setCell ⟨b,4,none⟩ (.int .i64 r4)).setCell ⟨b,5,none⟩ (.int .i64 r5)).setCell ⟨b,6,none⟩ (.int .i64 r6)).heap[k]? = W.heap[k]?:=fun k hk=>(Below.heap_setCell _ ⟨b,6,none⟩ _ k hk).trans ((Below.heap_setCell _ ⟨b,5,none⟩ _ k hk).trans ((Below.heap_setCell _ ⟨b,4,none⟩ _ k hk).trans ((Below.heap_setCell _ ⟨b,3,none⟩ _ k hk).trans ((Below.heap_setCell _ ⟨b,2,none⟩ _ k hk).trans ((Below.heap_setCell _ ⟨b,1,none⟩ _ k hk).trans (Below.heap_setCell _ ⟨b,0,none⟩ _ k hk))))))
  have g6:=((((((g1.setCell (p:=⟨b,0,none⟩) (.inl rfl) (.int .i64 r0)).setCell (p:=⟨b,1,none⟩) (.inl rfl) (.int .i64 r1)).setCell (p:=⟨b,2,none⟩) (.inl rfl) (.int .i64 r2)).setCell (p:=⟨b,3,none⟩) (.inl rfl) (.int .i64 r3)).setCell (p:=⟨b,4,none⟩) (.inl rfl) (.int .i64 r4)).setCell (p:=⟨b,5,none⟩) (.inl rfl) (.int .i64 r5)).setCell (p:=⟨b,6,none⟩) (.inl rfl) (.int .i64 r6)
  go_simp
  exact hK undef _ trivial ⟨g6,by rw [show addG D 11 11=true from rfl,show addG D 11 14=D 14 from rfl]; simpa only [if_true] using g4,by rw [show addG D 11 15=D 15 from rfl]; exact (g5 bx hne).trans g3⟩ trivial
 have st12 {D:Nat→Bool} {y0 y1 y2 y3 y4 y5 y6 y7 y8 y9 y10 y12 y13:Value} {W:World} {K:Act→World→Prop} (hD:D 12=false) (hcl:ClG opsStep9.toArray D) (hd:True) (hG:GG D W) (hK:∀ (v:Value) (W':World),(True)→GG (addG D 12) W'→(v = .pointer (some ⟨b,7,none⟩))→K (fr y0 y1 y2 y3 y4 y5 y6 y7 y8 y9 y10 v y13) W'):Oper.wp Tryz.prog oStep9_12 (fr y0 y1 y2 y3 y4 y5 y6 y7 y8 y9 y10 y12 y13) W K Q:=by
  subst hfr hGG
  unfold oStep9_12
  obtain ⟨g1,g2,g3⟩:=hG
  go_simp
  exact hK _ _ trivial ⟨g1,g2,g3⟩ rfl
 have st13 {D:Nat→Bool} {y0 y1 y2 y3 y4 y5 y6 y7 y8 y9 y10 y12 y13:Value} {W:World} {K:Act→World→Prop} (hD:D 13=false) (hcl:ClG opsStep9.toArray D) (hd:(D 12=true∧y12 = .pointer (some ⟨b,7,none⟩))∧True) (hG:GG D W) (hK:∀ (v:Value) (W':World),(True)→GG (addG D 13) W'→(v = .pointer (some ⟨b,7,none⟩))→K (fr y0 y1 y2 y3 y4 y5 y6 y7 y8 y9 y10 y12 v) W'):Oper.wp Tryz.prog oStep9_13 (fr y0 y1 y2 y3 y4 y5 y6 y7 y8 y9 y10 y12 y13) W K Q:=by
  subst hfr hGG
  unfold oStep9_13
  obtain ⟨⟨_,rfl⟩,-⟩:=hd
  obtain ⟨g1,g2,g3⟩:=hG
  go_simp
  exact hK _ _ trivial ⟨g1,g2,g3⟩ rfl
 have st14 {D:Nat→Bool} {y0 y1 y2 y3 y4 y5 y6 y7 y8 y9 y10 y12 y13:Value} {W:World} {K:Act→World→Prop} (hD:D 14=false) (hcl:ClG opsStep9.toArray D) (hd:(D 13=true∧y13 = .pointer (some ⟨b,7,none⟩))∧(D 7=true∧y7 = .int .i64 r7)∧True) (hG:GG D W) (hK:∀ (v:Value) (W':World),(True)→GG (addG D 14) W'→(True)→K (fr y0 y1 y2 y3 y4 y5 y6 y7 y8 y9 y10 y12 y13) W'):Oper.wp Tryz.prog oStep9_14 (fr y0 y1 y2 y3 y4 y5 y6 y7 y8 y9 y10 y12 y13) W K Q:=by
  subst hfr hGG
  unfold oStep9_14
  obtain ⟨⟨_,rfl⟩,⟨_,rfl⟩,-⟩:=hd
  obtain ⟨g1,g2,g3⟩:=hG
  rw [hD] at g2
  simp only [Bool.false_eq_true,if_false] at g2
  obtain ⟨⟨z0,z1,z2,z3,z4,z5,z6⟩,z7,z8⟩:=stB.cells g2
  have fz:=row_free g2
  have g4:=stB.set7 g2 r7
  have hne:bx ≠ b:=fun e=>hbb e.symm
  go_simp
  exact hK undef _ trivial ⟨g1.setCell (p:=⟨b,7,none⟩) (.inl rfl) _,by rw [show addG D 14 11=D 11 from rfl,show addG D 14 14=true from rfl]; simpa only [if_true] using g4,by rw [show addG D 14 15=D 15 from rfl]; exact (Below.heap_setCell W ⟨b,7,none⟩ _ bx hne).trans g3⟩ trivial
 have st15 {D:Nat→Bool} {y0 y1 y2 y3 y4 y5 y6 y7 y8 y9 y10 y12 y13:Value} {W:World} {K:Act→World→Prop} (hD:D 15=false) (hcl:ClG opsStep9.toArray D) (hd:(D 9=true∧y9 = .slice tp (n - 1) (c - 1))∧True) (hG:GG D W) (hK:∀ (v:Value) (W':World),(True)→GG (addG D 15) W'→(True)→K (fr y0 y1 y2 y3 y4 y5 y6 y7 y8 y9 y10 y12 y13) W'):Oper.wp Tryz.prog oStep9_15 (fr y0 y1 y2 y3 y4 y5 y6 y7 y8 y9 y10 y12 y13) W K Q:=by
  subst hfr hGG
  unfold oStep9_15
  obtain ⟨⟨_,rfl⟩,-⟩:=hd
  obtain ⟨g1,g2,g3⟩:=hG
  rw [hD] at g3
  simp only [Bool.false_eq_true,if_false] at g3
  have cx:=cell_of_one g3
  have fz:=free_of_one g3
  have g4:=one_setCell (u:=.slice tp (n - 1) (c - 1)) g3
  go_simp
  exact hK undef _ trivial ⟨g1.setCell (p:=⟨bx,0,none⟩) (.inr rfl) _,by rw [show addG D 15 11=D 11 from rfl,show addG D 15 14=D 14 from rfl]; exact (Below.heap_setCell W ⟨bx,0,none⟩ _ b hbb).trans g2,by rw [show addG D 15 15=true from rfl]; simpa only [if_true] using g4⟩ trivial
 subst hfr hGG
 refine wp_region_rg (l:=opsStep9) (fun ys=>⟨#[x0,.pointer (some ⟨bx,0,none⟩),x2,x3,x4,.pointer (some ⟨b,0,none⟩),x6,x7,x8,x9,x10,x11,x12,x13,x14,x15,x16,x17,x18,x19,x20,x21,x22,x23,x24,x25,x26,x27,x28,x29,x30,x31,x32,x33,x34,ys 0,ys 1,ys 2,ys 3,ys 4,ys 5,ys 6,ys 7,ys 8,ys 9,ys 10,ys 12,ys 13,x48,x49,x50,x51,x52,x53,x54,x55,x56,x57,x58,x59,x60,x61,x62,x63,x64,x65,x66],[]⟩) [fun (_:World) (v:Value)=>v = .slice (some ⟨mb,mo,none⟩) n c,fun (_:World) (v:Value)=>v = .pointer (some ⟨mb,mo,none⟩),fun (_:World) (v:Value)=>v = .pointer (some ⟨mb,mo,none⟩),fun (_:World) (v:Value)=>v = .agg #[.int .i64 r0,.int .i64 r1,.int .i64 r2,.int .i64 r3,.int .i64 r4,.int .i64 r5,.int .i64 r6],fun (_:World) (v:Value)=>v = .slice (some ⟨mb,mo,none⟩) n c,fun (_:World) (v:Value)=>v = .pointer (some ⟨mb,mo,none⟩),fun (_:World) (v:Value)=>v = .pointer (some ⟨mb,mo+7,none⟩),fun (_:World) (v:Value)=>v = .int .i64 r7,fun (_:World) (v:Value)=>v = .slice (some ⟨mb,mo,none⟩) n c,fun (_:World) (v:Value)=>v = .slice tp (n - 1) (c - 1),fun (_:World) (v:Value)=>v = .pointer (some ⟨b,0,none⟩),fun (_:World) (_:Value)=>True,fun (_:World) (v:Value)=>v = .pointer (some ⟨b,7,none⟩),fun (_:World) (v:Value)=>v = .pointer (some ⟨b,7,none⟩),fun (_:World) (_:Value)=>True,fun (_:World) (_:Value)=>True] (fun W W'=>True) (fun D ys W=>SiG w W b bx∧W.heap[b]? = some (stB (if D 11=true then r0 else c0) (if D 11=true then r1 else c1) (if D 11=true then r2 else c2) (if D 11=true then r3 else c3) (if D 11=true then r4 else c4) (if D 11=true then r5 else c5) (if D 11=true then r6 else c6) (if D 14=true then r7 else c7) c8)∧W.heap[bx]? = some (.cells #[if D 15=true then .slice tp (n - 1) (c - 1) else .slice (some ⟨mb,mo,none⟩) n c] 98)) (fun i=>([x35,x36,x37,x38,x39,x40,x41,x42,x43,x44,x45,undef,x46,x47,undef,undef]:List Value).getD i undef) (by kernel_rfl) (by kernel_rfl) ⟨fun _ _ _ h _=>h,fun _ _ _ h _=>h,fun _ _ _ h _=>h,fun _ _ _ h _=>h,fun _ _ _ h _=>h,fun _ _ _ h _=>h,fun _ _ _ h _=>h,fun _ _ _ h _=>h,fun _ _ _ h _=>h,fun _ _ _ h _=>h,fun _ _ _ h _=>h,fun _ _ _ h _=>h,fun _ _ _ h _=>h,fun _ _ _ h _=>h,fun _ _ _ h _=>h,fun _ _ _ h _=>h,trivial⟩ ?g0 ?gx ⟨fun D ys W K h1 h2 h3 h4 h5=>by rw [if_pos (by rfl)]; exact st0 h1 h2 trivial h4 h5,fun D ys W K h1 h2 h3 h4 h5=>by rw [if_pos (by rfl)]; exact st1 h1 h2 h3 h4 h5,fun D ys W K h1 h2 h3 h4 h5=>by rw [if_pos (by rfl)]; exact st2 h1 h2 h3 h4 h5,fun D ys W K h1 h2 h3 h4 h5=>by rw [if_pos (by rfl)]; exact st3 h1 h2 h3 h4 h5,fun D ys W K h1 h2 h3 h4 h5=>by rw [if_pos (by rfl)]; exact st4 h1 h2 trivial h4 h5,fun D ys W K h1 h2 h3 h4 h5=>by rw [if_pos (by rfl)]; exact st5 h1 h2 h3 h4 h5,fun D ys W K h1 h2 h3 h4 h5=>by rw [if_pos (by rfl)]; exact st6 h1 h2 h3 h4 h5,fun D ys W K h1 h2 h3 h4 h5=>by rw [if_pos (by rfl)]; exact st7 h1 h2 h3 h4 h5,fun D ys W K h1 h2 h3 h4 h5=>by rw [if_pos (by rfl)]; exact st8 h1 h2 trivial h4 h5,fun D ys W K h1 h2 h3 h4 h5=>by rw [if_pos (by rfl)]; exact st9 h1 h2 h3 h4 h5,fun D ys W K h1 h2 h3 h4 h5=>by rw [if_pos (by rfl)]; exact st10 h1 h2 trivial h4 h5,fun D ys W K h1 h2 h3 h4 h5=>by rw [if_pos (by rfl)]; exact st11 h1 h2 ⟨h3.1,h3.2.1,trivial⟩ h4 h5,fun D ys W K h1 h2 h3 h4 h5=>by rw [if_pos (by rfl)]; exact st12 h1 h2 trivial h4 h5,fun D ys W K h1 h2 h3 h4 h5=>by rw [if_pos (by rfl)]; exact st13 h1 h2 ⟨h3.1,trivial⟩ h4 h5,fun D ys W K h1 h2 h3 h4 h5=>by rw [if_pos (by rfl)]; exact st14 h1 h2 ⟨h3.1,h3.2.1,trivial⟩ h4 h5,fun D ys W K h1 h2 h3 h4 h5=>by rw [if_pos (by rfl)]; exact st15 h1 h2 ⟨h3.1,trivial⟩ h4 h5,trivial⟩ ?fin
 case g0=>exact ⟨(Only.refl _ w).drewN 1,k1,k2⟩
 case gx=>exact fun D D' _ W h ⟨h1,h2,h3⟩=>⟨h1,by rw [← h 11 (by decide),← h 14 (by decide)]; exact h2,by rw [← h 15 (by decide)]; exact h3⟩
 case fin=>
  intro ys W hG hp
  have e0:ys 0 = .slice (some ⟨mb,mo,none⟩) n c:=hp 0 (by decide)
  have e1:ys 1 = .pointer (some ⟨mb,mo,none⟩):=hp 1 (by decide)
  have e2:ys 2 = .pointer (some ⟨mb,mo,none⟩):=hp 2 (by decide)
  have e3:ys 3 = .agg #[.int .i64 r0,.int .i64 r1,.int .i64 r2,.int .i64 r3,.int .i64 r4,.int .i64 r5,.int .i64 r6]:=hp 3 (by decide)
  have e4:ys 4 = .slice (some ⟨mb,mo,none⟩) n c:=hp 4 (by decide)
  have e5:ys 5 = .pointer (some ⟨mb,mo,none⟩):=hp 5 (by decide)
  have e6:ys 6 = .pointer (some ⟨mb,mo+7,none⟩):=hp 6 (by decide)
  have e7:ys 7 = .int .i64 r7:=hp 7 (by decide)
  have e8:ys 8 = .slice (some ⟨mb,mo,none⟩) n c:=hp 8 (by decide)
  have e9:ys 9 = .slice tp (n - 1) (c - 1):=hp 9 (by decide)
  have e10:ys 10 = .pointer (some ⟨b,0,none⟩):=hp 10 (by decide)
  have e12:ys 12 = .pointer (some ⟨b,7,none⟩):=hp 12 (by decide)
  have e13:ys 13 = .pointer (some ⟨b,7,none⟩):=hp 13 (by decide)
  show Q .normal ⟨#[x0,.pointer (some ⟨bx,0,none⟩),x2,x3,x4,.pointer (some ⟨b,0,none⟩),x6,x7,x8,x9,x10,x11,x12,x13,x14,x15,x16,x17,x18,x19,x20,x21,x22,x23,x24,x25,x26,x27,x28,x29,x30,x31,x32,x33,x34,(ys 0),(ys 1),(ys 2),(ys 3),(ys 4),(ys 5),(ys 6),(ys 7),(ys 8),(ys 9),(ys 10),(ys 12),(ys 13),x48,x49,x50,x51,x52,x53,x54,x55,x56,x57,x58,x59,x60,x61,x62,x63,x64,x65,x66],[]⟩ W
  rw [e0,e1,e2,e3,e4,e5,e6,e7,e8,e9,e10,e12,e13]
  exact hfin (ys 11) (ys 14) (ys 15) W hG (hp 11 (by decide)) (hp 14 (by decide)) (hp 15 (by decide))
def oStep11_0:Oper:=⟨some 50,Op.load 98 (Operand.tmp 2),98,"inclusion.go:51",#[],none⟩
def oStep11_1:Oper:=⟨some 51,Op.indexAddr 98 (Operand.tmp 50) (Operand.const (Value.int IntKind.i64 0)),0,"inclusion.go:51",#[⟨0,.data⟩],none⟩
def oStep11_2:Oper:=⟨some 52,Op.fieldAddr 100 (Operand.tmp 51) 0,0,"inclusion.go:51",#[⟨1,.data⟩],none⟩
def oStep11_3:Oper:=⟨some 53,Op.load 87 (Operand.tmp 52),87,"inclusion.go:51",#[⟨2,.data⟩],none⟩
def oStep11_4:Oper:=⟨some 54,Op.load 98 (Operand.tmp 2),98,"inclusion.go:51",#[{ on:=11,ground:=Ground.gcOnly Departure.lateStores }],none⟩
def oStep11_5:Oper:=⟨some 55,Op.indexAddr 98 (Operand.tmp 54) (Operand.const (Value.int IntKind.i64 0)),0,"inclusion.go:51",#[⟨4,.data⟩,{ on:=11,ground:=Ground.gcOnly Departure.lateStores }],none⟩
def oStep11_6:Oper:=⟨some 56,Op.fieldAddr 100 (Operand.tmp 55) 1,0,"inclusion.go:51",#[⟨5,.data⟩,{ on:=11,ground:=Ground.gcOnly Departure.lateStores }],none⟩
def oStep11_7:Oper:=⟨some 57,Op.load 3 (Operand.tmp 56),3,"inclusion.go:51",#[⟨6,.data⟩,{ on:=11,ground:=Ground.gcOnly Departure.lateStores }],none⟩
def oStep11_8:Oper:=⟨some 58,Op.load 98 (Operand.tmp 2),98,"inclusion.go:51",#[],none⟩
def oStep11_9:Oper:=⟨some 59,Op.slice 98 (Operand.tmp 58) (some (Operand.const (Value.int IntKind.i64 1))) none none,98,"inclusion.go:51",#[⟨8,.data⟩],none⟩
def oStep11_10:Oper:=⟨some 60,Op.fieldAddr 134 (Operand.tmp 5) 0,0,"inclusion.go:51",#[⟨0,.phase⟩,⟨1,.phase⟩,⟨2,.phase⟩,⟨3,.phase⟩,{ on:=4,ground:=Ground.textOnly Departure.lateStores },{ on:=5,ground:=Ground.textOnly Departure.lateStores },{ on:=6,ground:=Ground.textOnly Departure.lateStores },{ on:=7,ground:=Ground.textOnly Departure.lateStores },{ on:=8,ground:=Ground.textOnly Departure.lateStores },{ on:=9,ground:=Ground.textOnly Departure.lateStoresUnsure }],none⟩
def oStep11_11:Oper:=⟨none,Op.store 87 (Operand.tmp 60) (Operand.tmp 53),0,"inclusion.go:51",#[⟨10,.data⟩,⟨3,.data⟩,⟨0,.phase⟩,⟨1,.phase⟩,⟨2,.phase⟩,⟨3,.phase⟩,{ on:=4,ground:=Ground.textOnly Departure.lateStores },{ on:=5,ground:=Ground.textOnly Departure.lateStores },{ on:=6,ground:=Ground.textOnly Departure.lateStores },{ on:=7,ground:=Ground.textOnly Departure.lateStores },{ on:=8,ground:=Ground.textOnly Departure.lateStores },{ on:=9,ground:=Ground.textOnly Departure.lateStoresUnsure }],none⟩
def oStep11_12:Oper:=⟨some 61,Op.fieldAddr 134 (Operand.tmp 5) 1,0,"inclusion.go:51",#[],none⟩
def oStep11_13:Oper:=⟨some 62,Op.indexAddr 93 (Operand.tmp 61) (Operand.const (Value.int IntKind.i64 1)),0,"inclusion.go:51",#[⟨12,.data⟩,⟨0,.phase⟩,⟨1,.phase⟩,⟨2,.phase⟩,⟨3,.phase⟩,⟨4,.phase⟩,⟨5,.phase⟩,⟨6,.phase⟩,⟨7,.phase⟩,{ on:=8,ground:=Ground.textOnly Departure.lateStores },{ on:=9,ground:=Ground.textOnly Departure.lateStoresUnsure },⟨10,.phase⟩,⟨11,.phase⟩],none⟩
def oStep11_14:Oper:=⟨none,Op.store 3 (Operand.tmp 62) (Operand.tmp 57),0,"inclusion.go:51",#[⟨13,.data⟩,⟨7,.data⟩,⟨11,.chain⟩,⟨0,.phase⟩,⟨1,.phase⟩,⟨2,.phase⟩,⟨3,.phase⟩,⟨4,.phase⟩,⟨5,.phase⟩,⟨6,.phase⟩,⟨7,.phase⟩,{ on:=8,ground:=Ground.textOnly Departure.lateStores },{ on:=9,ground:=Ground.textOnly Departure.lateStoresUnsure },⟨10,.phase⟩,⟨11,.phase⟩],none⟩
def oStep11_15:Oper:=⟨none,Op.store 98 (Operand.tmp 2) (Operand.tmp 59),0,"inclusion.go:51",#[⟨9,.data⟩,⟨14,.chain⟩,⟨0,.phase⟩,⟨1,.phase⟩,⟨2,.phase⟩,⟨3,.phase⟩,⟨4,.phase⟩,⟨5,.phase⟩,⟨6,.phase⟩,⟨7,.phase⟩,⟨8,.phase⟩,⟨9,.phase⟩,⟨10,.phase⟩,⟨11,.phase⟩,⟨12,.phase⟩,⟨13,.phase⟩,⟨14,.phase⟩],none⟩
def opsStep11:List Oper:=[oStep11_0,oStep11_1,oStep11_2,oStep11_3,oStep11_4,oStep11_5,oStep11_6,oStep11_7,oStep11_8,oStep11_9,oStep11_10,oStep11_11,oStep11_12,oStep11_13,oStep11_14,oStep11_15]
theorem regStep11 {w:World} {x0 x1 x3 x4 x6 x7 x8 x9 x10 x11 x12 x13 x14 x15 x16 x17 x18 x19 x20 x21 x22 x23 x24 x25 x26 x27 x28 x29 x30 x31 x32 x33 x34 x35 x36 x37 x38 x39 x40 x41 x42 x43 x44 x45 x46 x47 x48 x49 x50 x51 x52 x53 x54 x55 x56 x57 x58 x59 x60 x61 x62 x63 x64 x65 x66:Value} {Q:Exit→Act→World→Prop} {b bx mb mo n c:Nat} {tp:Option Addr} {c0 c1 c2 c3 c4 c5 c6 c7 c8 r0 r1 r2 r3 r4 r5 r6 r7:Int}
  (k1:w.heap[b]? = some (stB c0 c1 c2 c3 c4 c5 c6 c7 c8)) (k2:w.heap[bx]? = some (.cells #[.slice (some ⟨mb,mo,none⟩) n c] 98)) (hbb:b ≠ bx) (hmb : ¬ (mb=b∨mb=bx))
  (q0:w.cell? ⟨mb,mo,none⟩=some (.int .i64 r0)) (q1:w.cell? ⟨mb,mo+1,none⟩=some (.int .i64 r1)) (q2:w.cell? ⟨mb,mo+2,none⟩=some (.int .i64 r2)) (q3:w.cell? ⟨mb,mo+3,none⟩=some (.int .i64 r3)) (q4:w.cell? ⟨mb,mo+4,none⟩=some (.int .i64 r4)) (q5:w.cell? ⟨mb,mo+5,none⟩=some (.int .i64 r5)) (q6:w.cell? ⟨mb,mo+6,none⟩=some (.int .i64 r6)) (q7:w.cell? ⟨mb,mo+7,none⟩=some (.int .i64 r7))
  (hn1:1≤n) (hnc:n≤c) (hif:(if c=1 then some (⟨mb,mo,none⟩:Addr) else some ⟨mb,mo+8,none⟩)=tp)
  (hfin:∀ (_y11 _y14 _y15:Value) (W:World),(SiG w W b bx∧W.heap[b]? = some (stB (if (fun i=>decide (i < 16)) 11=true then r0 else c0) (if (fun i=>decide (i < 16)) 11=true then r1 else c1) (if (fun i=>decide (i < 16)) 11=true then r2 else c2) (if (fun i=>decide (i < 16)) 11=true then r3 else c3) (if (fun i=>decide (i < 16)) 11=true then r4 else c4) (if (fun i=>decide (i < 16)) 11=true then r5 else c5) (if (fun i=>decide (i < 16)) 11=true then r6 else c6) c7 (if (fun i=>decide (i < 16)) 14=true then r7 else c8))∧W.heap[bx]? = some (.cells #[if (fun i=>decide (i < 16)) 15=true then .slice tp (n - 1) (c - 1) else .slice (some ⟨mb,mo,none⟩) n c] 98))→(True)→(True)→(True)→Q .normal ⟨#[x0,x1,.pointer (some ⟨bx,0,none⟩),x3,x4,.pointer (some ⟨b,0,none⟩),x6,x7,x8,x9,x10,x11,x12,x13,x14,x15,x16,x17,x18,x19,x20,x21,x22,x23,x24,x25,x26,x27,x28,x29,x30,x31,x32,x33,x34,x35,x36,x37,x38,x39,x40,x41,x42,x43,x44,x45,x46,x47,x48,x49,.slice (some ⟨mb,mo,none⟩) n c,.pointer (some ⟨mb,mo,none⟩),.pointer (some ⟨mb,mo,none⟩),.agg #[.int .i64 r0,.int .i64 r1,.int .i64 r2,.int .i64 r3,.int .i64 r4,.int .i64 r5,.int .i64 r6],.slice (some ⟨mb,mo,none⟩) n c,.pointer (some ⟨mb,mo,none⟩),.pointer (some ⟨mb,mo+7,none⟩),.int .i64 r7,.slice (some ⟨mb,mo,none⟩) n c,.slice tp (n - 1) (c - 1),.pointer (some ⟨b,0,none⟩),.pointer (some ⟨b,7,none⟩),.pointer (some ⟨b,8,none⟩),x63,x64,x65,x66],[]⟩ W) :
  (Code.region 11 opsStep11.toArray true).wp Tryz.prog Q ⟨#[x0,x1,.pointer (some ⟨bx,0,none⟩),x3,x4,.pointer (some ⟨b,0,none⟩),x6,x7,x8,x9,x10,x11,x12,x13,x14,x15,x16,x17,x18,x19,x20,x21,x22,x23,x24,x25,x26,x27,x28,x29,x30,x31,x32,x33,x34,x35,x36,x37,x38,x39,x40,x41,x42,x43,x44,x45,x46,x47,x48,x49,x50,x51,x52,x53,x54,x55,x56,x57,x58,x59,x60,x61,x62,x63,x64,x65,x66],[]⟩ w:=by
 have hn1i:(1:Int)≤(n:Int):=by omega
 have hn0i:(0:Int) < (n:Int):=by omega
 have hnci:(n:Int)≤(c:Int):=by omega
 have h1c:(1:Int)≤(c:Int):=by omega
 have hn0n:0 < n:=by omega
 obtain ⟨fr,hfr⟩:∃ fr:Value→Value→Value→Value→Value→Value→Value→Value→Value→Value→Value→Value→Value→Act,fr=fun y0 y1 y2 y3 y4 y5 y6 y7 y8 y9 y10 y12 y13=>⟨#[x0,x1,.pointer (some ⟨bx,0,none⟩),x3,x4,.pointer (some ⟨b,0,none⟩),x6,x7,x8,x9,x10,x11,x12,x13,x14,x15,x16,x17,x18,x19,x20,x21,x22,x23,x24,x25,x26,x27,x28,x29,x30,x31,x32,x33,x34,x35,x36,x37,x38,x39,x40,x41,x42,x43,x44,x45,x46,x47,x48,x49,y0,y1,y2,y3,y4,y5,y6,y7,y8,y9,y10,y12,y13,x63,x64,x65,x66],[]⟩:=⟨_,rfl⟩
 obtain ⟨GG,hGG⟩:∃ GG:(Nat→Bool)→World→Prop,GG=fun D W=>SiG w W b bx∧W.heap[b]? = some (stB (if D 11=true then r0 else c0) (if D 11=true then r1 else c1) (if D 11=true then r2 else c2) (if D 11=true then r3 else c3) (if D 11=true then r4 else c4) (if D 11=true then r5 else c5) (if D 11=true then r6 else c6) c7 (if D 14=true then r7 else c8))∧W.heap[bx]? = some (.cells #[if D 15=true then .slice tp (n - 1) (c - 1) else .slice (some ⟨mb,mo,none⟩) n c] 98):=⟨_,rfl⟩
 have st0 {D:Nat→Bool} {y0 y1 y2 y3 y4 y5 y6 y7 y8 y9 y10 y12 y13:Value} {W:World} {K:Act→World→Prop} (hD:D 0=false) (hcl:ClG opsStep11.toArray D) (hd:True) (hG:GG D W) (hK:∀ (v:Value) (W':World),(True)→GG (addG D 0) W'→(v = .slice (some ⟨mb,mo,none⟩) n c)→K (fr v y1 y2 y3 y4 y5 y6 y7 y8 y9 y10 y12 y13) W'):Oper.wp Tryz.prog oStep11_0 (fr y0 y1 y2 y3 y4 y5 y6 y7 y8 y9 y10 y12 y13) W K Q:=by
  subst hfr hGG
  unfold oStep11_0
  obtain ⟨g1,g2,g3⟩:=hG
  have d15:=hcl.no (j:=15) (i:=0) rfl (by kernel_rfl) hD
  rw [if_neg (by rw [d15]; decide)] at g3
  have cx:=cell_of_one g3
  go_simp
  exact hK _ _ trivial ⟨g1,g2,by rw [show addG D 0 15=D 15 from rfl,d15]; exact g3⟩ rfl
 have st1 {D:Nat→Bool} {y0 y1 y2 y3 y4 y5 y6 y7 y8 y9 y10 y12 y13:Value} {W:World} {K:Act→World→Prop} (hD:D 1=false) (hcl:ClG opsStep11.toArray D) (hd:(D 0=true∧y0 = .slice (some ⟨mb,mo,none⟩) n c)∧True) (hG:GG D W) (hK:∀ (v:Value) (W':World),(True)→GG (addG D 1) W'→(v = .pointer (some ⟨mb,mo,none⟩))→K (fr y0 v y2 y3 y4 y5 y6 y7 y8 y9 y10 y12 y13) W'):Oper.wp Tryz.prog oStep11_1 (fr y0 y1 y2 y3 y4 y5 y6 y7 y8 y9 y10 y12 y13) W K Q:=by
  subst hfr hGG
  unfold oStep11_1
  obtain ⟨⟨_,rfl⟩,-⟩:=hd
  obtain ⟨g1,g2,g3⟩:=hG
  go_simp
  exact hK _ _ trivial ⟨g1,g2,g3⟩ rfl
 have st2 {D:Nat→Bool} {y0 y1 y2 y3 y4 y5 y6 y7 y8 y9 y10 y12 y13:Value} {W:World} {K:Act→World→Prop} (hD:D 2=false) (hcl:ClG opsStep11.toArray D) (hd:(D 1=true∧y1 = .pointer (some ⟨mb,mo,none⟩))∧True) (hG:GG D W) (hK:∀ (v:Value) (W':World),(True)→GG (addG D 2) W'→(v = .pointer (some ⟨mb,mo,none⟩))→K (fr y0 y1 v y3 y4 y5 y6 y7 y8 y9 y10 y12 y13) W'):Oper.wp Tryz.prog oStep11_2 (fr y0 y1 y2 y3 y4 y5 y6 y7 y8 y9 y10 y12 y13) W K Q:=by
  subst hfr hGG
  unfold oStep11_2
  obtain ⟨⟨_,rfl⟩,-⟩:=hd
  obtain ⟨g1,g2,g3⟩:=hG
  go_simp
  exact hK _ _ trivial ⟨g1,g2,g3⟩ rfl
 have st3 {D:Nat→Bool} {y0 y1 y2 y3 y4 y5 y6 y7 y8 y9 y10 y12 y13:Value} {W:World} {K:Act→World→Prop} (hD:D 3=false) (hcl:ClG opsStep11.toArray D) (hd:(D 2=true∧y2 = .pointer (some ⟨mb,mo,none⟩))∧True) (hG:GG D W) (hK:∀ (v:Value) (W':World),(True)→GG (addG D 3) W'→(v = .agg #[.int .i64 r0,.int .i64 r1,.int .i64 r2,.int .i64 r3,.int .i64 r4,.int .i64 r5,.int .i64 r6])→K (fr y0 y1 y2 v y4 y5 y6 y7 y8 y9 y10 y12 y13) W'):Oper.wp Tryz.prog oStep11_3 (fr y0 y1 y2 y3 y4 y5 y6 y7 y8 y9 y10 y12 y13) W K Q:=by
  subst hfr hGG
  unfold oStep11_3
  obtain ⟨⟨_,rfl⟩,-⟩:=hd
  obtain ⟨g1,g2,g3⟩:=hG
  have a0:=g1.cell (p:=⟨mb,mo,none⟩) hmb q0
  have a1:=g1.cell (p:=⟨mb,mo+1,none⟩) hmb q1
  have a2:=g1.cell (p:=⟨mb,mo+2,none⟩) hmb q2
  have a3:=g1.cell (p:=⟨mb,mo+3,none⟩) hmb q3
  have a4:=g1.cell (p:=⟨mb,mo+4,none⟩) hmb q4
  have a5:=g1.cell (p:=⟨mb,mo+5,none⟩) hmb q5
  have a6:=g1.cell (p:=⟨mb,mo+6,none⟩) hmb q6
  go_simp
  exact hK _ _ trivial ⟨g1,g2,g3⟩ rfl
 have st4 {D:Nat→Bool} {y0 y1 y2 y3 y4 y5 y6 y7 y8 y9 y10 y12 y13:Value} {W:World} {K:Act→World→Prop} (hD:D 4=false) (hcl:ClG opsStep11.toArray D) (hd:True) (hG:GG D W) (hK:∀ (v:Value) (W':World),(True)→GG (addG D 4) W'→(v = .slice (some ⟨mb,mo,none⟩) n c)→K (fr y0 y1 y2 y3 v y5 y6 y7 y8 y9 y10 y12 y13) W'):Oper.wp Tryz.prog oStep11_4 (fr y0 y1 y2 y3 y4 y5 y6 y7 y8 y9 y10 y12 y13) W K Q:=by
  subst hfr hGG
  unfold oStep11_4
  obtain ⟨g1,g2,g3⟩:=hG
  have d15:=hcl.no (j:=15) (i:=4) rfl (by kernel_rfl) hD
  rw [if_neg (by rw [d15]; decide)] at g3
  have cx:=cell_of_one g3
  go_simp
  exact hK _ _ trivial ⟨g1,g2,by rw [show addG D 4 15=D 15 from rfl,d15]; exact g3⟩ rfl
 have st5 {D:Nat→Bool} {y0 y1 y2 y3 y4 y5 y6 y7 y8 y9 y10 y12 y13:Value} {W:World} {K:Act→World→Prop} (hD:D 5=false) (hcl:ClG opsStep11.toArray D) (hd:(D 4=true∧y4 = .slice (some ⟨mb,mo,none⟩) n c)∧True) (hG:GG D W) (hK:∀ (v:Value) (W':World),(True)→GG (addG D 5) W'→(v = .pointer (some ⟨mb,mo,none⟩))→K (fr y0 y1 y2 y3 y4 v y6 y7 y8 y9 y10 y12 y13) W'):Oper.wp Tryz.prog oStep11_5 (fr y0 y1 y2 y3 y4 y5 y6 y7 y8 y9 y10 y12 y13) W K Q:=by
  subst hfr hGG
  unfold oStep11_5
  obtain ⟨⟨_,rfl⟩,-⟩:=hd
  obtain ⟨g1,g2,g3⟩:=hG
  go_simp
  exact hK _ _ trivial ⟨g1,g2,g3⟩ rfl
 have st6 {D:Nat→Bool} {y0 y1 y2 y3 y4 y5 y6 y7 y8 y9 y10 y12 y13:Value} {W:World} {K:Act→World→Prop} (hD:D 6=false) (hcl:ClG opsStep11.toArray D) (hd:(D 5=true∧y5 = .pointer (some ⟨mb,mo,none⟩))∧True) (hG:GG D W) (hK:∀ (v:Value) (W':World),(True)→GG (addG D 6) W'→(v = .pointer (some ⟨mb,mo+7,none⟩))→K (fr y0 y1 y2 y3 y4 y5 v y7 y8 y9 y10 y12 y13) W'):Oper.wp Tryz.prog oStep11_6 (fr y0 y1 y2 y3 y4 y5 y6 y7 y8 y9 y10 y12 y13) W K Q:=by
  subst hfr hGG
  unfold oStep11_6
  obtain ⟨⟨_,rfl⟩,-⟩:=hd
  obtain ⟨g1,g2,g3⟩:=hG
  go_simp
  exact hK _ _ trivial ⟨g1,g2,g3⟩ rfl
 have st7 {D:Nat→Bool} {y0 y1 y2 y3 y4 y5 y6 y7 y8 y9 y10 y12 y13:Value} {W:World} {K:Act→World→Prop} (hD:D 7=false) (hcl:ClG opsStep11.toArray D) (hd:(D 6=true∧y6 = .pointer (some ⟨mb,mo+7,none⟩))∧True) (hG:GG D W) (hK:∀ (v:Value) (W':World),(True)→GG (addG D 7) W'→(v = .int .i64 r7)→K (fr y0 y1 y2 y3 y4 y5 y6 v y8 y9 y10 y12 y13) W'):Oper.wp Tryz.prog oStep11_7 (fr y0 y1 y2 y3 y4 y5 y6 y7 y8 y9 y10 y12 y13) W K Q:=by
  subst hfr hGG
  unfold oStep11_7
  obtain ⟨⟨_,rfl⟩,-⟩:=hd
  obtain ⟨g1,g2,g3⟩:=hG
  have a7:=g1.cell (p:=⟨mb,mo+7,none⟩) hmb q7
  go_simp
  exact hK _ _ trivial ⟨g1,g2,g3⟩ rfl
 have st8 {D:Nat→Bool} {y0 y1 y2 y3 y4 y5 y6 y7 y8 y9 y10 y12 y13:Value} {W:World} {K:Act→World→Prop} (hD:D 8=false) (hcl:ClG opsStep11.toArray D) (hd:True) (hG:GG D W) (hK:∀ (v:Value) (W':World),(True)→GG (addG D 8) W'→(v = .slice (some ⟨mb,mo,none⟩) n c)→K (fr y0 y1 y2 y3 y4 y5 y6 y7 v y9 y10 y12 y13) W'):Oper.wp Tryz.prog oStep11_8 (fr y0 y1 y2 y3 y4 y5 y6 y7 y8 y9 y10 y12 y13) W K Q:=by
  subst hfr hGG
  unfold oStep11_8
  obtain ⟨g1,g2,g3⟩:=hG
  have d15:=hcl.no (j:=15) (i:=8) rfl (by kernel_rfl) hD
  rw [if_neg (by rw [d15]; decide)] at g3
  have cx:=cell_of_one g3
  go_simp
  exact hK _ _ trivial ⟨g1,g2,by rw [show addG D 8 15=D 15 from rfl,d15]; exact g3⟩ rfl
 have st9 {D:Nat→Bool} {y0 y1 y2 y3 y4 y5 y6 y7 y8 y9 y10 y12 y13:Value} {W:World} {K:Act→World→Prop} (hD:D 9=false) (hcl:ClG opsStep11.toArray D) (hd:(D 8=true∧y8 = .slice (some ⟨mb,mo,none⟩) n c)∧True) (hG:GG D W) (hK:∀ (v:Value) (W':World),(True)→GG (addG D 9) W'→(v = .slice tp (n - 1) (c - 1))→K (fr y0 y1 y2 y3 y4 y5 y6 y7 y8 v y10 y12 y13) W'):Oper.wp Tryz.prog oStep11_9 (fr y0 y1 y2 y3 y4 y5 y6 y7 y8 y9 y10 y12 y13) W K Q:=by
  subst hfr hGG
  unfold oStep11_9
  obtain ⟨⟨_,rfl⟩,-⟩:=hd
  obtain ⟨g1,g2,g3⟩:=hG
  go_simp
  exact hK _ _ trivial ⟨g1,g2,g3⟩ rfl
 have st10 {D:Nat→Bool} {y0 y1 y2 y3 y4 y5 y6 y7 y8 y9 y10 y12 y13:Value} {W:World} {K:Act→World→Prop} (hD:D 10=false) (hcl:ClG opsStep11.toArray D) (hd:True) (hG:GG D W) (hK:∀ (v:Value) (W':World),(True)→GG (addG D 10) W'→(v = .pointer (some ⟨b,0,none⟩))→K (fr y0 y1 y2 y3 y4 y5 y6 y7 y8 y9 v y12 y13) W'):Oper.wp Tryz.prog oStep11_10 (fr y0 y1 y2 y3 y4 y5 y6 y7 y8 y9 y10 y12 y13) W K Q:=by
  subst hfr hGG
  unfold oStep11_10
  obtain ⟨g1,g2,g3⟩:=hG
  go_simp
  exact hK _ _ trivial ⟨g1,g2,g3⟩ rfl
 have st11 {D:Nat→Bool} {y0 y1 y2 y3 y4 y5 y6 y7 y8 y9 y10 y12 y13:Value} {W:World} {K:Act→World→Prop} (hD:D 11=false) (hcl:ClG opsStep11.toArray D) (hd:(D 10=true∧y10 = .pointer (some ⟨b,0,none⟩))∧(D 3=true∧y3 = .agg #[.int .i64 r0,.int .i64 r1,.int .i64 r2,.int .i64 r3,.int .i64 r4,.int .i64 r5,.int .i64 r6])∧True) (hG:GG D W) (hK:∀ (v:Value) (W':World),(True)→GG (addG D 11) W'→(True)→K (fr y0 y1 y2 y3 y4 y5 y6 y7 y8 y9 y10 y12 y13) W'):Oper.wp Tryz.prog oStep11_11 (fr y0 y1 y2 y3 y4 y5 y6 y7 y8 y9 y10 y12 y13) W K Q:=by
  subst hfr hGG
  unfold oStep11_11
  obtain ⟨⟨_,rfl⟩,⟨_,rfl⟩,-⟩:=hd
  obtain ⟨g1,g2,g3⟩:=hG
  rw [hD] at g2
  simp only [Bool.false_eq_true,if_false] at g2
  obtain ⟨⟨z0,z1,z2,z3,z4,z5,z6⟩,z7,z8⟩:=stB.cells g2
  have fz:=row_free g2
  have g4:=stB.round g2 r0 r1 r2 r3 r4 r5 r6
  have hne:bx ≠ b:=fun e=>hbb e.symm
  have g5:∀ k,k ≠ b→(((((((W.setCell ⟨b,0,none⟩ (.int .i64 r0)).setCell ⟨b,1,none⟩ (.int .i64 r1)).setCell ⟨b,2,none⟩ (.int .i64 r2)).setCell ⟨b,3,none⟩ (.int .i64 r3)).setCell ⟨b,4,none⟩ (.int .i64 r4)).setCell ⟨b,5,none⟩ (.int .i64 r5)).setCell ⟨b,6,none⟩ (.int .i64 r6)).heap[k]? = W.heap[k]?:=fun k hk=>(Below.heap_setCell _ ⟨b,6,none⟩ _ k hk).trans ((Below.heap_setCell _ ⟨b,5,none⟩ _ k hk).trans ((Below.heap_setCell _ ⟨b,4,none⟩ _ k hk).trans ((Below.heap_setCell _ ⟨b,3,none⟩ _ k hk).trans ((Below.heap_setCell _ ⟨b,2,none⟩ _ k hk).trans ((Below.heap_setCell _ ⟨b,1,none⟩ _ k hk).trans (Below.heap_setCell _ ⟨b,0,none⟩ _ k hk))))))
  have g6:=((((((g1.setCell (p:=⟨b,0,none⟩) (.inl rfl) (.int .i64 r0)).setCell (p:=⟨b,1,none⟩) (.inl rfl) (.int .i64 r1)).setCell (p:=⟨b,2,none⟩) (.inl rfl) (.int .i64 r2)).setCell (p:=⟨b,3,none⟩) (.inl rfl) (.int .i64 r3)).setCell (p:=⟨b,4,none⟩) (.inl rfl) (.int .i64 r4)).setCell (p:=⟨b,5,none⟩) (.inl rfl) (.int .i64 r5)).setCell (p:=⟨b,6,none⟩) (.inl rfl) (.int .i64 r6)
  go_simp
  exact hK undef _ trivial ⟨g6,by rw [show addG D 11 11=true from rfl,show addG D 11 14=D 14 from rfl]; simpa only [if_true] using g4,by rw [show addG D 11 15=D 15 from rfl]; exact (g5 bx hne).trans g3⟩ trivial
 have st12 {D:Nat→Bool} {y0 y1 y2 y3 y4 y5 y6 y7 y8 y9 y10 y12 y13:Value} {W:World} {K:Act→World→Prop} (hD:D 12=false) (hcl:ClG opsStep11.toArray D) (hd:True) (hG:GG D W) (hK:∀ (v:Value) (W':World),(True)→GG (addG D 12) W'→(v = .pointer (some ⟨b,7,none⟩))→K (fr y0 y1 y2 y3 y4 y5 y6 y7 y8 y9 y10 v y13) W'):Oper.wp Tryz.prog oStep11_12 (fr y0 y1 y2 y3 y4 y5 y6 y7 y8 y9 y10 y12 y13) W K Q:=by
  subst hfr hGG
  unfold oStep11_12
  obtain ⟨g1,g2,g3⟩:=hG
  go_simp
  exact hK _ _ trivial ⟨g1,g2,g3⟩ rfl
 have st13 {D:Nat→Bool} {y0 y1 y2 y3 y4 y5 y6 y7 y8 y9 y10 y12 y13:Value} {W:World} {K:Act→World→Prop} (hD:D 13=false) (hcl:ClG opsStep11.toArray D) (hd:(D 12=true∧y12 = .pointer (some ⟨b,7,none⟩))∧True) (hG:GG D W) (hK:∀ (v:Value) (W':World),(True)→GG (addG D 13) W'→(v = .pointer (some ⟨b,8,none⟩))→K (fr y0 y1 y2 y3 y4 y5 y6 y7 y8 y9 y10 y12 v) W'):Oper.wp Tryz.prog oStep11_13 (fr y0 y1 y2 y3 y4 y5 y6 y7 y8 y9 y10 y12 y13) W K Q:=by
  subst hfr hGG
  unfold oStep11_13
  obtain ⟨⟨_,rfl⟩,-⟩:=hd
  obtain ⟨g1,g2,g3⟩:=hG
  go_simp
  exact hK _ _ trivial ⟨g1,g2,g3⟩ rfl
 have st14 {D:Nat→Bool} {y0 y1 y2 y3 y4 y5 y6 y7 y8 y9 y10 y12 y13:Value} {W:World} {K:Act→World→Prop} (hD:D 14=false) (hcl:ClG opsStep11.toArray D) (hd:(D 13=true∧y13 = .pointer (some ⟨b,8,none⟩))∧(D 7=true∧y7 = .int .i64 r7)∧True) (hG:GG D W) (hK:∀ (v:Value) (W':World),(True)→GG (addG D 14) W'→(True)→K (fr y0 y1 y2 y3 y4 y5 y6 y7 y8 y9 y10 y12 y13) W'):Oper.wp Tryz.prog oStep11_14 (fr y0 y1 y2 y3 y4 y5 y6 y7 y8 y9 y10 y12 y13) W K Q:=by
  subst hfr hGG
  unfold oStep11_14
  obtain ⟨⟨_,rfl⟩,⟨_,rfl⟩,-⟩:=hd
  obtain ⟨g1,g2,g3⟩:=hG
  rw [hD] at g2
  simp only [Bool.false_eq_true,if_false] at g2
  obtain ⟨⟨z0,z1,z2,z3,z4,z5,z6⟩,z7,z8⟩:=stB.cells g2
  have fz:=row_free g2
  have g4:=stB.set8 g2 r7
  have hne:bx ≠ b:=fun e=>hbb e.symm
  go_simp
  exact hK undef _ trivial ⟨g1.setCell (p:=⟨b,8,none⟩) (.inl rfl) _,by rw [show addG D 14 11=D 11 from rfl,show addG D 14 14=true from rfl]; simpa only [if_true] using g4,by rw [show addG D 14 15=D 15 from rfl]; exact (Below.heap_setCell W ⟨b,8,none⟩ _ bx hne).trans g3⟩ trivial
 have st15 {D:Nat→Bool} {y0 y1 y2 y3 y4 y5 y6 y7 y8 y9 y10 y12 y13:Value} {W:World} {K:Act→World→Prop} (hD:D 15=false) (hcl:ClG opsStep11.toArray D) (hd:(D 9=true∧y9 = .slice tp (n - 1) (c - 1))∧True) (hG:GG D W) (hK:∀ (v:Value) (W':World),(True)→GG (addG D 15) W'→(True)→K (fr y0 y1 y2 y3 y4 y5 y6 y7 y8 y9 y10 y12 y13) W'):Oper.wp Tryz.prog oStep11_15 (fr y0 y1 y2 y3 y4 y5 y6 y7 y8 y9 y10 y12 y13) W K Q:=by
  subst hfr hGG
  unfold oStep11_15
  obtain ⟨⟨_,rfl⟩,-⟩:=hd
  obtain ⟨g1,g2,g3⟩:=hG
  rw [hD] at g3
  simp only [Bool.false_eq_true,if_false] at g3
  have cx:=cell_of_one g3
  have fz:=free_of_one g3
  have g4:=one_setCell (u:=.slice tp (n - 1) (c - 1)) g3
  go_simp
  exact hK undef _ trivial ⟨g1.setCell (p:=⟨bx,0,none⟩) (.inr rfl) _,by rw [show addG D 15 11=D 11 from rfl,show addG D 15 14=D 14 from rfl]; exact (Below.heap_setCell W ⟨bx,0,none⟩ _ b hbb).trans g2,by rw [show addG D 15 15=true from rfl]; simpa only [if_true] using g4⟩ trivial
 subst hfr hGG
 refine wp_region_rg (l:=opsStep11) (fun ys=>⟨#[x0,x1,.pointer (some ⟨bx,0,none⟩),x3,x4,.pointer (some ⟨b,0,none⟩),x6,x7,x8,x9,x10,x11,x12,x13,x14,x15,x16,x17,x18,x19,x20,x21,x22,x23,x24,x25,x26,x27,x28,x29,x30,x31,x32,x33,x34,x35,x36,x37,x38,x39,x40,x41,x42,x43,x44,x45,x46,x47,x48,x49,ys 0,ys 1,ys 2,ys 3,ys 4,ys 5,ys 6,ys 7,ys 8,ys 9,ys 10,ys 12,ys 13,x63,x64,x65,x66],[]⟩) [fun (_:World) (v:Value)=>v = .slice (some ⟨mb,mo,none⟩) n c,fun (_:World) (v:Value)=>v = .pointer (some ⟨mb,mo,none⟩),fun (_:World) (v:Value)=>v = .pointer (some ⟨mb,mo,none⟩),fun (_:World) (v:Value)=>v = .agg #[.int .i64 r0,.int .i64 r1,.int .i64 r2,.int .i64 r3,.int .i64 r4,.int .i64 r5,.int .i64 r6],fun (_:World) (v:Value)=>v = .slice (some ⟨mb,mo,none⟩) n c,fun (_:World) (v:Value)=>v = .pointer (some ⟨mb,mo,none⟩),fun (_:World) (v:Value)=>v = .pointer (some ⟨mb,mo+7,none⟩),fun (_:World) (v:Value)=>v = .int .i64 r7,fun (_:World) (v:Value)=>v = .slice (some ⟨mb,mo,none⟩) n c,fun (_:World) (v:Value)=>v = .slice tp (n - 1) (c - 1),fun (_:World) (v:Value)=>v = .pointer (some ⟨b,0,none⟩),fun (_:World) (_:Value)=>True,fun (_:World) (v:Value)=>v = .pointer (some ⟨b,7,none⟩),fun (_:World) (v:Value)=>v = .pointer (some ⟨b,8,none⟩),fun (_:World) (_:Value)=>True,fun (_:World) (_:Value)=>True] (fun W W'=>True) (fun D ys W=>SiG w W b bx∧W.heap[b]? = some (stB (if D 11=true then r0 else c0) (if D 11=true then r1 else c1) (if D 11=true then r2 else c2) (if D 11=true then r3 else c3) (if D 11=true then r4 else c4) (if D 11=true then r5 else c5) (if D 11=true then r6 else c6) c7 (if D 14=true then r7 else c8))∧W.heap[bx]? = some (.cells #[if D 15=true then .slice tp (n - 1) (c - 1) else .slice (some ⟨mb,mo,none⟩) n c] 98)) (fun i=>([x50,x51,x52,x53,x54,x55,x56,x57,x58,x59,x60,undef,x61,x62,undef,undef]:List Value).getD i undef) (by kernel_rfl) (by kernel_rfl) ⟨fun _ _ _ h _=>h,fun _ _ _ h _=>h,fun _ _ _ h _=>h,fun _ _ _ h _=>h,fun _ _ _ h _=>h,fun _ _ _ h _=>h,fun _ _ _ h _=>h,fun _ _ _ h _=>h,fun _ _ _ h _=>h,fun _ _ _ h _=>h,fun _ _ _ h _=>h,fun _ _ _ h _=>h,fun _ _ _ h _=>h,fun _ _ _ h _=>h,fun _ _ _ h _=>h,fun _ _ _ h _=>h,trivial⟩ ?g0 ?gx ⟨fun D ys W K h1 h2 h3 h4 h5=>by rw [if_pos (by rfl)]; exact st0 h1 h2 trivial h4 h5,fun D ys W K h1 h2 h3 h4 h5=>by rw [if_pos (by rfl)]; exact st1 h1 h2 h3 h4 h5,fun D ys W K h1 h2 h3 h4 h5=>by rw [if_pos (by rfl)]; exact st2 h1 h2 h3 h4 h5,fun D ys W K h1 h2 h3 h4 h5=>by rw [if_pos (by rfl)]; exact st3 h1 h2 h3 h4 h5,fun D ys W K h1 h2 h3 h4 h5=>by rw [if_pos (by rfl)]; exact st4 h1 h2 trivial h4 h5,fun D ys W K h1 h2 h3 h4 h5=>by rw [if_pos (by rfl)]; exact st5 h1 h2 h3 h4 h5,fun D ys W K h1 h2 h3 h4 h5=>by rw [if_pos (by rfl)]; exact st6 h1 h2 h3 h4 h5,fun D ys W K h1 h2 h3 h4 h5=>by rw [if_pos (by rfl)]; exact st7 h1 h2 h3 h4 h5,fun D ys W K h1 h2 h3 h4 h5=>by rw [if_pos (by rfl)]; exact st8 h1 h2 trivial h4 h5,fun D ys W K h1 h2 h3 h4 h5=>by rw [if_pos (by rfl)]; exact st9 h1 h2 h3 h4 h5,fun D ys W K h1 h2 h3 h4 h5=>by rw [if_pos (by rfl)]; exact st10 h1 h2 trivial h4 h5,fun D ys W K h1 h2 h3 h4 h5=>by rw [if_pos (by rfl)]; exact st11 h1 h2 ⟨h3.1,h3.2.1,trivial⟩ h4 h5,fun D ys W K h1 h2 h3 h4 h5=>by rw [if_pos (by rfl)]; exact st12 h1 h2 trivial h4 h5,fun D ys W K h1 h2 h3 h4 h5=>by rw [if_pos (by rfl)]; exact st13 h1 h2 ⟨h3.1,trivial⟩ h4 h5,fun D ys W K h1 h2 h3 h4 h5=>by rw [if_pos (by rfl)]; exact st14 h1 h2 ⟨h3.1,h3.2.1,trivial⟩ h4 h5,fun D ys W K h1 h2 h3 h4 h5=>by rw [if_pos (by rfl)]; exact st15 h1 h2 ⟨h3.1,trivial⟩ h4 h5,trivial⟩ ?fin
 case g0=>exact ⟨(Only.refl _ w).drewN 1,k1,k2⟩
 case gx=>exact fun D D' _ W h ⟨h1,h2,h3⟩=>⟨h1,by rw [← h 11 (by decide),← h 14 (by decide)]; exact h2,by rw [← h 15 (by decide)]; exact h3⟩
 case fin=>
  intro ys W hG hp
  have e0:ys 0 = .slice (some ⟨mb,mo,none⟩) n c:=hp 0 (by decide)
  have e1:ys 1 = .pointer (some ⟨mb,mo,none⟩):=hp 1 (by decide)
  have e2:ys 2 = .pointer (some ⟨mb,mo,none⟩):=hp 2 (by decide)
  have e3:ys 3 = .agg #[.int .i64 r0,.int .i64 r1,.int .i64 r2,.int .i64 r3,.int .i64 r4,.int .i64 r5,.int .i64 r6]:=hp 3 (by decide)
  have e4:ys 4 = .slice (some ⟨mb,mo,none⟩) n c:=hp 4 (by decide)
  have e5:ys 5 = .pointer (some ⟨mb,mo,none⟩):=hp 5 (by decide)
  have e6:ys 6 = .pointer (some ⟨mb,mo+7,none⟩):=hp 6 (by decide)
  have e7:ys 7 = .int .i64 r7:=hp 7 (by decide)
  have e8:ys 8 = .slice (some ⟨mb,mo,none⟩) n c:=hp 8 (by decide)
  have e9:ys 9 = .slice tp (n - 1) (c - 1):=hp 9 (by decide)
  have e10:ys 10 = .pointer (some ⟨b,0,none⟩):=hp 10 (by decide)
  have e12:ys 12 = .pointer (some ⟨b,7,none⟩):=hp 12 (by decide)
  have e13:ys 13 = .pointer (some ⟨b,8,none⟩):=hp 13 (by decide)
  show Q .normal ⟨#[x0,x1,.pointer (some ⟨bx,0,none⟩),x3,x4,.pointer (some ⟨b,0,none⟩),x6,x7,x8,x9,x10,x11,x12,x13,x14,x15,x16,x17,x18,x19,x20,x21,x22,x23,x24,x25,x26,x27,x28,x29,x30,x31,x32,x33,x34,x35,x36,x37,x38,x39,x40,x41,x42,x43,x44,x45,x46,x47,x48,x49,(ys 0),(ys 1),(ys 2),(ys 3),(ys 4),(ys 5),(ys 6),(ys 7),(ys 8),(ys 9),(ys 10),(ys 12),(ys 13),x63,x64,x65,x66],[]⟩ W
  rw [e0,e1,e2,e3,e4,e5,e6,e7,e8,e9,e10,e12,e13]
  exact hfin (ys 11) (ys 14) (ys 15) W hG (hp 11 (by decide)) (hp 14 (by decide)) (hp 15 (by decide))
end Go.Proofs.YtmikofeildnpdaaGreat
