/- Texts of this claim, put together: QA MX RK C0 C2 A7. -/
import Derived.Test.YtmikofeildnpdaaGreatKUa
import Derived.Maps.Own
import Derived.DeepKeys5
import Derived.Test.YtmikofeildnpdaaGreatKUc
import Derived.StringKeys
import Derived.Test.YtmikofeildnpdaaGreatKUf
import Derived.Lib.Builder
import Derived.Lib.AppendStr
import Derived.Lib.UnsafeStr
import Derived.Lib.Strings
import Derived.Lib.Slices
import Derived.Lib.Walk
import Derived.Laws.Externs
import Derived.Laws.IdiomCopy
import Derived.Shelf.Strings.Builder1
import Derived.IntWalk

set_option maxRecDepth 100000
set_option maxHeartbeats 12800000
/- Labels by first occurrence: plain lists. -/
namespace Go.Proofs.YtmikofeildnpdaaGreat
section
variable {κ:Type} [DecidableEq κ]
def dd:List κ→List κ→List κ
 | seen,[]=>seen
 | seen,k::r=>dd (if k∈seen then seen else seen ++ [k]) r
end
section
variable {κ κ':Type} [DecidableEq κ] [DecidableEq κ']
end
end Go.Proofs.YtmikofeildnpdaaGreat

/- Maps as lists of pairs. -/
namespace Go.Proofs.YtmikofeildnpdaaGreat
open Go.RowKit Go.ChangeMaps Go.MapKept Go.WideMaps
section
variable {κ ν:Type}
def MX (kv:κ→Value) (vv:ν→Value) (w:World) (b:Nat) (m:List (κ × ν)):Prop:=
 ∃ es clock,w.heap[b]? = some (.map es clock)∧es.toList.map (fun e=>(e.key,e.val))=m.map (fun p=>(kv p.1,vv p.2))
structure KeyX (P:Program) (K:TypeId) (kv:κ→Value) (S:κ→Prop):Prop where
 law:Maps.Keyed P K
 has:∀ x,S x→∃ l,keyOf P K (kv x)=some l
 inj:∀ x y,S x→S y→kv x=kv y→x=y
variable {P:Program} {K E M:TypeId} {kv:κ→Value} {vv:ν→Value} {S:κ→Prop} {m:List (κ × ν)} {x:κ} {w:World} {b:Nat}
theorem MX.lt (h:MX kv vv w b m):b < w.heap.size:=by
 obtain ⟨es,clock,hb,_⟩:=h; exact (Array.getElem?_eq_some_iff.1 hb).1
theorem MX.keep {w':World} (h:MX kv vv w b m) (hb:w'.heap[b]? = w.heap[b]?):MX kv vv w' b m:=by
 obtain ⟨es,clock,h1,h2⟩:=h; exact ⟨es,clock,hb.trans h1,h2⟩
theorem MX.made (w:World):MX kv vv (w.alloc (.map #[] 0)) w.heap.size []:=⟨#[],0,heap_alloc_new w _,rfl⟩
theorem MX.find (hX:KeyX P K kv S) (hm:∀ p∈m,S p.1) (hx:S x) {l:List MapEntry} (h:l.map (fun e=>(e.key,e.val))=m.map (fun p=>(kv p.1,vv p.2))) (w:World) :
  (x ∉ m.map Prod.fst∧(Instr.findKey K (kv x) l).run P w = .ok none w)∨(∃ j v,(x,v)∈m∧(Instr.findKey K (kv x) l).run P w = .ok (some (j,vv v)) w∧m[j]? = some (x,v)):=by
 obtain ⟨lx,hlx⟩:=hX.has x hx
 have hk:∀ (j:Nat) (e:MapEntry),l[j]? = some e→∃ p:κ × ν,m[j]? = some p∧e.key=kv p.1∧e.val=vv p.2:=by
  intro j e he
  have h1:(l.map (fun e:MapEntry=>(e.key,e.val)))[j]? = some (e.key,e.val):=by rw [List.getElem?_map,he]; rfl
  rw [h,List.getElem?_map] at h1
  cases hp:m[j]? with
  | none=>rw [hp] at h1; cases h1
  | some p=>
   rw [hp] at h1
   simp only [Option.map_some,Option.some.injEq,Prod.mk.injEq] at h1
   exact ⟨p,rfl,h1.1.symm,h1.2.symm⟩
 have hks:∀ e∈l,∃ k,keyOf P K e.key=some k:=fun e he=>by
  obtain ⟨j,hj⟩:=List.mem_iff_getElem?.1 he
  obtain ⟨p,hp,h1,_⟩:=hk j e hj
  rw [h1]; exact hX.has _ (hm p (List.mem_of_getElem? hp))
 rcases hX.law.find w hlx l hks with ⟨h1,h2⟩ | ⟨j,e,h1,h2,h3⟩
 ·refine .inl ⟨fun hin=>?_,h1⟩
  obtain ⟨p,hp,rfl⟩:=List.mem_map.1 hin
  have:(kv p.1,vv p.2)∈l.map (fun e:MapEntry=>(e.key,e.val)):=h ▸ List.mem_map_of_mem (f:=fun p:κ × ν=>(kv p.1,vv p.2)) hp
  obtain ⟨e,he,hek⟩:=List.mem_map.1 this
  injection hek with h3 _
  exact h2 e he h3
 ·obtain ⟨q,hq,hq1,hq2⟩:=hk j e h2
  have hqx:q.1=x:=hX.inj _ _ (hm q (List.mem_of_getElem? hq)) hx (by rw [← hq1,h3])
  refine .inr ⟨j,q.2,?_,by rw [h1,hq2],?_⟩
  ·rw [← hqx]; exact List.mem_of_getElem? hq
  ·rw [hq,← hqx]
theorem MX.look {z:Value} (hX:KeyX P K kv S) (hM:P.underlying M=some (.map K E)) (hz:(zeroValue E).run P w = .ok z w) (h:MX kv vv w b m) (hm:∀ p∈m,S p.1) (hx:S x) :
  (x ∉ m.map Prod.fst∧(Instr.lookup M (.map (some b)) (kv x) false).run P w = .ok z w∧(Instr.lookup M (.map (some b)) (kv x) true).run P w = .ok (.tuple #[z,.bool false]) w)∨
  (∃ v,(x,v)∈m∧(Instr.lookup M (.map (some b)) (kv x) false).run P w = .ok (vv v) w∧(Instr.lookup M (.map (some b)) (kv x) true).run P w = .ok (.tuple #[vv v,.bool true]) w):=by
 obtain ⟨es,clock,hb,hk⟩:=h
 obtain ⟨lx,hlx⟩:=hX.has x hx
 have hc:=fun e=>hX.law.check w e hlx
 rcases MX.find hX hm hx hk w with ⟨h1,h2⟩ | ⟨j,v,h1,h2,_⟩
 ·refine .inl ⟨h1,?_,?_⟩ <;> simp [Instr.lookup,run_underlying hM,MapKept.run_getObj_map hb,hc,h2,Result.andThen,hz]
 ·refine .inr ⟨v,h1,?_,?_⟩ <;> simp [Instr.lookup,run_underlying hM,MapKept.run_getObj_map hb,hc,h2,Result.andThen]
theorem MX.put (hX:KeyX P K kv S) (hM:P.underlying M=some (.map K E)) (h:MX kv vv w b m) (hm:∀ p∈m,S p.1) (hx:S x) (hn:x ∉ m.map Prod.fst) (v:ν) :
  ∃ o,(Instr.mapUpdate M (.map (some b)) (kv x) (vv v)).run P w = .ok () (setBlock w b o)∧MX kv vv (setBlock w b o) b (m ++ [(x,v)]):=by
 obtain ⟨es,clock,hb,hk⟩:=h
 obtain ⟨lx,hlx⟩:=hX.has x hx
 have hc:=hX.law.check w false hlx
 rcases MX.find hX hm hx hk w with ⟨h1,h2⟩ | ⟨j,v',h1,_⟩
 ·refine ⟨.map (es.push ⟨kv x,vv v,clock⟩) (clock+1),?_,_,_,heap_setBlock_same hb _,?_⟩
  ·simp [Instr.mapUpdate,run_underlying hM,MapKept.run_getObj_map hb,hc,h2,MapKept.run_setObj_map _ hb,Result.andThen,setBlock]
  ·rw [Array.toList_push,List.map_append,hk,List.map_append]; rfl
 ·exact absurd (List.mem_map.2 ⟨_,h1,rfl⟩) hn
end
theorem setBlock_keep {w:World} {b k:Nat} (o:Obj) (h:k ≠ b):(setBlock w b o).heap[k]? = w.heap[k]?:=by
 simp only [setBlock]
 rw [Array.getElem?_setIfInBounds_ne (by omega)]
theorem setBlock_below {w0 w:World} {B b:Nat} (h:Below B w0 w) (hB:B≤b) (o:Obj):Below B w0 (setBlock w b o):=
 h.trans ⟨rfl,rfl,rfl,by simp [setBlock],fun k hk=>setBlock_keep o (by omega)⟩
end Go.Proofs.YtmikofeildnpdaaGreat

/- Rounds as keys of maps; ints, texts as keys. -/
namespace Go.Proofs.YtmikofeildnpdaaGreat
open Go.RowKit Go.ChangeMaps Go.MapKept Go.WideMaps
def rdV (r:List Int):Value:=.agg (r.map (Value.int .i64)).toArray
def WfR (r:List Int):Prop:=r.length=7∧∀ x∈r,0≤x∧x≤1000000
theorem und_int : Tryz.prog.underlying 3=some (.int .i64):=by kernel_rfl
theorem typesSize:∃ m,Tryz.prog.types.size=m+3:=⟨Tryz.prog.types.size - 3,by
 have:decide (2 < Tryz.prog.types.size)=true:=by kernel_rfl
 have:=of_decide_eq_true this
 omega⟩
theorem litI {x:Int} (m:Nat) (h:0≤x∧x≤1000000) : Tryz.prog.keyLits (m+1) 3 [.int .i64 x]=some [.int .i64 x]:=by
 unfold Program.keyLits
 simp only [und_int]
 rw [if_pos ⟨trivial,WalkArith.wf_i64 (by omega)⟩]
theorem lawRd:Maps.Keyed Tryz.prog 87:=Maps.Keyed.of_law (deep_law_gate (by kernel_rfl) (of_decide_eq_true (by kernel_rfl)) (of_decide_eq_true (by kernel_rfl)) (by kernel_rfl) (by kernel_rfl))
theorem litA {h0 h1 h2 h3 h4:Int} (m:Nat) (g0:0≤h0∧h0≤1000000) (g1:0≤h1∧h1≤1000000) (g2:0≤h2∧h2≤1000000) (g3:0≤h3∧h3≤1000000) (g4:0≤h4∧h4≤1000000) :
  Tryz.prog.keyLits (m+2) 83 [.int .i64 h0,.int .i64 h1,.int .i64 h2,.int .i64 h3,.int .i64 h4]=some [.int .i64 h0,.int .i64 h1,.int .i64 h2,.int .i64 h3,.int .i64 h4]:=by
 have u5 : Tryz.prog.underlying 83=some (.array 5 3):=by kernel_rfl
 have c5 : Tryz.prog.cellsOf 83=5:=by kernel_rfl
 have c1 : Tryz.prog.cellsOf 3=1:=by kernel_rfl
 rw [show m+2=(m+1)+1 from rfl]
 conv=>lhs; unfold Program.keyLits
 simp only [u5,c5,c1,show List.range 5 = [0,1,2,3,4] from rfl]
 rw [if_pos (by rfl)]
 simp only [List.mapM_cons,List.mapM_nil,List.drop,List.take,Nat.mul_one]
 rw [litI m g0,litI m g1,litI m g2,litI m g3,litI m g4]
 rfl
theorem keyRd {n h0 h1 h2 h3 h4 f:Int} (g:0≤n∧n≤1000000) (g0:0≤h0∧h0≤1000000) (g1:0≤h1∧h1≤1000000) (g2:0≤h2∧h2≤1000000) (g3:0≤h3∧h3≤1000000) (g4:0≤h4∧h4≤1000000) (gf:0≤f∧f≤1000000) :
  ∃ l,keyOf Tryz.prog 87 (.agg #[.int .i64 n,.int .i64 h0,.int .i64 h1,.int .i64 h2,.int .i64 h3,.int .i64 h4,.int .i64 f])=some l:=by
 obtain ⟨m,hm⟩:=typesSize
 have c7 : Tryz.prog.cellsOf 87=7:=by kernel_rfl
 have c6 : Tryz.prog.cellsOf 85=6:=by kernel_rfl
 have c5 : Tryz.prog.cellsOf 83=5:=by kernel_rfl
 have c1 : Tryz.prog.cellsOf 3=1:=by kernel_rfl
 have hk : Tryz.prog.keyType 87=true:=by kernel_rfl
 have uR:=Tryz.underlying87
 have uG:=Tryz.underlying85
 have hA:=litA (m+0) g0 g1 g2 g3 g4
 have hG : Tryz.prog.keyLits (m+3) 85 [.int .i64 n,.int .i64 h0,.int .i64 h1,.int .i64 h2,.int .i64 h3,.int .i64 h4]=some [.int .i64 n,.int .i64 h0,.int .i64 h1,.int .i64 h2,.int .i64 h3,.int .i64 h4]:=by
  rw [show m+3=(m+2)+1 from rfl]
  conv=>lhs; unfold Program.keyLits
  simp only [uG,c6]
  rw [if_pos (by exact ⟨rfl,by kernel_rfl⟩)]
  simp only [List.mapM_cons,List.mapM_nil,List.drop,List.take,c5,c1]
  rw [litI (m+1) g,hA]
  rfl
 refine ⟨.string (keyBytes [.int .i64 n,.int .i64 h0,.int .i64 h1,.int .i64 h2,.int .i64 h3,.int .i64 h4,.int .i64 f]),?_⟩
 unfold keyOf
 simp only [uR]
 rw [if_pos (by simp [hk,Value.formed,uR,c7]),hm]
 conv=>lhs; unfold Program.keyLits
 simp only [uR,c7,Value.cells]
 rw [if_pos (by exact ⟨rfl,by kernel_rfl⟩)]
 simp only [List.mapM_cons,List.mapM_nil,List.drop,List.take,c6,c1]
 rw [hG,litI (m+2) gf]
 rfl
theorem keyX_round:KeyX Tryz.prog 87 rdV WfR where
 law:=lawRd
 has:=fun r ⟨h7,hw⟩=>by
  obtain ⟨a,b,c,d,e,f,g,rfl⟩:=seven h7
  exact keyRd (hw _ (by simp)) (hw _ (by simp)) (hw _ (by simp)) (hw _ (by simp)) (hw _ (by simp)) (hw _ (by simp)) (hw _ (by simp))
 inj:=fun x y _ _ h=>by
  simp only [rdV,Value.agg.injEq,Array.mk.injEq] at h
  exact (List.map_inj_right (fun a b hab=>by injection hab)).1 h
end Go.Proofs.YtmikofeildnpdaaGreat

/- What the classes of states are: plain lists. -/
namespace Go.Proofs.YtmikofeildnpdaaGreat
open Go.RowKit Go.ChangeMaps Go.MapKept Go.WideMaps
def mvTo (m:List Int):Nat:=(m.getD 7 0).toNat
def rdOf (m:List Int):List Int:=m.take 7
section
variable {κ:Type} [DecidableEq κ] {P:Program} {K E M:TypeId} {kv:κ→Value} {S:κ→Prop} {seen:List κ} {x:κ} {w:World} {b:Nat}
end
end Go.Proofs.YtmikofeildnpdaaGreat

/- A text that grows: a Builder whose row lies beyond some block. -/
namespace Go.Proofs.YtmikofeildnpdaaGreat
open Go.RowKit Go.ChangeMaps Go.MapKept
theorem Only.setBlk {D:Nat→Prop} {A W:World} (h:Only D A W) {b:Nat} (hb:D b) (o:Obj):Only D A (setBlock W b o):=
 ⟨h.os,h.tape,h.output,by simpa [setBlock] using h.size,fun k hk hd=>(setBlock_keep o (fun e=>hd (by rw [e]; exact hb))).trans (h.same k hk hd)⟩
theorem wp_region_qtail {P:Program} {id:Nat} {Q:Exit→Act→World→Prop} {a:Act} {w:World} {l:List Oper} (n:Nat) (hm:P.follows .mixedOrders=true) (hB:qtB n l=true) (hg:noGuard l=true)
  (hQ : ¬ LetsOut Q) (h:∀ ops',wpQuiet P ops' (fun w'=>∃ k,w'=w.drewN k) (fun a'=>∀ k,wpList P l.toArray Q (l.drop n) a' (w.drewN k)) (l.take n) a) :
  (Code.region id l.toArray true).wp P Q a w:=
 wp_region_any hm (any_qtail n hB hg (h _) hQ)
end Go.Proofs.YtmikofeildnpdaaGreat

/- Adversaries: Few and move of the reference. -/
namespace Go.Proofs.YtmikofeildnpdaaGreat
open Go.RowKit
def mvErr (n:Int) (len:Nat) (ms:List (List Int)) (i:Nat):Int:=
 if chkRd ((ms.getD i []).take 7) ≠ 0 then chkRd ((ms.getD i []).take 7) else if (ms.getD i []).getD 0 0 ≠ n then 22
 else if 0 < i∧0≤cmpL ((ms.getD (i - 1) []).take 7) ((ms.getD i []).take 7) then 14 else if (ms.getD i []).getD 7 0 < 0∨(len:Int)≤(ms.getD i []).getD 7 0 then 2 else 0
theorem mvErr_1 {n:Int} {len:Nat} {ms:List (List Int)} {i:Nat} {x:List Int} (hx:ms.getD i []=x) (h:chkRd (x.take 7) ≠ 0):mvErr n len ms i=chkRd (x.take 7):=by rw [mvErr,hx,if_pos h]
theorem mvErr_2 {n:Int} {len:Nat} {ms:List (List Int)} {i:Nat} {x:List Int} (hx:ms.getD i []=x) (h:chkRd (x.take 7)=0) (h2:x.getD 0 0 ≠ n):mvErr n len ms i=22:=by rw [mvErr,hx,if_neg (fun k=>k h),if_pos h2]
theorem mvErr_3 {n:Int} {len:Nat} {ms:List (List Int)} {i:Nat} {x y:List Int} (hx:ms.getD i []=x) (hy:ms.getD (i - 1) []=y) (h:chkRd (x.take 7)=0) (h2:x.getD 0 0=n) (hi:0 < i) (h3:0≤cmpL (y.take 7) (x.take 7)):mvErr n len ms i=14:=by
 rw [mvErr,hx,hy,if_neg (fun k=>k h),if_neg (fun k=>k h2),if_pos ⟨hi,h3⟩]
theorem mvErr_4 {n:Int} {len:Nat} {ms:List (List Int)} {i:Nat} {x:List Int} (hx:ms.getD i []=x) (h:chkRd (x.take 7)=0) (h2:x.getD 0 0=n) (h3 : ¬ (0 < i∧0≤cmpL ((ms.getD (i - 1) []).take 7) (x.take 7))) (h4:x.getD 7 0 < 0∨(len:Int)≤x.getD 7 0):mvErr n len ms i=2:=by
 rw [mvErr,hx,if_neg (fun k=>k h),if_neg (fun k=>k h2),if_neg h3,if_pos h4]
theorem mvErr_5 {n:Int} {len:Nat} {ms:List (List Int)} {i:Nat} {x:List Int} (hx:ms.getD i []=x) (h:chkRd (x.take 7)=0) (h2:x.getD 0 0=n) (h3 : ¬ (0 < i∧0≤cmpL ((ms.getD (i - 1) []).take 7) (x.take 7))) (h4 : ¬ (x.getD 7 0 < 0∨(len:Int)≤x.getD 7 0)):mvErr n len ms i=0:=by
 rw [mvErr,hx,if_neg (fun k=>k h),if_neg (fun k=>k h2),if_neg h3,if_neg h4]
def fewA (ss:List (List (List Int))):Bool:=decide (ss.length≤8) && decide (movesN ss≤40)
theorem refFew {w:World} {v:Value} {n:Int} {ss:List (List (List Int))} (h:AdvV w v n ss):Calls Tryz.prog 11 #[v] w fun e w'=>e = .returned (.bool (fewA ss))∧Below w.heap.size w w':=by
 have h0:=h
 obtain ⟨sv,rfl,a,c,b,off,rfl,ha,hc,_⟩:=h
 have hb:=(Below.refl w.heap.size w).alloc (Nat.le_refl _) (.cells #[.int .i64 n,.slice a ss.length c] 24)
 by_cases h8:ss.length≤8
 ·have HM:=Lib.hid (refMoves (h0.keep hb) (by omega))
  have e:=Lib.hid (show fewA ss=decide (movesN ss≤40) by simp [fewA,h8])
  obtain ⟨m,hm⟩:=exE (movesN ss)
  rw [hm] at HM e
  have h8':decide ((ss.length:Int)≤8)=true:=decide_eq_true (by omega)
  clear ha hc hm h0
  go_enter Tryz.func11, Tryz.ntmps11
  go_wp2_with fail
  refine HM.out.mono ?_; rintro e1 w1 ⟨rfl,hb1⟩
  go_wp2
  go_ret
  exact ⟨ret_bool (by rw [e.out]; norm_cast),bt hb hb1 hb.size⟩
 ·have e:=Lib.hid (show fewA ss=false by simp [fewA,h8])
  have h8':decide ((ss.length:Int)≤8)=false:=decide_eq_false (by omega)
  clear ha hc h0
  go_enter Tryz.func11, Tryz.ntmps11
  go_wp2
  go_ret
  exact ⟨ret_bool e.out.symm,hb⟩
theorem below_of_drew {w w':World} (h:Below w.drew.heap.size w.drew w'):Below w.heap.size w w':=((Below.refl _ w).drew).trans h
theorem refMove {w:World} {v mv:Value} {n:Int} {ss:List (List (List Int))} {ms:List (List Int)} {i:Nat} (hA:AdvV w v n ss) (hM:KS 8 w mv ms) (hi:i < ms.length) (_hl:ss.length≤256) :
  Calls Tryz.prog 73 #[v,mv,.int .i64 i] w fun e w'=>e = .returned (.int .i64 (mvErr n ss.length ms i))∧Below w.heap.size w w':=by
 obtain ⟨sv,rfl,sa,sc,sb,so,rfl,hsa,hsc,_⟩:=hA
 obtain ⟨ma,mc,mb,mo,rfl,hma,hmc,hml⟩:=hM
 obtain rfl:=hma (by omega)
 clear hma hsa hsc
 obtain ⟨hx8,hxc⟩:=hmc i hi
 obtain ⟨x,hx⟩:=exE (ms.getD i [])
 rw [hx] at hx8 hxc
 obtain ⟨y0,y1,y2,y3,y4,y5,y6,y7,rfl⟩:=eight hx8
 clear hx8
 have hb:=(Below.refl w.heap.size w).alloc (Nat.le_refl _) (.cells #[.int .i64 n,.slice sa ss.length sc] 24)
 have hb2:=hb.alloc hb.size (.cells #[.int .i64 y0,.int .i64 y1,.int .i64 y2,.int .i64 y3,.int .i64 y4,.int .i64 y5,.int .i64 y6] 87)
 have hs0:((w.alloc (.cells #[.int .i64 n,.slice sa ss.length sc] 24)).alloc (.cells #[.int .i64 y0,.int .i64 y1,.int .i64 y2,.int .i64 y3,.int .i64 y4,.int .i64 y5,.int .i64 y6] 87)).heap[w.heap.size]? = some (.cells #[.int .i64 n,.slice sa ss.length sc] 24):=(Below.heap_alloc _ _ _ (by simp)).trans (heap_alloc_new w _)
 have hs1:((w.alloc (.cells #[.int .i64 n,.slice sa ss.length sc] 24)).alloc (.cells #[.int .i64 y0,.int .i64 y1,.int .i64 y2,.int .i64 y3,.int .i64 y4,.int .i64 y5,.int .i64 y6] 87)).heap[w.heap.size+1]? = some (.cells #[.int .i64 y0,.int .i64 y1,.int .i64 y2,.int .i64 y3,.int .i64 y4,.int .i64 y5,.int .i64 y6] 87):=by
  have:=heap_alloc_new (w.alloc (.cells #[.int .i64 n,.slice sa ss.length sc] 24)) (.cells #[.int .i64 y0,.int .i64 y1,.int .i64 y2,.int .i64 y3,.int .i64 y4,.int .i64 y5,.int .i64 y6] 87); rwa [World.size_alloc] at this
 replace hs0:=Lib.hid hs0; replace hs1:=Lib.hid hs1
 obtain ⟨c0,c1,c2,c3,c4,c5,c6,_⟩:=(hxc.keep hb).all8
 replace hxc:=Lib.hid hxc
 obtain ⟨E,hE⟩:=exE (chkRd [y0,y1,y2,y3,y4,y5,y6])
 have HC:=fun W=>refRoundCheck y0 y1 y2 y3 y4 y5 y6 W
 rw [hE] at HC
 replace HC:=Lib.hid HC
 replace hE:=Lib.hid hE
 replace hx:=Lib.hid hx
 by_cases hz:E=0
 ·subst hz
  by_cases hn:y0=n
  ·have hn':(y0 != n)=false:=by simp [hn]
   replace hn:=Lib.hid hn
   by_cases hi0:0 < i
   ·have hi1:decide (0 < i)=true:=decide_eq_true hi0
    obtain ⟨hy8,hyc⟩:=hmc (i - 1) (by omega)
    obtain ⟨y,hy⟩:=exE (ms.getD (i - 1) [])
    rw [hy] at hy8 hyc
    obtain ⟨z0,z1,z2,z3,z4,z5,z6,z7,rfl⟩:=eight hy8
    clear hy8 hmc
    obtain ⟨j,rfl⟩:∃ j,i=j+1:=⟨i - 1,by omega⟩
    rw [Nat.add_sub_cancel] at hyc hy
    replace hyc:=Lib.hid hyc
    have HM:=fun W=>refRoundCompare z0 z1 z2 z3 z4 z5 z6 y0 y1 y2 y3 y4 y5 y6 W
    obtain ⟨C,hC⟩:=exE (cmpL [z0,z1,z2,z3,z4,z5,z6] [y0,y1,y2,y3,y4,y5,y6])
    rw [hC] at HM
    replace HM:=Lib.hid HM
    replace hC:=Lib.hid hC
    replace hy:=Lib.hid hy
    by_cases hCz:0≤C
    ·have hC1:decide (0≤C)=true:=decide_eq_true hCz
     replace hCz:=Lib.hid hCz
     go_enter Tryz.func73, Tryz.ntmps73
     go_wp2_with fail
     refine (HC.out _).mono ?_; rintro e w1 ⟨rfl,hb1⟩
     have k0:=(hb1.block _ (by simp; omega)).trans hs0.out
     have k1:=(hb1.block _ (by simp)).trans hs1.out
     have bw:=bt hb2 hb1 hb2.size
     clear c0 c1 c2 c3 c4 c5 c6 hs0 hs1
     have d0:w1.cell? ⟨w.heap.size,0,none⟩=some (.int .i64 n):=by rw [cell_of_row _ _ 0 _ _ _ k0]; rfl
     have d1:w1.cell? ⟨w.heap.size,1,none⟩=some (.slice sa ss.length sc):=by rw [cell_of_row _ _ 1 _ _ _ k0]; rfl
     have r0:w1.cell? ⟨w.heap.size+1,0,none⟩=some (.int .i64 y0):=by rw [cell_of_row _ _ 0 _ _ _ k1]; rfl
     have r1:w1.cell? ⟨w.heap.size+1,1,none⟩=some (.int .i64 y1):=by rw [cell_of_row _ _ 1 _ _ _ k1]; rfl
     have r2:w1.cell? ⟨w.heap.size+1,2,none⟩=some (.int .i64 y2):=by rw [cell_of_row _ _ 2 _ _ _ k1]; rfl
     have r3:w1.cell? ⟨w.heap.size+1,3,none⟩=some (.int .i64 y3):=by rw [cell_of_row _ _ 3 _ _ _ k1]; rfl
     have r4:w1.cell? ⟨w.heap.size+1,4,none⟩=some (.int .i64 y4):=by rw [cell_of_row _ _ 4 _ _ _ k1]; rfl
     have r5:w1.cell? ⟨w.heap.size+1,5,none⟩=some (.int .i64 y5):=by rw [cell_of_row _ _ 5 _ _ _ k1]; rfl
     have r6:w1.cell? ⟨w.heap.size+1,6,none⟩=some (.int .i64 y6):=by rw [cell_of_row _ _ 6 _ _ _ k1]; rfl
     obtain ⟨e0,e1,e2,e3,e4,e5,e6,_⟩:=((hyc.out.keep (bt hb2 hb1 hb2.size))).all8
     have hwr:IntKind.i64.wrap (j:Int)=(j:Int):=IntWalk.i64_in _ (by omega)
     have hj0:(0:Int)≤(j:Int):=Int.natCast_nonneg _
     have hj1:(j:Int) < (ms.length:Int):=by omega
     go_wp2
     go_still_tail 10,(by kernel_rfl)
     change wpList _ _ _ _ _ w1.drew
     clear hwr
     go_wp2_with fail
     refine (HM.out _).mono ?_; rintro e w2 ⟨rfl,hb3⟩
     replace hb3:=below_of_drew hb3
     have b2:=bt bw hb3 bw.size
     clear e0 e1 e2 e3 e4 e5 e6
     go_wp2
     go_ret
     exact ⟨ret_int (mvErr_3 (y:=[z0,z1,z2,z3,z4,z5,z6,z7]) hx.out (by rw [Nat.add_sub_cancel]; exact hy.out) hE.out hn.out (by omega) (by show 0≤cmpL [z0,z1,z2,z3,z4,z5,z6] [y0,y1,y2,y3,y4,y5,y6]; rw [hC.out]; exact hCz.out)).symm,b2⟩
    ·have hC1:decide (0≤C)=false:=decide_eq_false hCz
     have h3:Hid (¬ (0 < j+1∧0≤cmpL ((ms.getD (j+1 - 1) []).take 7) ([y0,y1,y2,y3,y4,y5,y6,y7].take 7))):=fun k=>by
      have k2:=k.2
      rw [Nat.add_sub_cancel,hy.out] at k2
      have k3:0≤cmpL [z0,z1,z2,z3,z4,z5,z6] [y0,y1,y2,y3,y4,y5,y6]:=k2
      rw [hC.out] at k3
      exact hCz k3
     clear hCz
     by_cases q1:y7 < 0
     ·have q1':decide (y7 < 0)=true:=decide_eq_true q1
      have q:=Lib.hid (show y7 < 0∨(ss.length:Int)≤y7 from .inl q1)
      clear q1
      go_enter Tryz.func73, Tryz.ntmps73
      go_wp2_with fail
      refine (HC.out _).mono ?_; rintro e w1 ⟨rfl,hb1⟩
      have k0:=(hb1.block _ (by simp; omega)).trans hs0.out
      have k1:=(hb1.block _ (by simp)).trans hs1.out
      have bw:=bt hb2 hb1 hb2.size
      clear c0 c1 c2 c3 c4 c5 c6 hs0 hs1
      have d0:w1.cell? ⟨w.heap.size,0,none⟩=some (.int .i64 n):=by rw [cell_of_row _ _ 0 _ _ _ k0]; rfl
      have d1:w1.cell? ⟨w.heap.size,1,none⟩=some (.slice sa ss.length sc):=by rw [cell_of_row _ _ 1 _ _ _ k0]; rfl
      have r0:w1.cell? ⟨w.heap.size+1,0,none⟩=some (.int .i64 y0):=by rw [cell_of_row _ _ 0 _ _ _ k1]; rfl
      have r1:w1.cell? ⟨w.heap.size+1,1,none⟩=some (.int .i64 y1):=by rw [cell_of_row _ _ 1 _ _ _ k1]; rfl
      have r2:w1.cell? ⟨w.heap.size+1,2,none⟩=some (.int .i64 y2):=by rw [cell_of_row _ _ 2 _ _ _ k1]; rfl
      have r3:w1.cell? ⟨w.heap.size+1,3,none⟩=some (.int .i64 y3):=by rw [cell_of_row _ _ 3 _ _ _ k1]; rfl
      have r4:w1.cell? ⟨w.heap.size+1,4,none⟩=some (.int .i64 y4):=by rw [cell_of_row _ _ 4 _ _ _ k1]; rfl
      have r5:w1.cell? ⟨w.heap.size+1,5,none⟩=some (.int .i64 y5):=by rw [cell_of_row _ _ 5 _ _ _ k1]; rfl
      have r6:w1.cell? ⟨w.heap.size+1,6,none⟩=some (.int .i64 y6):=by rw [cell_of_row _ _ 6 _ _ _ k1]; rfl
      obtain ⟨e0,e1,e2,e3,e4,e5,e6,_⟩:=((hyc.out.keep (bt hb2 hb1 hb2.size))).all8
      have hwr:IntKind.i64.wrap (j:Int)=(j:Int):=IntWalk.i64_in _ (by omega)
      have hj0:(0:Int)≤(j:Int):=Int.natCast_nonneg _
      have hj1:(j:Int) < (ms.length:Int):=by omega
      go_wp2
      go_still_tail 10,(by kernel_rfl)
      change wpList _ _ _ _ _ w1.drew
      clear hwr
      go_wp2_with fail
      refine (HM.out _).mono ?_; rintro e w2 ⟨rfl,hb3⟩
      replace hb3:=below_of_drew hb3
      have b2:=bt bw hb3 bw.size
      clear e0 e1 e2 e3 e4 e5 e6
      have k2:=(hb3.block _ (Array.getElem?_eq_some_iff.1 k0).1).trans k0
      have d2:w2.cell? ⟨w.heap.size,1,none⟩=some (.slice sa ss.length sc):=by rw [cell_of_row _ _ 1 _ _ _ k2]; rfl
      obtain ⟨_,_,_,_,_,_,_,e7⟩:=(hxc.out.keep b2).all8
      go_wp2
      go_quiet (fail)
      go_wp2
      go_ret
      exact ⟨ret_int (mvErr_4 hx.out hE.out hn.out h3.out q.out).symm,below_drewN b2 _⟩
     ·have q1':decide (y7 < 0)=false:=decide_eq_false q1
      by_cases q2:(ss.length:Int)≤y7
      ·have q2':decide ((ss.length:Int)≤y7)=true:=decide_eq_true q2
       have q:=Lib.hid (show y7 < 0∨(ss.length:Int)≤y7 from .inr q2)
       clear q1 q2
       go_enter Tryz.func73, Tryz.ntmps73
       go_wp2_with fail
       refine (HC.out _).mono ?_; rintro e w1 ⟨rfl,hb1⟩
       have k0:=(hb1.block _ (by simp; omega)).trans hs0.out
       have k1:=(hb1.block _ (by simp)).trans hs1.out
       have bw:=bt hb2 hb1 hb2.size
       clear c0 c1 c2 c3 c4 c5 c6 hs0 hs1
       have d0:w1.cell? ⟨w.heap.size,0,none⟩=some (.int .i64 n):=by rw [cell_of_row _ _ 0 _ _ _ k0]; rfl
       have d1:w1.cell? ⟨w.heap.size,1,none⟩=some (.slice sa ss.length sc):=by rw [cell_of_row _ _ 1 _ _ _ k0]; rfl
       have r0:w1.cell? ⟨w.heap.size+1,0,none⟩=some (.int .i64 y0):=by rw [cell_of_row _ _ 0 _ _ _ k1]; rfl
       have r1:w1.cell? ⟨w.heap.size+1,1,none⟩=some (.int .i64 y1):=by rw [cell_of_row _ _ 1 _ _ _ k1]; rfl
       have r2:w1.cell? ⟨w.heap.size+1,2,none⟩=some (.int .i64 y2):=by rw [cell_of_row _ _ 2 _ _ _ k1]; rfl
       have r3:w1.cell? ⟨w.heap.size+1,3,none⟩=some (.int .i64 y3):=by rw [cell_of_row _ _ 3 _ _ _ k1]; rfl
       have r4:w1.cell? ⟨w.heap.size+1,4,none⟩=some (.int .i64 y4):=by rw [cell_of_row _ _ 4 _ _ _ k1]; rfl
       have r5:w1.cell? ⟨w.heap.size+1,5,none⟩=some (.int .i64 y5):=by rw [cell_of_row _ _ 5 _ _ _ k1]; rfl
       have r6:w1.cell? ⟨w.heap.size+1,6,none⟩=some (.int .i64 y6):=by rw [cell_of_row _ _ 6 _ _ _ k1]; rfl
       obtain ⟨e0,e1,e2,e3,e4,e5,e6,_⟩:=((hyc.out.keep (bt hb2 hb1 hb2.size))).all8
       have hwr:IntKind.i64.wrap (j:Int)=(j:Int):=IntWalk.i64_in _ (by omega)
       have hj0:(0:Int)≤(j:Int):=Int.natCast_nonneg _
       have hj1:(j:Int) < (ms.length:Int):=by omega
       go_wp2
       go_still_tail 10,(by kernel_rfl)
       change wpList _ _ _ _ _ w1.drew
       clear hwr
       go_wp2_with fail
       refine (HM.out _).mono ?_; rintro e w2 ⟨rfl,hb3⟩
       replace hb3:=below_of_drew hb3
       have b2:=bt bw hb3 bw.size
       clear e0 e1 e2 e3 e4 e5 e6
       have k2:=(hb3.block _ (Array.getElem?_eq_some_iff.1 k0).1).trans k0
       have d2:w2.cell? ⟨w.heap.size,1,none⟩=some (.slice sa ss.length sc):=by rw [cell_of_row _ _ 1 _ _ _ k2]; rfl
       obtain ⟨_,_,_,_,_,_,_,e7⟩:=(hxc.out.keep b2).all8
       go_wp2
       go_quiet (fail)
       go_wp2
       go_ret
       exact ⟨ret_int (mvErr_4 hx.out hE.out hn.out h3.out q.out).symm,below_drewN b2 _⟩
      ·have q2':decide ((ss.length:Int)≤y7)=false:=decide_eq_false q2
       have q:=Lib.hid (show ¬ (y7 < 0∨(ss.length:Int)≤y7) by omega)
       clear q1 q2
       go_enter Tryz.func73, Tryz.ntmps73
       go_wp2_with fail
       refine (HC.out _).mono ?_; rintro e w1 ⟨rfl,hb1⟩
       have k0:=(hb1.block _ (by simp; omega)).trans hs0.out
       have k1:=(hb1.block _ (by simp)).trans hs1.out
       have bw:=bt hb2 hb1 hb2.size
       clear c0 c1 c2 c3 c4 c5 c6 hs0 hs1
       have d0:w1.cell? ⟨w.heap.size,0,none⟩=some (.int .i64 n):=by rw [cell_of_row _ _ 0 _ _ _ k0]; rfl
       have d1:w1.cell? ⟨w.heap.size,1,none⟩=some (.slice sa ss.length sc):=by rw [cell_of_row _ _ 1 _ _ _ k0]; rfl
       have r0:w1.cell? ⟨w.heap.size+1,0,none⟩=some (.int .i64 y0):=by rw [cell_of_row _ _ 0 _ _ _ k1]; rfl
       have r1:w1.cell? ⟨w.heap.size+1,1,none⟩=some (.int .i64 y1):=by rw [cell_of_row _ _ 1 _ _ _ k1]; rfl
       have r2:w1.cell? ⟨w.heap.size+1,2,none⟩=some (.int .i64 y2):=by rw [cell_of_row _ _ 2 _ _ _ k1]; rfl
       have r3:w1.cell? ⟨w.heap.size+1,3,none⟩=some (.int .i64 y3):=by rw [cell_of_row _ _ 3 _ _ _ k1]; rfl
       have r4:w1.cell? ⟨w.heap.size+1,4,none⟩=some (.int .i64 y4):=by rw [cell_of_row _ _ 4 _ _ _ k1]; rfl
       have r5:w1.cell? ⟨w.heap.size+1,5,none⟩=some (.int .i64 y5):=by rw [cell_of_row _ _ 5 _ _ _ k1]; rfl
       have r6:w1.cell? ⟨w.heap.size+1,6,none⟩=some (.int .i64 y6):=by rw [cell_of_row _ _ 6 _ _ _ k1]; rfl
       obtain ⟨e0,e1,e2,e3,e4,e5,e6,_⟩:=((hyc.out.keep (bt hb2 hb1 hb2.size))).all8
       have hwr:IntKind.i64.wrap (j:Int)=(j:Int):=IntWalk.i64_in _ (by omega)
       have hj0:(0:Int)≤(j:Int):=Int.natCast_nonneg _
       have hj1:(j:Int) < (ms.length:Int):=by omega
       go_wp2
       go_still_tail 10,(by kernel_rfl)
       change wpList _ _ _ _ _ w1.drew
       clear hwr
       go_wp2_with fail
       refine (HM.out _).mono ?_; rintro e w2 ⟨rfl,hb3⟩
       replace hb3:=below_of_drew hb3
       have b2:=bt bw hb3 bw.size
       clear e0 e1 e2 e3 e4 e5 e6
       have k2:=(hb3.block _ (Array.getElem?_eq_some_iff.1 k0).1).trans k0
       have d2:w2.cell? ⟨w.heap.size,1,none⟩=some (.slice sa ss.length sc):=by rw [cell_of_row _ _ 1 _ _ _ k2]; rfl
       obtain ⟨_,_,_,_,_,_,_,e7⟩:=(hxc.out.keep b2).all8
       go_wp2
       go_quiet (fail)
       go_wp2
       go_ret
       exact ⟨ret_int (mvErr_5 hx.out hE.out hn.out h3.out (by have:=q.out; show ¬ (y7 < 0∨(ss.length:Int)≤y7); omega)).symm,below_drewN b2 _⟩
   ·have h3:Hid (¬ (0 < i∧0≤cmpL ((ms.getD (i - 1) []).take 7) ([y0,y1,y2,y3,y4,y5,y6,y7].take 7))):=fun k=>hi0 k.1
    have hi1:decide (0 < i)=false:=decide_eq_false hi0
    clear hi0 hmc
    by_cases q1:y7 < 0
    ·have q1':decide (y7 < 0)=true:=decide_eq_true q1
     have q:=Lib.hid (show y7 < 0∨(ss.length:Int)≤y7 from .inl q1)
     clear q1
     go_enter Tryz.func73, Tryz.ntmps73
     go_wp2_with fail
     refine (HC.out _).mono ?_; rintro e w1 ⟨rfl,hb1⟩
     have k0:=(hb1.block _ (by simp; omega)).trans hs0.out
     have k1:=(hb1.block _ (by simp)).trans hs1.out
     have bw:=bt hb2 hb1 hb2.size
     clear c0 c1 c2 c3 c4 c5 c6 hs0 hs1
     have d0:w1.cell? ⟨w.heap.size,0,none⟩=some (.int .i64 n):=by rw [cell_of_row _ _ 0 _ _ _ k0]; rfl
     have d1:w1.cell? ⟨w.heap.size,1,none⟩=some (.slice sa ss.length sc):=by rw [cell_of_row _ _ 1 _ _ _ k0]; rfl
     have r0:w1.cell? ⟨w.heap.size+1,0,none⟩=some (.int .i64 y0):=by rw [cell_of_row _ _ 0 _ _ _ k1]; rfl
     have r1:w1.cell? ⟨w.heap.size+1,1,none⟩=some (.int .i64 y1):=by rw [cell_of_row _ _ 1 _ _ _ k1]; rfl
     have r2:w1.cell? ⟨w.heap.size+1,2,none⟩=some (.int .i64 y2):=by rw [cell_of_row _ _ 2 _ _ _ k1]; rfl
     have r3:w1.cell? ⟨w.heap.size+1,3,none⟩=some (.int .i64 y3):=by rw [cell_of_row _ _ 3 _ _ _ k1]; rfl
     have r4:w1.cell? ⟨w.heap.size+1,4,none⟩=some (.int .i64 y4):=by rw [cell_of_row _ _ 4 _ _ _ k1]; rfl
     have r5:w1.cell? ⟨w.heap.size+1,5,none⟩=some (.int .i64 y5):=by rw [cell_of_row _ _ 5 _ _ _ k1]; rfl
     have r6:w1.cell? ⟨w.heap.size+1,6,none⟩=some (.int .i64 y6):=by rw [cell_of_row _ _ 6 _ _ _ k1]; rfl
     have bz:Below w.heap.size w w1:=bw
     obtain ⟨_,_,_,_,_,_,_,e7⟩:=(hxc.out.keep bw).all8
     go_wp2
     go_quiet (fail)
     go_wp2
     go_quiet (fail)
     go_wp2
     go_ret
     exact ⟨ret_int (mvErr_4 hx.out hE.out hn.out h3.out q.out).symm,below_drewN (below_drewN bz _) _⟩
    ·have q1':decide (y7 < 0)=false:=decide_eq_false q1
     by_cases q2:(ss.length:Int)≤y7
     ·have q2':decide ((ss.length:Int)≤y7)=true:=decide_eq_true q2
      have q:=Lib.hid (show y7 < 0∨(ss.length:Int)≤y7 from .inr q2)
      clear q1 q2
      go_enter Tryz.func73, Tryz.ntmps73
      go_wp2_with fail
      refine (HC.out _).mono ?_; rintro e w1 ⟨rfl,hb1⟩
      have k0:=(hb1.block _ (by simp; omega)).trans hs0.out
      have k1:=(hb1.block _ (by simp)).trans hs1.out
      have bw:=bt hb2 hb1 hb2.size
      clear c0 c1 c2 c3 c4 c5 c6 hs0 hs1
      have d0:w1.cell? ⟨w.heap.size,0,none⟩=some (.int .i64 n):=by rw [cell_of_row _ _ 0 _ _ _ k0]; rfl
      have d1:w1.cell? ⟨w.heap.size,1,none⟩=some (.slice sa ss.length sc):=by rw [cell_of_row _ _ 1 _ _ _ k0]; rfl
      have r0:w1.cell? ⟨w.heap.size+1,0,none⟩=some (.int .i64 y0):=by rw [cell_of_row _ _ 0 _ _ _ k1]; rfl
      have r1:w1.cell? ⟨w.heap.size+1,1,none⟩=some (.int .i64 y1):=by rw [cell_of_row _ _ 1 _ _ _ k1]; rfl
      have r2:w1.cell? ⟨w.heap.size+1,2,none⟩=some (.int .i64 y2):=by rw [cell_of_row _ _ 2 _ _ _ k1]; rfl
      have r3:w1.cell? ⟨w.heap.size+1,3,none⟩=some (.int .i64 y3):=by rw [cell_of_row _ _ 3 _ _ _ k1]; rfl
      have r4:w1.cell? ⟨w.heap.size+1,4,none⟩=some (.int .i64 y4):=by rw [cell_of_row _ _ 4 _ _ _ k1]; rfl
      have r5:w1.cell? ⟨w.heap.size+1,5,none⟩=some (.int .i64 y5):=by rw [cell_of_row _ _ 5 _ _ _ k1]; rfl
      have r6:w1.cell? ⟨w.heap.size+1,6,none⟩=some (.int .i64 y6):=by rw [cell_of_row _ _ 6 _ _ _ k1]; rfl
      have bz:Below w.heap.size w w1:=bw
      obtain ⟨_,_,_,_,_,_,_,e7⟩:=(hxc.out.keep bw).all8
      go_wp2
      go_quiet (fail)
      go_wp2
      go_quiet (fail)
      go_wp2
      go_ret
      exact ⟨ret_int (mvErr_4 hx.out hE.out hn.out h3.out q.out).symm,below_drewN (below_drewN bz _) _⟩
     ·have q2':decide ((ss.length:Int)≤y7)=false:=decide_eq_false q2
      have q:=Lib.hid (show ¬ (y7 < 0∨(ss.length:Int)≤y7) by omega)
      clear q1 q2
      go_enter Tryz.func73, Tryz.ntmps73
      go_wp2_with fail
      refine (HC.out _).mono ?_; rintro e w1 ⟨rfl,hb1⟩
      have k0:=(hb1.block _ (by simp; omega)).trans hs0.out
      have k1:=(hb1.block _ (by simp)).trans hs1.out
      have bw:=bt hb2 hb1 hb2.size
      clear c0 c1 c2 c3 c4 c5 c6 hs0 hs1
      have d0:w1.cell? ⟨w.heap.size,0,none⟩=some (.int .i64 n):=by rw [cell_of_row _ _ 0 _ _ _ k0]; rfl
      have d1:w1.cell? ⟨w.heap.size,1,none⟩=some (.slice sa ss.length sc):=by rw [cell_of_row _ _ 1 _ _ _ k0]; rfl
      have r0:w1.cell? ⟨w.heap.size+1,0,none⟩=some (.int .i64 y0):=by rw [cell_of_row _ _ 0 _ _ _ k1]; rfl
      have r1:w1.cell? ⟨w.heap.size+1,1,none⟩=some (.int .i64 y1):=by rw [cell_of_row _ _ 1 _ _ _ k1]; rfl
      have r2:w1.cell? ⟨w.heap.size+1,2,none⟩=some (.int .i64 y2):=by rw [cell_of_row _ _ 2 _ _ _ k1]; rfl
      have r3:w1.cell? ⟨w.heap.size+1,3,none⟩=some (.int .i64 y3):=by rw [cell_of_row _ _ 3 _ _ _ k1]; rfl
      have r4:w1.cell? ⟨w.heap.size+1,4,none⟩=some (.int .i64 y4):=by rw [cell_of_row _ _ 4 _ _ _ k1]; rfl
      have r5:w1.cell? ⟨w.heap.size+1,5,none⟩=some (.int .i64 y5):=by rw [cell_of_row _ _ 5 _ _ _ k1]; rfl
      have r6:w1.cell? ⟨w.heap.size+1,6,none⟩=some (.int .i64 y6):=by rw [cell_of_row _ _ 6 _ _ _ k1]; rfl
      have bz:Below w.heap.size w w1:=bw
      obtain ⟨_,_,_,_,_,_,_,e7⟩:=(hxc.out.keep bw).all8
      go_wp2
      go_quiet (fail)
      go_wp2
      go_quiet (fail)
      go_wp2
      go_ret
      exact ⟨ret_int (mvErr_5 hx.out hE.out hn.out h3.out (by have:=q.out; show ¬ (y7 < 0∨(ss.length:Int)≤y7); omega)).symm,below_drewN (below_drewN bz _) _⟩
  ·have hn':(y0 != n)=true:=by simpa using hn
   replace hn:=Lib.hid hn
   go_enter Tryz.func73, Tryz.ntmps73
   go_wp2_with fail
   refine (HC.out _).mono ?_; rintro e w1 ⟨rfl,hb1⟩
   have k0:=(hb1.block _ (by simp; omega)).trans hs0.out
   have k1:=(hb1.block _ (by simp)).trans hs1.out
   have bw:=bt hb2 hb1 hb2.size
   clear c0 c1 c2 c3 c4 c5 c6 hs0 hs1
   have d0:w1.cell? ⟨w.heap.size,0,none⟩=some (.int .i64 n):=by rw [cell_of_row _ _ 0 _ _ _ k0]; rfl
   have d1:w1.cell? ⟨w.heap.size,1,none⟩=some (.slice sa ss.length sc):=by rw [cell_of_row _ _ 1 _ _ _ k0]; rfl
   have r0:w1.cell? ⟨w.heap.size+1,0,none⟩=some (.int .i64 y0):=by rw [cell_of_row _ _ 0 _ _ _ k1]; rfl
   have r1:w1.cell? ⟨w.heap.size+1,1,none⟩=some (.int .i64 y1):=by rw [cell_of_row _ _ 1 _ _ _ k1]; rfl
   have r2:w1.cell? ⟨w.heap.size+1,2,none⟩=some (.int .i64 y2):=by rw [cell_of_row _ _ 2 _ _ _ k1]; rfl
   have r3:w1.cell? ⟨w.heap.size+1,3,none⟩=some (.int .i64 y3):=by rw [cell_of_row _ _ 3 _ _ _ k1]; rfl
   have r4:w1.cell? ⟨w.heap.size+1,4,none⟩=some (.int .i64 y4):=by rw [cell_of_row _ _ 4 _ _ _ k1]; rfl
   have r5:w1.cell? ⟨w.heap.size+1,5,none⟩=some (.int .i64 y5):=by rw [cell_of_row _ _ 5 _ _ _ k1]; rfl
   have r6:w1.cell? ⟨w.heap.size+1,6,none⟩=some (.int .i64 y6):=by rw [cell_of_row _ _ 6 _ _ _ k1]; rfl
   go_wp2
   go_ret
   exact ⟨ret_int (mvErr_2 hx.out hE.out hn.out).symm,bw⟩
 ·have hz':(E != 0)=true:=by simpa using hz
  replace hz:=Lib.hid hz
  go_enter Tryz.func73, Tryz.ntmps73
  go_wp2_with fail
  refine (HC.out _).mono ?_; rintro e w1 ⟨rfl,hb1⟩
  have k0:=(hb1.block _ (by simp; omega)).trans hs0.out
  have k1:=(hb1.block _ (by simp)).trans hs1.out
  have bw:=bt hb2 hb1 hb2.size
  clear c0 c1 c2 c3 c4 c5 c6 hs0 hs1
  have d0:w1.cell? ⟨w.heap.size,0,none⟩=some (.int .i64 n):=by rw [cell_of_row _ _ 0 _ _ _ k0]; rfl
  have d1:w1.cell? ⟨w.heap.size,1,none⟩=some (.slice sa ss.length sc):=by rw [cell_of_row _ _ 1 _ _ _ k0]; rfl
  have r0:w1.cell? ⟨w.heap.size+1,0,none⟩=some (.int .i64 y0):=by rw [cell_of_row _ _ 0 _ _ _ k1]; rfl
  have r1:w1.cell? ⟨w.heap.size+1,1,none⟩=some (.int .i64 y1):=by rw [cell_of_row _ _ 1 _ _ _ k1]; rfl
  have r2:w1.cell? ⟨w.heap.size+1,2,none⟩=some (.int .i64 y2):=by rw [cell_of_row _ _ 2 _ _ _ k1]; rfl
  have r3:w1.cell? ⟨w.heap.size+1,3,none⟩=some (.int .i64 y3):=by rw [cell_of_row _ _ 3 _ _ _ k1]; rfl
  have r4:w1.cell? ⟨w.heap.size+1,4,none⟩=some (.int .i64 y4):=by rw [cell_of_row _ _ 4 _ _ _ k1]; rfl
  have r5:w1.cell? ⟨w.heap.size+1,5,none⟩=some (.int .i64 y5):=by rw [cell_of_row _ _ 5 _ _ _ k1]; rfl
  have r6:w1.cell? ⟨w.heap.size+1,6,none⟩=some (.int .i64 y6):=by rw [cell_of_row _ _ 6 _ _ _ k1]; rfl
  go_wp2
  go_ret
  exact ⟨ret_int (by rw [mvErr_1 hx.out (by rw [show ([y0,y1,y2,y3,y4,y5,y6,y7]:List Int).take 7 = [y0,y1,y2,y3,y4,y5,y6] from rfl,hE.out]; exact hz.out)]; exact hE.out.symm),bw⟩
end Go.Proofs.YtmikofeildnpdaaGreat
