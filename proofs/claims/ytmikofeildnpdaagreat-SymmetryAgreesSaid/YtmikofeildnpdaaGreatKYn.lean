/- Texts of this claim, put together: Ka Kb Ga Gb Gc Gd La. -/
import Derived.Test.YtmikofeildnpdaaGreatKYc
import Derived.Lib.Builder
import Derived.Lib.AppendStr
import Derived.Lib.UnsafeStr
import Derived.Lib.Strings
import Derived.Lib.Slices
import Derived.Lib.Walk
import Derived.Laws.Externs
import Derived.Laws.IdiomCopy
import Derived.Shelf.Strings.Builder1
import Derived.Test.YtmikofeildnpdaaGreatKYd
import Derived.Maps.Own
import Derived.Test.YtmikofeildnpdaaGreatKYj
import Derived.Test.YtmikofeildnpdaaGreatKYl
import Derived.Sort.LoopGhostIn
import Derived.Deep.LoopGhost
import Derived.OwnWalkIn
import Derived.TacticsInMore
import Derived.LoopNIn
import Derived.LoopIn
import Derived.Test.YtmikofeildnpdaaGreatKYk
import Derived.Shelf.RegionOpen
import Derived.Test.YtmikofeildnpdaaGreatKYm
import Derived.Laws.CopyRow
import Derived.WideKeyArr2

set_option maxRecDepth 100000
set_option maxHeartbeats 12800000
/- key. -/
namespace Go.Proofs.YtmikofeildnpdaaGreat
open Go.RowKit
theorem und89 : Tryz.prog.underlying 83=some (.array 5 3):=by kernel_rfl
theorem addr_add (b o j:Nat):(⟨b,o,none⟩:Addr).add j=⟨b,o+j,none⟩:=by
 cases j <;> simp [Addr.add]
def keyA (a:List Int):Array Value:=#[.int .i64 (a.getD 0 0),.int .i64 (a.getD 1 0),.int .i64 (a.getD 2 0),.int .i64 (a.getD 3 0),.int .i64 (a.getD 4 0)]
def zer5:Array Value:=#[.int .i64 0,.int .i64 0,.int .i64 0,.int .i64 0,.int .i64 0]
theorem keyA_pad:∀ {a:List Int},a.length≤5→(zer5.toList.take 0++a.map (Value.int .i64)++zer5.toList.drop (0+(a.map (Value.int .i64)).length)).toArray=keyA a
 | [],_=>rfl
 | [_],_=>rfl
 | [_,_],_=>rfl
 | [_,_,_],_=>rfl
 | [_,_,_,_],_=>rfl
 | [_,_,_,_,_],_=>rfl
 | _::_::_::_::_::_::_,h=>by simp at h
theorem setRow_last (w:World) (cur cs:Array Value) (t:TypeId):(w.alloc (.cells cur t)).setRow w.heap.size cs=w.alloc (.cells cs t):=by
 unfold World.setRow World.alloc
 congr 1
 apply Array.ext_getElem?
 intro i
 simp only [Array.getElem?_modify,Array.getElem?_push]
 by_cases hi:w.heap.size=i
 ·subst hi; simp
 ·simp [hi,show ¬ i=w.heap.size from fun e=>hi e.symm]
theorem copyKey {w:World} {a:List Int} {ab off ac:Nat} (hc:CI w ab off a) (h5:a.length≤5) :
  (Builtin.copy_ #[25,25] 3 #[.slice (some ⟨w.heap.size,0,none⟩) 5 5,.slice (some ⟨ab,off,none⟩) a.length ac]).run Tryz.prog (w.alloc (.cells zer5 83)) = .ok (.int .i64 a.length) (w.alloc (.cells (keyA a) 83)):=by
 have hl:(a.map (Value.int .i64)).length=a.length:=List.length_map ..
 have:=run_copy_row (P:=Tryz.prog) (w.alloc (.cells zer5 83)) 25 25 3 3 w.heap.size 0 5 5 ⟨ab,off,none⟩ a.length ac zer5 83 (a.map (Value.int .i64)) (by kernel_rfl) (by kernel_rfl) (World.alloc_heap_new w _) (by rw [hl]; simp [Nat.min_def]; omega) ?_ (by rw [hl]; show 0+a.length≤5; omega) ?_
 ·rw [this,keyA_pad h5,setRow_last,hl]; rfl
 ·intro j v hj
  rw [List.getElem?_map] at hj
  cases hq:a[j]? with
  | none=>rw [hq] at hj; cases hj
  | some x=>
   rw [hq] at hj
   simp only [Option.map_some,Option.some.injEq] at hj
   subst hj
   have hjl:j < a.length:=(List.getElem?_eq_some_iff.1 hq).1
   have:=(hc.keep ((Below.refl _ w).alloc (Nat.le_refl _) (.cells zer5 83))) j hjl
   rw [List.getD_eq_getElem?_getD,hq] at this
   rw [addr_add]; exact this
 ·intro v hv
  obtain ⟨x,_,rfl⟩:=List.mem_map.1 hv
  rfl
theorem keyCall {w:World} {u:Value} {a:List Int} (h:Ints w u a) (h1:1≤a.length) (h5:a.length≤5):Calls Tryz.prog 67 #[u] w fun e w'=>e = .returned (.agg (keyA a))∧Below w.heap.size w w':=by
 obtain ⟨aa,ac,ab,off,rfl,ha,hc,hl⟩:=h
 obtain rfl:=ha h1
 have hcA:CI (w.alloc (.cells zer5 83)) ab off a:=hc.keep ((Below.refl _ w).alloc (Nat.le_refl _) _)
 have hcp:=copyKey (ac:=ac) hcA h5
 rw [World.size_alloc] at hcp
 unfold zer5 keyA at hcp
 unfold keyA
 obtain ⟨x0,hx0⟩:=exE (a.getD 0 0)
 obtain ⟨x1,hx1⟩:=exE (a.getD 1 0)
 obtain ⟨x2,hx2⟩:=exE (a.getD 2 0)
 obtain ⟨x3,hx3⟩:=exE (a.getD 3 0)
 obtain ⟨x4,hx4⟩:=exE (a.getD 4 0)
 rw [hx0,hx1,hx2,hx3,hx4] at hcp ⊢
 clear hx0 hx1 hx2 hx3 hx4 hcA hc ha
 go_enter Tryz.func67,Tryz.ntmps67
 go_wp2
 have hb:Below w.heap.size w ((w.alloc (.cells #[.int .i64 x0,.int .i64 x1,.int .i64 x2,.int .i64 x3,.int .i64 x4] 83)).alloc (.cells #[.int .i64 x0,.int .i64 x1,.int .i64 x2,.int .i64 x3,.int .i64 x4] 83)):=((Below.refl _ w).alloc (Nat.le_refl _) _).alloc (by simp) _
 have hg:((w.alloc (.cells #[.int .i64 x0,.int .i64 x1,.int .i64 x2,.int .i64 x3,.int .i64 x4] 83)).alloc (.cells #[.int .i64 x0,.int .i64 x1,.int .i64 x2,.int .i64 x3,.int .i64 x4] 83)).heap[w.heap.size]? = _:=(Below.heap_alloc _ _ _ (by simp)).trans (World.alloc_heap_new w _)
 exact ⟨by simp,_,results_cell_row (p:=2) (ty:=83) rfl _ _ w.heap.size 83 _ _ _ rfl hg und89 rfl (by kernel_rfl),rfl,hb⟩
end Go.Proofs.YtmikofeildnpdaaGreat

/- The set of permutations seen: a map keyed by five numbers. -/
namespace Go.Proofs.YtmikofeildnpdaaGreat
open Go.RowKit Go.ChangeMaps Go.MapKept Go.WideMaps
theorem arr89:ArrKey Tryz.prog 83 3 5:=⟨und89,by kernel_rfl,by kernel_rfl,by kernel_rfl⟩
theorem law89:Maps.Keyed Tryz.prog 83:=Maps.Keyed.of_law arr89.law
theorem und91 : Tryz.prog.underlying 113=some (.map 83 4):=by kernel_rfl
theorem und3 : Tryz.prog.underlying 3=some (.int .i64):=by kernel_rfl
theorem cells3 : Tryz.prog.cellsOf 3=1:=by kernel_rfl
def SmallN (a:List Int):Prop:=∀ k,0≤a.getD k 0∧a.getD k 0 < 10
theorem wf_small {x:Int} (h:0≤x∧x < 10):(Lit.int .i64 x).wf=true:=WalkArith.wf_i64 (by omega)
theorem lit1 {x:Int} (m:Nat) (h:0≤x∧x < 10) : Tryz.prog.keyLits (m+1) 3 [.int .i64 x]=some [.int .i64 x]:=by
 unfold Program.keyLits
 simp only [und3]
 rw [if_pos ⟨trivial,wf_small h⟩]
theorem typesSize1:∃ m,Tryz.prog.types.size=m+1:=by obtain ⟨m,hm⟩:=typesSize; exact ⟨m+2,hm⟩
theorem hasKey {a:List Int} (h:SmallN a):∃ l,keyOf Tryz.prog 83 (.agg (keyA a))=some l:=by
 have hkt:=arr89.keyType typesSize1
 obtain ⟨m0,hm0⟩:=typesSize1
 refine ⟨.string (keyBytes [.int .i64 (a.getD 0 0),.int .i64 (a.getD 1 0),.int .i64 (a.getD 2 0),.int .i64 (a.getD 3 0),.int .i64 (a.getD 4 0)]),?_⟩
 unfold keyOf
 simp only [und89]
 rw [if_pos (by simp [hkt,Value.formed,arr89.size,keyA]),hm0]
 unfold Program.keyLits
 simp only [und89,Value.cells]
 rw [if_pos (by rw [arr89.size]; rfl)]
 have hl:((List.range 5).mapM fun i=>Tryz.prog.keyLits (m0+1) 3 (((keyA a).toList.drop (i * Tryz.prog.cellsOf 3)).take (Tryz.prog.cellsOf 3)))=some [[.int .i64 (a.getD 0 0)],[.int .i64 (a.getD 1 0)],[.int .i64 (a.getD 2 0)],[.int .i64 (a.getD 3 0)],[.int .i64 (a.getD 4 0)]]:=by
  rw [cells3,show List.range 5 = [0,1,2,3,4] from rfl]
  simp only [List.mapM_cons,List.mapM_nil,keyA,List.drop,List.take,Nat.mul_one]
  rw [lit1 m0 (h 0),lit1 m0 (h 1),lit1 m0 (h 2),lit1 m0 (h 3),lit1 m0 (h 4)]
  rfl
 rw [hl]
 rfl
theorem keyA_inj {a b:List Int} {n:Nat} (ha:a.length=n) (hb:b.length=n) (h5:n≤5) (h:keyA a=keyA b):a=b:=by
 simp only [keyA,Array.mk.injEq,List.cons.injEq,Value.int.injEq,true_and,and_true] at h
 obtain ⟨h0,h1,h2,h3,h4⟩:=h
 refine List.ext_getElem (by omega) fun k hk hk2=>?_
 have:a.getD k 0=b.getD k 0:=by
  have:k=0∨k=1∨k=2∨k=3∨k=4:=by omega
  rcases this with rfl | rfl | rfl | rfl | rfl <;> assumption
 simpa [List.getD_eq_getElem?_getD,List.getElem?_eq_getElem hk,List.getElem?_eq_getElem hk2] using this
def MG (w:World) (b:Nat) (g:List (List Int)):Prop:=
 ∃ es clock,w.heap[b]? = some (.map es clock)∧es.toList.map (·.key)=g.map (fun x=>Value.agg (keyA x))∧∀ e∈es.toList,e.val = .bool true
theorem MG.keys {g:List (List Int)} (hg:∀ y∈g,SmallN y) {l:List MapEntry} (h:l.map (·.key)=g.map (fun x=>Value.agg (keyA x))):∀ e∈l,∃ k,keyOf Tryz.prog 83 e.key=some k:=by
 intro e he
 have:e.key∈g.map (fun x=>Value.agg (keyA x)):=h ▸ List.mem_map_of_mem he
 obtain ⟨y,hy,hye⟩:=List.mem_map.1 this
 rw [← hye]
 exact hasKey (hg y hy)
theorem MG.find {w:World} {g:List (List Int)} {x:List Int} (hg:∀ y∈g,SmallN y) (hx:SmallN x) (hi:∀ y∈g,keyA y=keyA x→y=x) {l:List MapEntry} (h:l.map (·.key)=g.map (fun x=>Value.agg (keyA x))) :
  (x ∉ g∧(Instr.findKey 83 (.agg (keyA x)) l).run Tryz.prog w = .ok none w)∨(x∈g∧∃ j e,(Instr.findKey 83 (.agg (keyA x)) l).run Tryz.prog w = .ok (some (j,e.val)) w∧e∈l):=by
 obtain ⟨lx,hlx⟩:=hasKey hx
 rcases law89.find w hlx l (MG.keys hg h) with ⟨h1,h2⟩ | ⟨j,e,h1,h2,h3⟩
 ·refine .inl ⟨fun hm=>?_,h1⟩
  have:Value.agg (keyA x)∈l.map (·.key):=h ▸ List.mem_map_of_mem (f:=fun x=>Value.agg (keyA x)) hm
  obtain ⟨e,he,hek⟩:=List.mem_map.1 this
  exact h2 e he hek
 ·have hel:e∈l:=List.mem_of_getElem? h2
  refine .inr ⟨?_,j,e,h1,hel⟩
  have:e.key∈g.map (fun x=>Value.agg (keyA x)):=h ▸ List.mem_map_of_mem hel
  obtain ⟨y,hy,hye⟩:=List.mem_map.1 this
  rw [h3] at hye
  rw [← hi y hy (by injection hye)]
  exact hy
theorem MG.has {w:World} {b:Nat} {g:List (List Int)} {x:List Int} (h:MG w b g) (hg:∀ y∈g,SmallN y) (hx:SmallN x) (hi:∀ y∈g,keyA y=keyA x→y=x) :
  (Instr.lookup 113 (.map (some b)) (.agg (keyA x)) false).run Tryz.prog w = .ok (.bool (decide (x∈g))) w:=by
 obtain ⟨es,clock,hb,hk,hv⟩:=h
 obtain ⟨lx,hlx⟩:=hasKey hx
 have hc:=fun e=>law89.check w e hlx
 have hz:(zeroValue 4).run Tryz.prog w = .ok (.bool false) w:=by kernel_rfl
 rcases MG.find (w:=w) hg hx hi hk with ⟨h1,h2⟩ | ⟨h1,j,e,h2,h3⟩
 ·simp [Instr.lookup,run_underlying und91,MapKept.run_getObj_map hb,hc,h2,Result.andThen,hz,h1]
 ·simp [Instr.lookup,run_underlying und91,MapKept.run_getObj_map hb,hc,h2,Result.andThen,hv e h3,h1]
theorem MG.put {w:World} {b:Nat} {g:List (List Int)} {x:List Int} (h:MG w b g) (hg:∀ y∈g,SmallN y) (hx:SmallN x) (hi:∀ y∈g,keyA y=keyA x→y=x) (hn:x ∉ g) :
  ∃ o,(Instr.mapUpdate 113 (.map (some b)) (.agg (keyA x)) (.bool true)).run Tryz.prog w = .ok () (setBlock w b o)∧MG (setBlock w b o) b (g ++ [x]):=by
 obtain ⟨es,clock,hb,hk,hv⟩:=h
 obtain ⟨lx,hlx⟩:=hasKey hx
 have hc:=law89.check w false hlx
 rcases MG.find (w:=w) hg hx hi hk with ⟨h1,h2⟩ | ⟨h1,_⟩
 ·refine ⟨.map (es.push ⟨.agg (keyA x),.bool true,clock⟩) (clock+1),?_,_,_,heap_setBlock_same hb _,?_,?_⟩
  ·simp [Instr.mapUpdate,run_underlying und91,MapKept.run_getObj_map hb,hc,h2,MapKept.run_setObj_map _ hb,Result.andThen,setBlock]
  ·rw [Array.toList_push,List.map_append,hk,List.map_append]; rfl
  ·intro e he
   rw [Array.toList_push,List.mem_append] at he
   rcases he with he | he
   ·exact hv e he
   ·rw [List.mem_singleton.1 he]
 ·exact absurd h1 hn
theorem MG.made (w:World):MG (w.alloc (.map #[] 0)) w.heap.size []:=⟨#[],0,World.alloc_heap_new w _,rfl,by simp⟩
end Go.Proofs.YtmikofeildnpdaaGreat

/- The map of permutations beside the rows: each keeps the other. -/
namespace Go.Proofs.YtmikofeildnpdaaGreat
open Go.RowKit Go.ChangeMaps Go.MapKept Go.WideMaps
theorem MG.keep {w w':World} {b:Nat} {g:List (List Int)} (h:MG w b g) (hb:Below w.heap.size w w'):MG w' b g:=by
 obtain ⟨es,c,h1,h2⟩:=h
 exact ⟨es,c,(hb.block b (Array.getElem?_eq_some_iff.1 h1).1).trans h1,h2⟩
theorem ownsRow_map {w:World} {B b:Nat} {E:TypeId} {v:Value} {n:Nat} {xs:List Value} {g:List (List Int)} (h:w.ownsRow B E 1 v n xs) (hm:MG w b g) (o:Obj):(setBlock w b o).ownsRow B E 1 v n xs:=by
 refine ⟨h.1,?_⟩
 rcases h.2 with h' | ⟨k,cap,cur,h1,h2,h3,h4⟩
 ·exact .inl h'
 ·refine .inr ⟨k,cap,cur,h1,h2,?_,h4⟩
  obtain ⟨es,c,hb,_⟩:=hm
  have hne:b ≠ k:=by rintro rfl; rw [hb] at h3; cases h3
  rw [setBlock,Array.getElem?_setIfInBounds_ne hne]
  exact h3
theorem OI.map {w:World} {B b:Nat} {v:Value} {n:Nat} {xs:List Int} {g:List (List Int)} (h:OI w B v n xs) (hm:MG w b g) (o:Obj):OI (setBlock w b o) B v n xs:=ownsRow_map h hm o
theorem OII.map {w:World} {B b:Nat} {v:Value} {n:Nat} {xss:List (List Int)} {g:List (List Int)} (h:OII w B v n xss) (hm:MG w b g) (o:Obj):OII (setBlock w b o) B v n xss:=by
 obtain ⟨vs,h1,h2,h4,h3⟩:=h
 exact ⟨vs,ownsRow_map h1 hm o,h2,h4,fun j hj=>(h3 j hj).map hm o⟩
theorem below_set {w W:World} {B b:Nat} (h:Below B w W) (hb:B≤b) (o:Obj):Below B w (setBlock W b o):=
 h.trans ⟨rfl,rfl,rfl,by simp [setBlock],fun k hk=>by simp only [setBlock]; rw [Array.getElem?_setIfInBounds_ne (by omega)]⟩
theorem wpApp1SM {w0:World} {u:Value} {x:List Int} {t:TypeId} {ops:Array Oper} {rest:List Oper} {o:Oper} {a:Act} {Q:Exit→Act→World→Prop} (hgd:o.guard=none) (s y:Operand)
  (ho:o.op = .call { callee:=.builtin .append,args:=#[s,y],argTypes:=#[39,39] })
  {B:Nat} {v:Value} {n:Nat} {xss:List (List Int)} (hs:a.eval s=v) (hown:OII w0 B v n xss) (hx:a.eval y = .slice (some ⟨w0.heap.size,0,none⟩) 1 1)
  (hu:OI w0 0 u x.length x) (hu1:u.oneCell'=true) {b:Nat} {g:List (List Int)} (hm:MG w0 b g) (hn:n≤1000000000000) (hB:B≤w0.heap.size)
  (h:∀ v' w',OII w' B v' (n+1) (xss ++ [x])→Below B w0 w'→MG w' b g→wpList Tryz.prog ops Q rest (a.put o.dst v') w') :
  wpList Tryz.prog ops Q (o::rest) a (w0.alloc (.cells #[u] t)):=by
 obtain ⟨vs,h1,h2,h4,h3⟩:=hown
 have hvl:vs.length=n:=by have:=h1.1; omega
 refine wpApp1 elemSl (by decide) hgd s y ho hs h1 hx hu1 hn hB fun v' w' k1 k2 k3=>?_
 have ki:∀ B' u' n' x',OI w0 B' u' n' x'→OI w' B' u' n' x':=fun B' u' n' x' hh=>hh.otherO h1 k2
 refine h v' w' ⟨vs ++ [u],k1,by simp [h2],?_,fun j hj=>?_⟩ k3 ?_
 ·intro y hy
  rcases List.mem_append.1 hy with hy | hy
  ·exact h4 y hy
  ·rw [List.mem_singleton.1 hy]; exact hu1
 ·by_cases hjn:j < n
  ·rw [getD_append_left' (by omega),getD_append_left' (by omega)]
   exact ki _ _ _ _ (h3 j hjn)
  ·obtain rfl:j=n:=by omega
   rw [getD_append_right' (by omega),getD_append_right' (by omega),hvl,h2,Nat.sub_self]
   exact ki _ _ _ _ hu
 ·obtain ⟨es,c,hb,hr⟩:=hm
  refine ⟨es,c,(k2.block b (Array.getElem?_eq_some_iff.1 hb).1 ?_).trans hb,hr⟩
  rcases h1.2 with ⟨rfl,_⟩ | ⟨k,cap,cur,rfl,_,h5,_⟩
  ·intro e; cases e
  ·intro e
   simp only [Value.ownBlock,Option.some.injEq] at e
   subst e
   rw [h5] at hb; cases hb
theorem IsP.small {n:Nat} (hn:n≤5) {x:List Int} (h:IsP n x):SmallN x:=by
 intro k
 by_cases hk:k < x.length
 ·have:=h.2.1 _ (List.getElem_mem hk)
  rw [getD_eq hk]; omega
 ·simp [List.getElem?_eq_none (Nat.le_of_not_lt hk)]
end Go.Proofs.YtmikofeildnpdaaGreat

/- The walk of Generate. -/
namespace Go.Proofs.YtmikofeildnpdaaGreat
open Go.RowKit Go.ChangeMaps Go.MapKept Go.WideMaps
theorem OII.shape {w:World} {B:Nat} {v:Value} {n:Nat} {xss:List (List Int)} (h:OII w B v n xss):∃ a c,v = .slice a n c:=by
 obtain ⟨a,c,b,hv,_⟩:=h.open'
 exact ⟨a,c,hv⟩
theorem generateBad {w:World} {v:Value} {l:List (List Int)} (n:Int) (h:Intss w v l) (hz:chkList n l ≠ 0):Calls Tryz.prog 25 #[.int .i64 n,v] w (RII w (genR n l) (chkList n l)):=by
 have hL:=Lib.hid (show genR n l = [] by rw [genR,if_neg hz])
 have HN:=Lib.hid (number n w)
 obtain ⟨a,c,b,off,rfl,ha,hc,hl⟩:=h
 by_cases h1:n < 1∨5 < n
 ·have hE:=Lib.hid (show chkList n l=2 by rw [chkList,if_pos h1])
  rw [show numE n=2 by rw [numE,if_pos h1]] at HN
  clear h1 ha hc hz
  go_enter Tryz.func25,Tryz.ntmps25
  go_wp2_with (go_at_call 64; refine HN.out.mono ?_; rintro e w1 ⟨rfl,rfl⟩)
  go_ret2
  exact RII.none hL.out hE.out.symm (Below.refl _ _)
 ·rw [show numE n=0 by rw [numE,if_neg h1]] at HN
  by_cases hm:1024 < l.length
  ·have hE:=Lib.hid (show chkList n l=5 by rw [chkList,if_neg h1,if_pos hm])
   clear h1 ha hc hz
   go_enter Tryz.func25,Tryz.ntmps25
   go_wp2_with (go_at_call 64; refine HN.out.mono ?_; rintro e w1 ⟨rfl,rfl⟩)
   go_ret2
   exact RII.none hL.out hE.out.symm (Below.refl _ _)
  ·have e0:=Lib.hid (show chkList n l=chkAll n l by rw [chkList,if_neg h1,if_neg hm])
   replace hz:=Lib.hid hz
   clear h1
   go_enter Tryz.func25,Tryz.ntmps25
   go_wp2_with (go_at_call 64; refine HN.out.mono ?_; rintro e w1 ⟨rfl,rfl⟩)
   go_loopw [26] (fun i wr=>∃ k:Nat,k≤l.length∧i = .int .i64 k∧Hid (chkAll n (l.drop k)=chkAll n l)∧Below w.heap.size w wr) (fun i _=>l.length - (intOf i).toNat)
   case atStart=>exact ⟨0,by omega,rfl,by simp [Hid],Below.refl _ _⟩
   case round=>
    obtain ⟨k,hk,rfl,hg,hb⟩:=hrel
    by_cases hlt:k < l.length
    ·obtain rfl:=ha (by omega)
     obtain ⟨u1,hck,hi⟩:=hc.keep hb k hlt
     clear ha hc
     obtain ⟨x,hx⟩:=exE (l.getD k [])
     rw [hx] at hi
     replace hx:=Lib.hid hx
     have H:=Lib.hid (check hi)
     obtain ⟨a1,c1,b1,o1,rfl,_⟩:=hi
     obtain ⟨m,hm'⟩:∃ m,x.length=m:=⟨_,rfl⟩
     rw [hm'] at hck H
     replace hm':=Lib.hid hm'
     obtain ⟨E,hE⟩:=exE (chk x)
     rw [hE] at H
     replace hE:=Lib.hid hE
     by_cases hzE:E=0
     ·subst hzE
      by_cases hmn:(m:Int)=n
      ·have hmn':((m:Int) != n)=false:=by simp [hmn]
       replace hmn:=Lib.hid hmn
       go_wp2_with (go_at_call 65; refine H.out.mono ?_; rintro e w' ⟨rfl,hb2⟩)
       go_roundw
       case rel=>exact ⟨k+1,by omega,by go_num,by show _=_; rw [← hg.out,chkAll_1 hlt hx.out hm'.out hE.out hmn.out],bt hb hb2 hb.size⟩
       case measure=>simp [intOf]; omega
      ·have hmn':((m:Int) != n)=true:=by simp [hmn]
       go_wp2_with (go_at_call 65; refine H.out.mono ?_; rintro e w' ⟨rfl,hb2⟩)
       go_ret2
       exact RII.none hL.out (by rw [e0.out,← hg.out,chkAll_2 hlt hx.out hm'.out hE.out hmn]) (bt hb hb2 hb.size)
     ·have hz':(E != 0)=true:=by simpa using hzE
      replace hzE:=Lib.hid hzE
      go_wp2_with (go_at_call 65; refine H.out.mono ?_; rintro e w' ⟨rfl,hb2⟩)
      go_ret2
      exact RII.none hL.out (by rw [e0.out,← hg.out,chkAll_3 hlt hx.out (by rw [hE.out]; exact hzE.out),hE.out]) (bt hb hb2 hb.size)
    ·exact absurd (by rw [e0.out,← hg.out,chkAll_end (n:=n) hlt]) hz.out
end Go.Proofs.YtmikofeildnpdaaGreat

/- The walk of Generate, at a list of permutations. -/
namespace Go.Proofs.YtmikofeildnpdaaGreat
open Go.RowKit Go.ChangeMaps Go.MapKept Go.WideMaps
theorem keyI {n:Nat} (hn:n≤5) {g:List (List Int)} (hg:InvG n g) {x:List Int} (hx:IsP n x):∀ y∈g,keyA y=keyA x→y=x:=
 fun y hy e=>keyA_inj (hg.2 y hy).1 hx.1 hn e
theorem generateOk {w:World} {v:Value} {l:List (List Int)} (n:Nat) (hn1:1≤n) (hn:n≤5) (h:Intss w v l) (hl4:l.length≤1024) (hl:∀ a∈l,IsP n a) {G:List (List Int)} (hG:clGo l 3126 0 [oneL n]=some G) (hGi:InvG n G) :
  Calls Tryz.prog 25 #[.int .i64 n,v] w fun e w'=>∃ r,e = .returned (.tuple #[r,.int .i64 0])∧∃ yss,yss.Perm G∧yss.Pairwise (fun a b=>¬ cmpL b a < 0)∧OII w' w.heap.size r G.length yss∧Below w.heap.size w w':=by
 have HN:=Lib.hid (number n w)
 rw [show numE n=0 by rw [numE,if_neg (by omega)]] at HN
 obtain ⟨la,lc,lb,lo,rfl,ha,hc,hll⟩:=h
 replace hG:=Lib.hid hG
 have hmm:=@run_makeMap Tryz.prog
 go_enter Tryz.func25,Tryz.ntmps25
 go_wp2_with (go_at_call 64; refine HN.out.mono ?_; rintro e w1 ⟨rfl,rfl⟩)
 go_loopw [26] (fun i wr=>∃ k:Nat,k≤l.length∧i = .int .i64 k∧Below w.heap.size w wr) (fun i _=>l.length - (intOf i).toNat)
 case atStart=>exact ⟨0,by omega,rfl,Below.refl _ _⟩
 case round=>
  obtain ⟨k,hk,rfl,hb⟩:=hrel
  by_cases hlt:k < l.length
  ·obtain rfl:=ha (by omega)
   obtain ⟨u1,hck,hi⟩:=hc.keep hb k hlt
   have hxP:IsP n (l.getD k []):=by rw [getD_eq hlt]; exact hl _ (List.getElem_mem hlt)
   clear ha hc
   obtain ⟨x,hx⟩:=exE (l.getD k [])
   rw [hx] at hi hxP
   have hE:chk x=0:=chk_iff.2 ⟨by have:=hxP.1; omega,by rw [hxP.1]; exact hxP⟩
   have H:=check hi
   rw [hE] at H
   replace H:=Lib.hid H
   obtain ⟨a1,c1,b1,o1,rfl,_⟩:=hi
   obtain rfl:x.length=n:=hxP.1
   clear hx hE
   go_wp2_with (go_at_call 65; refine H.out.mono ?_; rintro e w' ⟨rfl,hb2⟩)
   go_roundw
   case rel=>exact ⟨k+1,by omega,by go_num,bt hb hb2 hb.size⟩
   case measure=>simp [intOf]; omega
  ·clear hk
   have HI:=fun W=>identityCall n W (by omega)
   replace HI:=Lib.hid HI
   go_wp2_with (go_at_call 66; refine (HI.out _).mono ?_; rintro e w1 ⟨r,rfl,ho,hb1⟩; have hO:=OII.one (by rw [oneL_length]; exact ho); have hbO:=hb1.alloc hb1.size (.cells #[r] 25); obtain ⟨a1,c1,rfl⟩:=ho.shape)
   clear HI HN
   have hMG:=MG.made (w1.alloc (.cells #[.slice a1 n c1] 25))
   have hbM:=hbO.alloc hbO.size (.map #[] 0)
   replace hO:=hO.keep ((Below.refl _ _).alloc (Nat.le_refl _) (.map #[] 0))
   have ho1:=(ho.keep ((Below.refl _ _).alloc (Nat.le_refl _) (.cells #[.slice a1 n c1] 25))).keep ((Below.refl _ _).alloc (Nat.le_refl _) (.map #[] 0))
   have hg1:w.heap.size≤w1.heap.size:=Nat.le_trans hb.size hb1.size
   have hg0:w.heap.size≤(w1.alloc (.cells #[.slice a1 n c1] 25)).heap.size:=by simp; omega
   have hP1:=IsP.one n
   refine (keyCall (ho1.ints (by omega)) (by rw [hP1.1]; omega) (by rw [hP1.1]; omega)).mono ?_
   rintro e w2 ⟨rfl,hb2⟩
   replace hMG:=hMG.keep hb2
   replace hO:=hO.keep hb2
   have hw2:=bt (hb.trans (hbM.mono hb.size)) hb2 (by simp; omega)
   obtain ⟨o,hput,hMG2⟩:=MG.put hMG (by simp) (hP1.small hn) (by simp) (by simp)
   replace hO:=(hO.map hMG o).base hg1
   have hbW:=below_set hw2 hg0 o
   clear hMG hw2 hb2 hb1 hb hbO hbM ho ho1
   simp only [World.size_alloc] at hput hMG2 hO hbW hg0
   generalize hkA:keyA (oneL n)=kk at *
   obtain ⟨W3,hW3⟩:=exE (setBlock w2 (w1.heap.size+1) o)
   rw [hW3] at hput hMG2 hO hbW
   clear hW3
   go_wp2
   clear hput hkA hmm
   obtain ⟨mb,hmb⟩:=exE (w1.heap.size+1)
   obtain ⟨gb,hgb⟩:=exE (w1.heap.size)
   rw [hmb] at hMG2 hg0
   rw [hmb]
   rw [hgb] at hO
   rw [hgb]
   rw [List.nil_append] at hMG2
   clear hmb hgb hg1
   go_loopg [10,12] 3126 (fun f gv iv wr=>∃ (i:Nat) (g:List (List Int)),iv = .int .i64 i∧i≤g.length∧0 < g.length∧OII wr w.heap.size gv g.length g∧InvG n g∧MG wr mb g∧Hid (clGo l f i g=some G)∧Below w.heap.size w wr)
   case atStart=>exact ⟨0,[oneL n],rfl,by simp,by simp,hO,⟨by simp,fun y hy=>by rw [List.mem_singleton.1 hy]; exact hP1⟩,hMG2,hG.out,hbW⟩
   case round=>
    clear hO hMG2 hbW hG
    obtain ⟨i,g,rfl,hi,hgp,ho,hI,hm,hg,hb⟩:=hrel
    obtain ⟨f,rfl⟩:∃ f,gk=f+1:=by
     cases gk with
     | zero=>have:=hg.out; simp [clGo] at this
     | succ f=>exact ⟨f,rfl⟩
    have hgl:=hI.le hn
    obtain ⟨ga,gc,gb,rfl,hga,hgc⟩:=ho.open'
    by_cases hlt2:i < g.length
    ·have hg':=hg.out
     rw [clGo,if_pos hlt2] at hg'
     replace hg':=Lib.hid hg'
     obtain ⟨y,hy⟩:=exE (g.getD i [])
     have hyP:IsP n y:=by rw [← hy,getD_eq hlt2]; exact hI.2 _ (List.getElem_mem hlt2)
     rw [hy] at hg'
     replace hy:=Lib.hid hy
     clear hg hga hgc
     go_wp2
     obtain ⟨wo,hwo⟩:=exF (wr)
     rw [← hwo] at ho hb hm ⊢
     clear hwo
     go_loopw [10,57] (fun gv kv wr=>∃ (k:Nat) (g':List (List Int)),k≤l.length∧kv = .int .i64 k∧i < g'.length∧Hid (g'.getD i []=y)∧OII wr w.heap.size gv g'.length g'∧InvG n g'∧MG wr mb g'∧Hid (clIn y (l.drop k) g'=clIn y l g)∧Below w.heap.size w wr) (fun _ kv _=>l.length - (intOf kv).toNat)
     case atStart=>exact ⟨0,g,by omega,rfl,hlt2,hy,ho,hI,hm,rfl,hb⟩
     case round=>
      clear ho hb hy hI hgl hlt2 hi hm hlt
      obtain ⟨k,g',hk,rfl,hi,hy,ho,hI,hm,hin,hb⟩:=hrel
      have hgl:=hI.le hn
      by_cases hlt:k < l.length
      ·obtain rfl:=ha (by omega)
       obtain ⟨u,hcu,hu⟩:=hc.keep hb k hlt
       obtain ⟨ga,gc,gb,rfl,hga,hgc⟩:=ho.open'
       obtain rfl:=hga (by omega)
       obtain ⟨u2,hcu2,hu2⟩:=hgc i hi
       rw [hy.out] at hu2
       obtain ⟨a,hka⟩:=exE (l.getD k [])
       have haP:IsP n a:=by rw [← hka,getD_eq hlt]; exact hl _ (List.getElem_mem hlt)
       rw [hka] at hu
       have hst:=Lib.hid (clIn_step (y:=y) (g:=g') hlt hka)
       clear hka hga hgc
       have HT:=composeCall hu (hu2.ints (by have:=hyP.1; omega)) (by rw [haP.1]; exact hyP.good) (by have:=hyP.1; omega)
       rw [hyP.1] at HT
       replace HT:=Lib.hid HT
       have hxP:IsP n (timesL a y):=haP.times hyP
       obtain ⟨x,hx⟩:=exE (timesL a y)
       have hI2:=hI.step haP hyP
       rw [hx] at HT hst hI2 hxP
       obtain rfl:x.length=n:=hxP.1
       have hxs:=hxP.small hn
       have hxi:=Lib.hid (keyI hn hI hxP)
       have hgs:=Lib.hid (fun y hy=>(hI.2 y hy).small hn)
       have hgh:∀ W,MG W mb g'→(Instr.lookup 113 (.map (some mb)) (.agg (keyA x)) false).run Tryz.prog W = .ok (.bool (decide (x∈g'))) W:=fun W hW=>hW.has hgs.out hxs hxi.out
       replace hgh:=Lib.hid hgh
       have HK:=fun W u (h:OI W 0 u x.length x)=>keyCall (h.ints (by omega)) hn1 hn
       replace HK:=Lib.hid HK
       clear hx
       by_cases hmx:x∈g'
       ·rw [if_pos hmx] at hst
        have hd:=Lib.hid (decide_eq_true hmx)
        clear hmx hI2
        go_wp2_with (first | (go_at_call 68; refine HT.out.mono ?_; rintro e w3 ⟨rr,rfl,hxo,hb3⟩; obtain ⟨xa,xc,rfl⟩:=hxo.shape) | (go_at_call 67; refine (HK.out _ _ (hxo.base (Nat.zero_le _))).mono ?_; rintro e w4 ⟨rfl,hb4⟩; have hlk:=hgh.out w4 ((hm.keep hb3).keep hb4); rw [hd.out] at hlk))
        go_roundw
        case rel=>exact ⟨k+1,g',by omega,by go_num,hi,hy,(ho.keep hb3).keep hb4,hI,(hm.keep hb3).keep hb4,by show _=_; rw [← hin.out,hst.out],bt (bt hb hb3 hb.size) hb4 (Nat.le_trans hb.size hb3.size)⟩
        case measure=>simp [intOf]; omega
       ·rw [if_neg hmx] at hst hI2
        have hd:=Lib.hid (decide_eq_false hmx)
        replace hmx:=Lib.hid hmx
        go_wp2_with (go_at_call 68; refine HT.out.mono ?_; rintro e w3 ⟨rr,rfl,hxo,hb3⟩; obtain ⟨xa,xc,rfl⟩:=hxo.shape)
        refine (HK.out _ _ (hxo.base (Nat.zero_le _))).mono ?_
        rintro e w4 ⟨rfl,hb4⟩
        have hlk:=hgh.out w4 ((hm.keep hb3).keep hb4)
        rw [hd.out] at hlk
        go_wp2_with fail
        refine (HK.out _ _ ((hxo.keep hb4).base (Nat.zero_le _))).mono ?_
        rintro e w5 ⟨rfl,hb5⟩
        have hb345:=btt (btt hb3 hb4) hb5
        have hm5:=hm.keep hb345
        obtain ⟨o5,hput,hm6⟩:=hm5.put hgs.out hxs hxi.out hmx.out
        have ho6:=(ho.keep hb345).map hm5 o5
        have hx6:=((hxo.keep (btt hb4 hb5)).map hm5 o5).base (Nat.zero_le _)
        have hb6:=below_set (bt hb hb345 hb.size) hg0 o5
        clear hm5 hb345 hb5 hb4 hb3 hxo hlk
        obtain ⟨W6,hW6⟩:=exE (ChangeMaps.setBlock w5 mb o5)
        rw [hW6] at hput hm6 ho6 hx6 hb6
        clear hW6
        have hs6:=hb6.size
        go_wp2_with (at_builtin; refine wpApp1SM rfl _ _ rfl rfl ho6 rfl hx6 rfl hm6 (by omega) hs6 ?_; intro v7 w7 ho7 hb7 hm7; have hbw7:=hb6.trans hb7)
        go_roundw
        case rel=>exact ⟨k+1,g' ++ [x],by omega,by go_num,by simp; omega,by show _=_; rw [getD_append_left' hi]; exact hy.out,by rw [List.length_append]; exact ho7,hI2,hm7,by show _=_; rw [← hin.out,hst.out],hbw7⟩
        case measure=>simp [intOf]; omega
      ·have he:=Lib.hid (clIn_end (y:=y) (g:=g') hlt)
       have hlen:=clIn_le y l g
       obtain rfl:k=l.length:=by omega
       clear ha hc
       go_wp2
       go_roundg f
       case measure=>omega
       case rel=>
        have e1:=hin.out
        rw [he.out] at e1
        exact ⟨i+1,g',by go_num,by omega,by omega,ho,hI,hm,by show _=_; rw [e1]; exact hg'.out,hb⟩
    ·have hg':=hg.out
     rw [clGo,if_neg hlt2] at hg'
     obtain rfl:g=G:=Option.some.inj hg'
     clear hg hg' ha hc hga hgc
     have HS:=sortOut ho hgp (by omega) (IsP.len5 hn hI)
     replace HS:=Lib.hid HS
     go_wp2_with (go_at_call 69; refine HS.out.mono ?_; rintro e w8 ⟨rfl,yss,hy1,hy2,hy3,hy4⟩)
     go_ret2
     exact ⟨_,rfl,yss,hy1,hy2,hy3,hb.trans (hy4.mono (Nat.le_refl _))⟩
end Go.Proofs.YtmikofeildnpdaaGreat

/- Generate. -/
namespace Go.Proofs.YtmikofeildnpdaaGreat
open Go.RowKit
theorem generate {w:World} {v:Value} {l:List (List Int)} (n:Int) (h:Intss w v l):Calls Tryz.prog 25 #[.int .i64 n,v] w (RII w (genR n l) (chkList n l)):=by
 by_cases hz:chkList n l=0
 ·obtain ⟨hn,hl,hP⟩:=chkList_ok hz
  obtain ⟨k,rfl⟩:∃ k:Nat,n=k:=⟨n.toNat,by omega⟩
  obtain ⟨G,hG,hI⟩:=clGo_start (n:=k) (by omega) (l:=l) (by simpa using hP)
  have hL:genR k l=(everyL k).filter (fun x=>decide (x∈G)):=by rw [genR,if_pos hz,closL,Int.toNat_natCast,hG]; rfl
  refine (generateOk k (by omega) (by omega) h hl (by simpa using hP) hG hI).mono ?_
  rintro e w' ⟨r,rfl,yss,h1,h2,h3,h4⟩
  have he:yss=genR k l:=by
   rw [hL]
   exact group_sorted (by omega) hI.2 h2 (h1.symm.nodup hI.1) fun x=>h1.mem_iff
  rw [he] at h3
  rw [hz]
  refine ⟨r,rfl,?_,h4⟩
  have:=h3.length
  rwa [← this] at h3
 ·exact generateBad n h hz
end Go.Proofs.YtmikofeildnpdaaGreat

/- The law PermutationChecks: the walk. -/
namespace Go.Proofs.YtmikofeildnpdaaGreat
open Go.RowKit
def Yes (w:World) (e:Ending) (w':World):Prop:=e = .returned (.bool true)∧Below w.heap.size w w'
theorem chk_isP {a:List Int} (h:chk a=0):IsP a.length a:=(chk_iff.1 h).2
theorem scat_length (idx vals out:List Int):∀ k,(scat idx vals out k).length=out.length
 | 0=>rfl
 | k+1=>by rw [scat_succ,List.length_set,scat_length idx vals out k]
theorem movedL_length (a v:List Int):(movedL a v).length=a.length:=by rw [movedL,scat_length,List.length_replicate]
end Go.Proofs.YtmikofeildnpdaaGreat
