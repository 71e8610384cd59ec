/- Texts of this claim, put together: MX. -/
import Derived.Test.YtmikofeildnpdaaGreatKZa
import Derived.Maps.Own
import Derived.DeepKeys5

set_option maxRecDepth 100000
set_option maxHeartbeats 12800000
namespace Go.Proofs.YtmikofeildnpdaaGreat
open Go.RowKit Go.ChangeMaps Go.MapKept Go.WideMaps
section
variable {κ ν:Type}
def MX (kv:κ→Value) (vv:ν→Value) (w:World) (b:Nat) (m:List (κ × ν)):Prop:=
 ∃es clock,w.heap[b]? = some (.map es clock)∧es.toList.map (fun e=>(e.key,e.val))=m.map (fun p=>(kv p.1,vv p.2))
structure KeyX (P:Program) (K:TypeId) (kv:κ→Value) (S:κ→Prop):Prop where
 law:Maps.Keyed P K
 has:∀x,S x→∃l,keyOf P K (kv x)=some l
 inj:∀x y,S x→S y→kv x=kv y→x=y
variable {P:Program} {K E M:TypeId} {kv:κ→Value} {vv:ν→Value} {S:κ→Prop} {m:List (κ × ν)} {x:κ} {w:World} {b:Nat}
theorem MX.lt (h:MX kv vv w b m):b < w.heap.size:=by
 obtain⟨es,clock,hb,_⟩:=h;exact(Array.getElem?_eq_some_iff.1 hb).1
theorem MX.keep {w':World}(h:MX kv vv w b m) (hb:w'.heap[b]? = w.heap[b]?):MX kv vv w' b m:=by
 obtain⟨es,clock,h1,h2⟩:=h;exact⟨es,clock,hb.trans h1,h2⟩
theorem MX.made (w:World):MX kv vv (w.alloc (.map #[] 0)) w.heap.size []:=⟨#[],0,heap_alloc_new w _,rfl⟩
theorem MX.find (hX:KeyX P K kv S) (hm:∀p∈m,S p.1) (hx:S x) {l:List MapEntry}(h:l.map (fun e=>(e.key,e.val))=m.map (fun p=>(kv p.1,vv p.2))) (w:World) :
  (x ∉ m.map Prod.fst∧(Instr.findKey K (kv x) l).run P w = .ok none w)∨(∃j v,(x,v)∈m∧(Instr.findKey K (kv x) l).run P w = .ok (some (j,vv v)) w∧m[j]? = some (x,v)):=by
 obtain⟨lx,hlx⟩:=hX.has x hx
 have hk:∀(j:Nat) (e:MapEntry),l[j]? = some e→∃p:κ × ν,m[j]? = some p∧e.key=kv p.1∧e.val=vv p.2:=by
  intro j e he;have h1:(l.map (fun e:MapEntry=>(e.key,e.val)))[j]? = some (e.key,e.val):=by rw[List.getElem?_map,he];rfl
  rw[h,List.getElem?_map] at h1;cases hp:m[j]? with
  | none=>rw[hp] at h1;cases h1
  | some p=>
   rw[hp] at h1;simp only[Option.map_some,Option.some.injEq,Prod.mk.injEq] at h1;exact⟨p,rfl,h1.1.symm,h1.2.symm⟩
 have hks:∀e∈l,∃k,keyOf P K e.key=some k:=fun e he=>by
  obtain⟨j,hj⟩:=List.mem_iff_getElem?.1 he;obtain⟨p,hp,h1,_⟩:=hk j e hj;rw[h1];exact hX.has _ (hm p (List.mem_of_getElem? hp))
 rcases hX.law.find w hlx l hks with⟨h1,h2⟩|⟨j,e,h1,h2,h3⟩
 ·refine .inl ⟨fun hin=>?_,h1⟩;obtain⟨p,hp,rfl⟩:=List.mem_map.1 hin;have:(kv p.1,vv p.2)∈l.map (fun e:MapEntry=>(e.key,e.val)):=h▸List.mem_map_of_mem (f:=fun p:κ × ν=>(kv p.1,vv p.2)) hp
  obtain⟨e,he,hek⟩:=List.mem_map.1 this;injection hek with h3 _;exact h2 e he h3
 ·obtain⟨q,hq,hq1,hq2⟩:=hk j e h2;have hqx:q.1=x:=hX.inj _ _ (hm q (List.mem_of_getElem? hq)) hx (by rw[←hq1,h3]);refine .inr ⟨j,q.2,?_,by rw[h1,hq2],?_⟩
  ·rw[←hqx];exact List.mem_of_getElem? hq
  ·rw[hq,←hqx]
theorem MX.look {z:Value}(hX:KeyX P K kv S) (hM:P.underlying M=some (.map K E)) (hz:(zeroValue E).run P w = .ok z w) (h:MX kv vv w b m) (hm:∀p∈m,S p.1) (hx:S x) :
  (x ∉ m.map Prod.fst∧(Instr.lookup M (.map (some b)) (kv x) false).run P w = .ok z w∧(Instr.lookup M (.map (some b)) (kv x) true).run P w = .ok (.tuple #[z,.bool false]) w)∨
  (∃v,(x,v)∈m∧(Instr.lookup M (.map (some b)) (kv x) false).run P w = .ok (vv v) w∧(Instr.lookup M (.map (some b)) (kv x) true).run P w = .ok (.tuple #[vv v,.bool true]) w):=by
 obtain⟨es,clock,hb,hk⟩:=h;obtain⟨lx,hlx⟩:=hX.has x hx;have hc:=fun e=>hX.law.check w e hlx;rcases MX.find hX hm hx hk w with⟨h1,h2⟩|⟨j,v,h1,h2,_⟩
 ·refine .inl ⟨h1,?_,?_⟩<;>simp[Instr.lookup,run_underlying hM,MapKept.run_getObj_map hb,hc,h2,Result.andThen,hz]
 ·refine .inr ⟨v,h1,?_,?_⟩<;>simp[Instr.lookup,run_underlying hM,MapKept.run_getObj_map hb,hc,h2,Result.andThen]
theorem MX.put (hX:KeyX P K kv S) (hM:P.underlying M=some (.map K E)) (h:MX kv vv w b m) (hm:∀p∈m,S p.1) (hx:S x) (hn:x ∉ m.map Prod.fst) (v:ν) :
  ∃o,(Instr.mapUpdate M (.map (some b)) (kv x) (vv v)).run P w = .ok () (setBlock w b o)∧MX kv vv (setBlock w b o) b (m ++ [(x,v)]):=by
 obtain⟨es,clock,hb,hk⟩:=h;obtain⟨lx,hlx⟩:=hX.has x hx;have hc:=hX.law.check w false hlx;rcases MX.find hX hm hx hk w with⟨h1,h2⟩|⟨j,v',h1,_⟩
 ·refine⟨.map (es.push ⟨kv x,vv v,clock⟩) (clock+1),?_,_,_,heap_setBlock_same hb _,?_⟩
  ·simp[Instr.mapUpdate,run_underlying hM,MapKept.run_getObj_map hb,hc,h2,MapKept.run_setObj_map _ hb,Result.andThen,setBlock]
  ·rw[Array.toList_push,List.map_append,hk,List.map_append];rfl
 ·exact absurd (List.mem_map.2 ⟨_,h1,rfl⟩) hn
end
theorem setBlock_keep {w:World}{b k:Nat}(o:Obj) (h:k ≠ b):(setBlock w b o).heap[k]? = w.heap[k]?:=by
 simp only[setBlock];rw[Array.getElem?_setIfInBounds_ne (by omega)]
theorem setBlock_below {w0 w:World}{B b:Nat}(h:Below B w0 w) (hB:B≤b) (o:Obj):Below B w0 (setBlock w b o):=
 h.trans ⟨rfl,rfl,rfl,by simp[setBlock],fun k hk=>setBlock_keep o (by omega)⟩
end Go.Proofs.YtmikofeildnpdaaGreat
