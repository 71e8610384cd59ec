/- Texts of this claim, put together: MX RK C0 C2 A7 A8 A9 B2 C3 E1. -/
import Derived.Maps.Own
import Derived.DeepKeys5
import Derived.StringKeys
import Derived.Lib.Builder
import Derived.Lib.AppendStr
import Derived.Lib.UnsafeStr
import Derived.Lib.Strings
import Derived.Lib.Slices
import Derived.Lib.Walk
import Derived.Laws.Externs
import Derived.Laws.IdiomCopy
import Derived.Shelf.Strings.Builder1
import Derived.Test.YtcnedkkcgdkioaaGreatKAc
import Derived.IntWalk
import Derived.Deep.LoopGhost
import Derived.Lib.LazyBuf

set_option maxRecDepth 100000
set_option maxHeartbeats 12800000
namespace Go.Proofs.YtcnedkkcgdkioaaGreat
open Go.RowKit Go.ChangeMaps Go.MapKept Go.WideMaps
section
variable {κ ν:Type}
def MX (kv:κ→Value) (vv:ν→Value) (w:World) (b:Nat) (m:List (κ × ν)):Prop:=
 ∃es clock,w.heap[b]? = some (.map es clock)∧es.toList.map (fun e=>(e.key,e.val))=m.map (fun p=>(kv p.1,vv p.2))
structure KeyX (P:Program) (K:TypeId) (kv:κ→Value) (S:κ→Prop):Prop where
 law:Maps.Keyed P K
 has:∀x,S x→∃l,keyOf P K (kv x)=some l
 inj:∀x y,S x→S y→kv x=kv y→x=y
variable {P:Program} {K E M:TypeId} {kv:κ→Value} {vv:ν→Value} {S:κ→Prop} {m:List (κ × ν)} {x:κ} {w:World} {b:Nat}
theorem MX.lt (h:MX kv vv w b m):b < w.heap.size:=by
 obtain⟨es,clock,hb,_⟩:=h;exact(Array.getElem?_eq_some_iff.1 hb).1
theorem MX.keep {w':World}(h:MX kv vv w b m) (hb:w'.heap[b]? = w.heap[b]?):MX kv vv w' b m:=by
 obtain⟨es,clock,h1,h2⟩:=h;exact⟨es,clock,hb.trans h1,h2⟩
theorem MX.made (w:World):MX kv vv (w.alloc (.map #[] 0)) w.heap.size []:=⟨#[],0,heap_alloc_new w _,rfl⟩
theorem MX.find (hX:KeyX P K kv S) (hm:∀p∈m,S p.1) (hx:S x) {l:List MapEntry}(h:l.map (fun e=>(e.key,e.val))=m.map (fun p=>(kv p.1,vv p.2))) (w:World) :
  (x ∉ m.map Prod.fst∧(Instr.findKey K (kv x) l).run P w = .ok none w)∨(∃j v,(x,v)∈m∧(Instr.findKey K (kv x) l).run P w = .ok (some (j,vv v)) w∧m[j]? = some (x,v)):=by
 obtain⟨lx,hlx⟩:=hX.has x hx
 have hk:∀(j:Nat) (e:MapEntry),l[j]? = some e→∃p:κ × ν,m[j]? = some p∧e.key=kv p.1∧e.val=vv p.2:=by
  intro j e he;have h1:(l.map (fun e:MapEntry=>(e.key,e.val)))[j]? = some (e.key,e.val):=by rw[List.getElem?_map,he];rfl
  rw[h,List.getElem?_map] at h1;cases hp:m[j]? with
  | none=>rw[hp] at h1;cases h1
  | some p=>
   rw[hp] at h1;simp only[Option.map_some,Option.some.injEq,Prod.mk.injEq] at h1;exact⟨p,rfl,h1.1.symm,h1.2.symm⟩
 have hks:∀e∈l,∃k,keyOf P K e.key=some k:=fun e he=>by
  obtain⟨j,hj⟩:=List.mem_iff_getElem?.1 he;obtain⟨p,hp,h1,_⟩:=hk j e hj;rw[h1];exact hX.has _ (hm p (List.mem_of_getElem? hp))
 rcases hX.law.find w hlx l hks with⟨h1,h2⟩|⟨j,e,h1,h2,h3⟩
 ·refine .inl ⟨fun hin=>?_,h1⟩;obtain⟨p,hp,rfl⟩:=List.mem_map.1 hin;have:(kv p.1,vv p.2)∈l.map (fun e:MapEntry=>(e.key,e.val)):=h▸List.mem_map_of_mem (f:=fun p:κ × ν=>(kv p.1,vv p.2)) hp
  obtain⟨e,he,hek⟩:=List.mem_map.1 this;injection hek with h3 _;exact h2 e he h3
 ·obtain⟨q,hq,hq1,hq2⟩:=hk j e h2;have hqx:q.1=x:=hX.inj _ _ (hm q (List.mem_of_getElem? hq)) hx (by rw[←hq1,h3]);refine .inr ⟨j,q.2,?_,by rw[h1,hq2],?_⟩
  ·rw[←hqx];exact List.mem_of_getElem? hq
  ·rw[hq,←hqx]
theorem MX.look {z:Value}(hX:KeyX P K kv S) (hM:P.underlying M=some (.map K E)) (hz:(zeroValue E).run P w = .ok z w) (h:MX kv vv w b m) (hm:∀p∈m,S p.1) (hx:S x) :
  (x ∉ m.map Prod.fst∧(Instr.lookup M (.map (some b)) (kv x) false).run P w = .ok z w∧(Instr.lookup M (.map (some b)) (kv x) true).run P w = .ok (.tuple #[z,.bool false]) w)∨
  (∃v,(x,v)∈m∧(Instr.lookup M (.map (some b)) (kv x) false).run P w = .ok (vv v) w∧(Instr.lookup M (.map (some b)) (kv x) true).run P w = .ok (.tuple #[vv v,.bool true]) w):=by
 obtain⟨es,clock,hb,hk⟩:=h;obtain⟨lx,hlx⟩:=hX.has x hx;have hc:=fun e=>hX.law.check w e hlx;rcases MX.find hX hm hx hk w with⟨h1,h2⟩|⟨j,v,h1,h2,_⟩
 ·refine .inl ⟨h1,?_,?_⟩<;>simp[Instr.lookup,run_underlying hM,MapKept.run_getObj_map hb,hc,h2,Result.andThen,hz]
 ·refine .inr ⟨v,h1,?_,?_⟩<;>simp[Instr.lookup,run_underlying hM,MapKept.run_getObj_map hb,hc,h2,Result.andThen]
theorem MX.put (hX:KeyX P K kv S) (hM:P.underlying M=some (.map K E)) (h:MX kv vv w b m) (hm:∀p∈m,S p.1) (hx:S x) (hn:x ∉ m.map Prod.fst) (v:ν) :
  ∃o,(Instr.mapUpdate M (.map (some b)) (kv x) (vv v)).run P w = .ok () (setBlock w b o)∧MX kv vv (setBlock w b o) b (m ++ [(x,v)]):=by
 obtain⟨es,clock,hb,hk⟩:=h;obtain⟨lx,hlx⟩:=hX.has x hx;have hc:=hX.law.check w false hlx;rcases MX.find hX hm hx hk w with⟨h1,h2⟩|⟨j,v',h1,_⟩
 ·refine⟨.map (es.push ⟨kv x,vv v,clock⟩) (clock+1),?_,_,_,heap_setBlock_same hb _,?_⟩
  ·simp[Instr.mapUpdate,run_underlying hM,MapKept.run_getObj_map hb,hc,h2,MapKept.run_setObj_map _ hb,Result.andThen,setBlock]
  ·rw[Array.toList_push,List.map_append,hk,List.map_append];rfl
 ·exact absurd (List.mem_map.2 ⟨_,h1,rfl⟩) hn
end
end Go.Proofs.YtcnedkkcgdkioaaGreat
namespace Go.Proofs.YtcnedkkcgdkioaaGreat
open Go.RowKit Go.ChangeMaps Go.MapKept Go.WideMaps
def WfR (r:List Int):Prop:=r.length=7∧∀x∈r,0≤x∧x≤1000000
theorem und_int : Tryz.prog.underlying 3=some (.int .i64):=by kernel_rfl
theorem typesSize:∃m,Tryz.prog.types.size=m+3:=⟨Tryz.prog.types.size - 3,by
 have:decide (2 < Tryz.prog.types.size)=true:=by kernel_rfl
 have:=of_decide_eq_true this
 omega⟩
end Go.Proofs.YtcnedkkcgdkioaaGreat
namespace Go.Proofs.YtcnedkkcgdkioaaGreat
open Go.RowKit Go.ChangeMaps Go.MapKept Go.WideMaps
def ixOf {κ:Type} [DecidableEq κ] (l:List κ) (x:κ):Nat:=l.idxOf x
def mvTo (m:List Int):Nat:=(m.getD 7 0).toNat
def rdOf (m:List Int):List Int:=m.take 7
def natI (l:List Nat):List Int:=l.map (fun n:Nat=>(n:Int))
def IM {κ:Type}(kv:κ→Value) (w:World) (b:Nat) (seen:List κ):Prop:=MX kv (fun n:Nat=>Value.int .i64 (n:Int)) w b seen.zipIdx
section
variable {κ:Type} [DecidableEq κ] {P:Program} {K E M:TypeId} {kv:κ→Value} {S:κ→Prop} {seen:List κ} {x:κ} {w:World} {b:Nat}
omit [DecidableEq κ] in
theorem zipIdx_fst (l:List κ):l.zipIdx.map Prod.fst=l:=by simp[List.zipIdx_map_fst]
theorem zipIdx_snd {l:List κ}(hn:l.Nodup) {x:κ}{v:Nat}(h:(x,v)∈l.zipIdx):v=ixOf l x:=by
 rw[List.mk_mem_zipIdx_iff_getElem?] at h;obtain⟨hv,hx⟩:=List.getElem?_eq_some_iff.1 h;rw[←hx];exact(hn.idxOf_getElem v hv).symm
omit [DecidableEq κ] in
theorem IM.keys (hs:∀y∈seen,S y):∀p∈seen.zipIdx,S p.1:=fun p hp=>hs _ (by have:=List.mem_map_of_mem (f:=Prod.fst) hp;rwa [zipIdx_fst] at this)
theorem IM.look (hX:KeyX P K kv S) (hM:P.underlying M=some (.map K E)) (hz:∀w,(zeroValue E).run P w = .ok (.int .i64 0) w) (h:IM kv w b seen) (hn:seen.Nodup) (hs:∀y∈seen,S y) (hx:S x) :
  (x ∉ seen∧(Instr.lookup M (.map (some b)) (kv x) false).run P w = .ok (.int .i64 0) w∧(Instr.lookup M (.map (some b)) (kv x) true).run P w = .ok (.tuple #[.int .i64 0,.bool false]) w)∨
  (x∈seen∧(Instr.lookup M (.map (some b)) (kv x) false).run P w = .ok (.int .i64 (ixOf seen x:Nat)) w∧(Instr.lookup M (.map (some b)) (kv x) true).run P w = .ok (.tuple #[.int .i64 (ixOf seen x:Nat),.bool true]) w):=by
 rcases MX.look hX hM (hz w) h (IM.keys hs) hx with⟨h1,h2⟩|⟨v,h1,h2⟩
 ·rw[zipIdx_fst] at h1;exact .inl ⟨h1,h2⟩
 ·have hv:=zipIdx_snd hn h1;subst hv;exact .inr ⟨by have:=List.mem_map_of_mem (f:=Prod.fst) h1;rwa [zipIdx_fst] at this,h2⟩
omit [DecidableEq κ] in
theorem IM.put (hX:KeyX P K kv S) (hM:P.underlying M=some (.map K E)) (h:IM kv w b seen) (hs:∀y∈seen,S y) (hx:S x) (hn:x ∉ seen) :
  ∃o,(Instr.mapUpdate M (.map (some b)) (kv x) (.int .i64 (seen.length:Nat))).run P w = .ok () (setBlock w b o)∧IM kv (setBlock w b o) b (seen ++ [x]):=by
 obtain⟨o,h1,h2⟩:=MX.put hX hM h (IM.keys hs) hx (by rw[zipIdx_fst];exact hn) seen.length;refine⟨o,h1,?_⟩;unfold IM;rw[List.zipIdx_append];simpa using h2
omit [DecidableEq κ] in
theorem IM.lt (h:IM kv w b seen):b < w.heap.size:=MX.lt h
omit [DecidableEq κ] in
theorem IM.keep {w':World}(h:IM kv w b seen) (hb:w'.heap[b]? = w.heap[b]?):IM kv w' b seen:=MX.keep h hb
end
end Go.Proofs.YtcnedkkcgdkioaaGreat
namespace Go.Proofs.YtcnedkkcgdkioaaGreat
open Go.RowKit Go.ChangeMaps Go.MapKept
theorem wp_region_qtail {P:Program}{id:Nat}{Q:Exit→Act→World→Prop}{a:Act}{w:World}{l:List Oper}(n:Nat) (hm:P.follows .mixedOrders=true) (hB:qtB n l=true) (hg:noGuard l=true)
  (hQ : ¬LetsOut Q) (h:∀ops',wpQuiet P ops' (fun w'=>∃k,w'=w.drewN k) (fun a'=>∀k,wpList P l.toArray Q (l.drop n) a' (w.drewN k)) (l.take n) a) :
  (Code.region id l.toArray true).wp P Q a w:=
 wp_region_any hm (any_qtail n hB hg (h _) hQ)
end Go.Proofs.YtcnedkkcgdkioaaGreat
namespace Go.Proofs.YtcnedkkcgdkioaaGreat
open Go.RowKit
def mvErr (n:Int) (len:Nat) (ms:List (List Int)) (i:Nat):Int:=
 if chkRd ((ms.getD i []).take 7) ≠ 0 then chkRd ((ms.getD i []).take 7) else if (ms.getD i []).getD 0 0 ≠ n then 22
 else if 0 < i∧0≤cmpL ((ms.getD (i - 1) []).take 7) ((ms.getD i []).take 7) then 14 else if (ms.getD i []).getD 7 0 < 0∨(len:Int)≤(ms.getD i []).getD 7 0 then 2 else 0
theorem mvErr_1 {n:Int}{len:Nat}{ms:List (List Int)}{i:Nat}{x:List Int}(hx:ms.getD i []=x) (h:chkRd (x.take 7) ≠ 0):mvErr n len ms i=chkRd (x.take 7):=by rw[mvErr,hx,if_pos h]
theorem mvErr_2 {n:Int}{len:Nat}{ms:List (List Int)}{i:Nat}{x:List Int}(hx:ms.getD i []=x) (h:chkRd (x.take 7)=0) (h2:x.getD 0 0 ≠ n):mvErr n len ms i=22:=by rw[mvErr,hx,if_neg (fun k=>k h),if_pos h2]
theorem mvErr_3 {n:Int}{len:Nat}{ms:List (List Int)}{i:Nat}{x y:List Int}(hx:ms.getD i []=x) (hy:ms.getD (i - 1) []=y) (h:chkRd (x.take 7)=0) (h2:x.getD 0 0=n) (hi:0 < i) (h3:0≤cmpL (y.take 7) (x.take 7)):mvErr n len ms i=14:=by
 rw[mvErr,hx,hy,if_neg (fun k=>k h),if_neg (fun k=>k h2),if_pos ⟨hi,h3⟩]
theorem mvErr_4 {n:Int}{len:Nat}{ms:List (List Int)}{i:Nat}{x:List Int}(hx:ms.getD i []=x) (h:chkRd (x.take 7)=0) (h2:x.getD 0 0=n) (h3 : ¬(0 < i∧0≤cmpL ((ms.getD (i - 1) []).take 7) (x.take 7))) (h4:x.getD 7 0 < 0∨(len:Int)≤x.getD 7 0):mvErr n len ms i=2:=by
 rw[mvErr,hx,if_neg (fun k=>k h),if_neg (fun k=>k h2),if_neg h3,if_pos h4]
theorem mvErr_5 {n:Int}{len:Nat}{ms:List (List Int)}{i:Nat}{x:List Int}(hx:ms.getD i []=x) (h:chkRd (x.take 7)=0) (h2:x.getD 0 0=n) (h3 : ¬(0 < i∧0≤cmpL ((ms.getD (i - 1) []).take 7) (x.take 7))) (h4 : ¬(x.getD 7 0 < 0∨(len:Int)≤x.getD 7 0)):mvErr n len ms i=0:=by
 rw[mvErr,hx,if_neg (fun k=>k h),if_neg (fun k=>k h2),if_neg h3,if_neg h4]
def fewA (ss:List (List (List Int))):Bool:=decide (ss.length≤8) && decide (movesN ss≤40)
theorem below_of_drew {w w':World}(h:Below w.drew.heap.size w.drew w'):Below w.heap.size w w':=((Below.refl _ w).drew).trans h
def MvOK (len:Nat) (m:List Int):Prop:=m.length=8∧(0≤m.getD 6 0∧m.getD 6 0≤31)∧0≤m.getD 7 0∧m.getD 7 0 < (len:Int)
def StOK (ss:List (List (List Int))):Prop:=∀s∈ss,∀m∈s,MvOK ss.length m
def gr3 (f:Int) (ks:List (List Int)):Bool:=ks.all fun k=>insideB f (k.getD 6 0)
def gr2 (ss:List (List (List Int))) (ms:List (List Int)):Bool:=ms.all fun m=>gr3 (m.getD 6 0) (ss.getD (m.getD 7 0).toNat [])
def growsB (ss:List (List (List Int))):Bool:=ss.all (gr2 ss)
theorem all_step {α:Type}{f:α→Bool}{l:List α}{k:Nat}(h:k < l.length) {d x:α}(hx:l.getD k d=x):(l.drop k).all f=(f x && (l.drop (k+1)).all f):=by rw[drop_cons h d,List.all_cons,hx]
theorem box_cell {w:World}{b j:Nat}{cs:Array Value}{t:TypeId}{v:Value}(h:w.heap[b]? = some (.cells cs t)) (hj:cs[j]? = some v):w.cell? ⟨b,j,none⟩=some v:=by rw[cell_of_row _ _ j _ _ _ h];exact hj
def mvGo (n:Int) (len:Nat) (ms:List (List Int)) (i:Nat):Nat→Int
 | 0=>0
 | k+1=>if mvErr n len ms i ≠ 0 then mvErr n len ms i else mvGo n len ms (i+1) k
def stErr (n:Int) (len:Nat) (ms:List (List Int)):Int:=if ms.length=0 then 19 else mvGo n len ms 0 ms.length
def ssGo (n:Int) (len:Nat):List (List (List Int))→Int
 | []=>0
 | s::r=>if stErr n len s ≠ 0 then stErr n len s else ssGo n len r
def chkA (n:Int) (ss:List (List (List Int))):Int:=
 if n < 1∨5 < n then 2 else if ss.length < 1∨256 < ss.length∨4096 < movesN ss then 5 else if ssGo n ss.length ss ≠ 0 then ssGo n ss.length ss else if growsB ss then 0 else 21
theorem mvGo_stop {n:Int}{len:Nat}{ms:List (List Int)}{i k:Nat}{e:Int}(h:mvErr n len ms i=e) (he:e ≠ 0):mvGo n len ms i (k+1)=e:=by rw[mvGo,h,if_pos he]
theorem mvGo_step {n:Int}{len:Nat}{ms:List (List Int)}{i k:Nat}(h:mvErr n len ms i=0):mvGo n len ms i (k+1)=mvGo n len ms (i+1) k:=by rw[mvGo,if_neg (fun q=>q h)]
theorem mvGo_zero {n:Int}{len:Nat}{ms:List (List Int)}:∀ {k i:Nat},mvGo n len ms i k=0→∀j,i≤j→j < i+k→mvErr n len ms j=0
 | 0,i,_,j,h1,h2=>by omega
 | k+1,i,h,j,h1,h2=>by
  by_cases he:mvErr n len ms i=0
  ·rw[mvGo_step he] at h;by_cases hj:j=i
   ·subst hj;exact he
   ·exact mvGo_zero h j (by omega) (by omega)
  ·rw[mvGo_stop rfl he] at h;exact absurd h he
theorem ssGo_stop {n:Int}{len:Nat}{s:List (List Int)}{r:List (List (List Int))}{e:Int}(h:stErr n len s=e) (he:e ≠ 0):ssGo n len (s::r)=e:=by rw[ssGo,h,if_pos he]
theorem ssGo_zero {n:Int}{len:Nat}:∀ {ss:List (List (List Int))},ssGo n len ss=0→∀s∈ss,stErr n len s=0
 | [],_,s,hs=>by simp at hs
 | x::r,h,s,hs=>by
  by_cases he:stErr n len x=0
  ·rw[ssGo,if_neg (fun q=>q he)] at h;rcases List.mem_cons.1 hs with rfl|hs
   ·exact he
   ·exact ssGo_zero h s hs
  ·rw[ssGo,if_pos he] at h;exact absurd h he
theorem chkSet_zero {n x:Int}(h:chkSet n x=0):(1≤n∧n≤5)∧0≤x∧x < twoI n:=by
 unfold chkSet at h;by_cases hp:procE n ≠ 0
 ·rw[if_pos hp] at h;cases h
 ·rw[if_neg hp] at h;by_cases hx:x < 0∨twoI n≤x
  ·rw[if_pos hx] at h;cases h
  ·refine⟨?_,by omega⟩;by_cases hn:n < 1∨5 < n
   ·exact absurd (show procE n ≠ 0 by rw[procE,if_pos hn];decide) hp
   ·omega
theorem twoI_le {n:Int}:twoI n≤32:=by unfold twoI;split;omega;split;omega;split;omega;split;omega;split;omega;omega
theorem chkRd_zero {r:List Int}(h:chkRd r=0):chkSet (r.getD 0 0) (r.getD 6 0)=0:=by
 unfold chkRd at h;by_cases hc:chkGr (r.getD 0 0) ((r.drop 1).take 5) ≠ 0
 ·rw[if_pos hc] at h;exact absurd h hc
 ·rwa [if_neg hc] at h
theorem mvErr_zero {n:Int}{len:Nat}{ms:List (List Int)}{i:Nat}(h:mvErr n len ms i=0) :
  chkRd ((ms.getD i []).take 7)=0∧(ms.getD i []).getD 0 0=n∧(0 < i→cmpL ((ms.getD (i - 1) []).take 7) ((ms.getD i []).take 7) < 0)∧0≤(ms.getD i []).getD 7 0∧(ms.getD i []).getD 7 0 < (len:Int):=by
 unfold mvErr at h;by_cases h1:chkRd ((ms.getD i []).take 7) ≠ 0
 ·rw[if_pos h1] at h;exact absurd h h1
 rw[if_neg h1] at h;by_cases h2:(ms.getD i []).getD 0 0 ≠ n
 ·rw[if_pos h2] at h;cases h
 rw[if_neg h2] at h;by_cases h3:0 < i∧0≤cmpL ((ms.getD (i - 1) []).take 7) ((ms.getD i []).take 7)
 ·rw[if_pos h3] at h;cases h
 rw[if_neg h3] at h;by_cases h4:(ms.getD i []).getD 7 0 < 0∨(len:Int)≤(ms.getD i []).getD 7 0
 ·rw[if_pos h4] at h;cases h
 exact⟨Decidable.not_not.1 h1,Decidable.not_not.1 h2,fun hi=>by
  by_cases hc:0≤cmpL ((ms.getD (i - 1) []).take 7) ((ms.getD i []).take 7)
  ·exact absurd ⟨hi,hc⟩ h3
  ·omega,by omega,by omega⟩
theorem getD_take7 {x:List Int}{j:Nat}(h:j < 7):(x.take 7).getD j 0=x.getD j 0:=by
 rw[List.getD_eq_getElem?_getD,List.getD_eq_getElem?_getD,List.getElem?_take_of_lt h]
theorem stOK_of {n:Int}{ss:List (List (List Int))}(h8:∀s∈ss,∀m∈s,m.length=8) (h:ssGo n ss.length ss=0):StOK ss:=by
 intro s hs m hm;have h1:=ssGo_zero h s hs;unfold stErr at h1;by_cases he:s.length=0
 ·rw[if_pos he] at h1;cases h1
 rw[if_neg he] at h1;obtain⟨j,hj,rfl⟩:=List.mem_iff_getElem.1 hm;obtain⟨c1,_,_,c4,c5⟩:=mvErr_zero (mvGo_zero h1 j (by omega) (by omega));rw[getD_eq hj] at c1 c4 c5;obtain⟨_,d1,d2⟩:=chkSet_zero (chkRd_zero c1);rw[getD_take7 (by decide)] at d1 d2;have:=twoI_le (n:=(s[j].take 7).getD 0 0)
 exact⟨h8 s hs _ hm,⟨d1,by omega⟩,c4,c5⟩
theorem AdvV.len8 {w:World}{v:Value}{n:Int}{ss:List (List (List Int))}(h:AdvV w v n ss):∀s∈ss,∀m∈s,m.length=8:=by
 obtain⟨sv,_,sa,sc,sb,so,_,_,hsc,_⟩:=h;intro s hs m hm;obtain⟨j,hj,rfl⟩:=List.mem_iff_getElem.1 hs;obtain⟨u,_,hu⟩:=hsc j hj;obtain⟨_,_,_,_,_,_,hc,_⟩:=hu;obtain⟨i,hi,rfl⟩:=List.mem_iff_getElem.1 hm;have:=(hc i (by rw[getD_eq hj];exact hi)).1
 rwa [getD_eq hj,getD_eq hi] at this
theorem box2 {w:World}{b:Nat}{t:TypeId}{u0 u1:Value}(h:w.heap[b]? = some (.cells #[u0,u1] t)):w.cell? ⟨b,0,none⟩=some u0∧w.cell? ⟨b,1,none⟩=some u1:=⟨box_cell h rfl,box_cell h rfl⟩
theorem box8 {w:World}{b:Nat}{t:TypeId}{u0 u1 u2 u3 u4 u5 u6 u7:Value}(h:w.heap[b]? = some (.cells #[u0,u1,u2,u3,u4,u5,u6,u7] t)) :
  w.cell? ⟨b,0,none⟩=some u0∧w.cell? ⟨b,1,none⟩=some u1∧w.cell? ⟨b,2,none⟩=some u2∧w.cell? ⟨b,3,none⟩=some u3∧w.cell? ⟨b,4,none⟩=some u4∧w.cell? ⟨b,5,none⟩=some u5∧w.cell? ⟨b,6,none⟩=some u6∧w.cell? ⟨b,7,none⟩=some u7:=
 ⟨box_cell h rfl,box_cell h rfl,box_cell h rfl,box_cell h rfl,box_cell h rfl,box_cell h rfl,box_cell h rfl,box_cell h rfl⟩
theorem stateCall {w:World}{v mv:Value}{n:Int}{ss:List (List (List Int))}{ms:List (List Int)}(hA:AdvV w v n ss) (hM:KS 8 w mv ms) (_hl:ss.length≤256) :
  Calls Tryz.prog 218 #[v,mv] w fun e w'=>e = .returned (.int .i64 (stErr n ss.length ms))∧Below w.heap.size w w':=by
 obtain⟨sv,rfl,sa,sc,sb,so,rfl,hsa,hsc,_⟩:=hA;obtain⟨ma,mc,mb,mo,rfl,hma,hmc,hml⟩:=hM;have hb:=(Below.refl w.heap.size w).alloc (Nat.le_refl _) (.cells #[.int .i64 n,.slice sa ss.length sc] 27);have k0:=heap_alloc_new w (.cells #[.int .i64 n,.slice sa ss.length sc] 27);obtain⟨W1,hW1⟩:=exF (w.alloc (.cells #[.int .i64 n,.slice sa ss.length sc] 27));obtain⟨b0,hb0⟩:=exF (w.heap.size);rw[←hW1] at hb k0;rw[←hb0] at k0;have hb0s:=(Array.getElem?_eq_some_iff.1 k0).1;replace hmc:CK 8 W1 mb mo ms:=hmc.keep hb;obtain⟨G,hG⟩:=exE (stErr n ss.length ms);have hbB:Below b0 w W1:=hb0▸hb;replace hW1:=qH hW1;replace hb0:=qH hb0;clear hsa hsc;by_cases hz:ms.length=0
 ·have hz':((ms.length:Int) == 0)=true:=by simp[hz]
  have hE:=qH (show stErr n ss.length ms=19 by rw[stErr,if_pos hz]);clear hz hG;go_enter Tryz.func218, Tryz.ntmps218
  go_wp2;rw[←hW1.out,←hb0.out];clear hW1 hb0;go_wp2;go_ret;first|exact⟨ret_int hE.out.symm,hb⟩|exact⟨ret_int hE.out.symm,hbB⟩
 ·have hz':((ms.length:Int) == 0)=false:=by
   have : ¬((ms.length:Int)=0):=(by omega);exact beq_eq_false_iff_ne.2 this
  have hg0:Hid (mvGo n ss.length ms 0 (ms.length - 0)=G):=by show _=_;rw[←hG,stErr,if_neg hz];rfl
  replace hG:=qH hG;clear hz;go_enter Tryz.func218, Tryz.ntmps218
  go_wp2;rw[←hW1.out,←hb0.out];clear hW1 hb0;go_wp2;go_loopw [13] (fun iv wr=>∃i:Nat,i≤ms.length∧iv = .int .i64 i∧Hid (mvGo n ss.length ms i (ms.length - i)=G)∧Below W1.heap.size W1 wr) (fun iv _=>ms.length - (intOf iv).toNat)
  case atStart=>exact⟨0,by omega,rfl,hg0,Below.refl _ _⟩
  case round=>
   clear hg0;obtain⟨i,hi,rfl,hg,hbr⟩:=hrel;have k1:=(hbr.block b0 hb0s).trans k0;by_cases hlt:i < ms.length
   ·obtain rfl:=hma (by omega);obtain⟨hx8,hxc⟩:=hmc i hlt;obtain⟨x,hx⟩:=exE (ms.getD i []);rw[hx] at hx8 hxc;obtain⟨y0,y1,y2,y3,y4,y5,y6,y7,rfl⟩:=eight hx8;obtain⟨c0,c1,c2,c3,c4,c5,c6,c7⟩:=(hxc.keep hbr).all8;have hi1:ms.length - i=(ms.length - (i+1))+1:=(by omega);rw[hi1] at hg;clear hx8 hxc hi1;replace hx:=qH hx;obtain⟨E,hE⟩:=exE (chkRd [y0,y1,y2,y3,y4,y5,y6]);have HC:=fun W=>roundCheck y0 y1 y2 y3 y4 y5 y6 W;rw[hE] at HC;replace HC:=qH HC;replace hE:=qH hE;obtain⟨W2,hW2⟩:=exF (wr.alloc (.cells #[.int .i64 y0,.int .i64 y1,.int .i64 y2,.int .i64 y3,.int .i64 y4,.int .i64 y5,.int .i64 y6,.int .i64 y7] 178));obtain⟨b2,hb2⟩:=exF (wr.heap.size);have hbr2:Below W1.heap.size W1 W2:=(by rw[hW2];exact hbr.alloc hbr.size _);have m0:W2.heap[b2]? = some (.cells #[.int .i64 y0,.int .i64 y1,.int .i64 y2,.int .i64 y3,.int .i64 y4,.int .i64 y5,.int .i64 y6,.int .i64 y7] 178):=(by rw[hW2,hb2];exact heap_alloc_new _ _);have hb2s:=(Array.getElem?_eq_some_iff.1 m0).1;obtain⟨p0,p1,p2,p3,p4,p5,p6,p7⟩:=box8 m0;replace hW2:=qH hW2;replace hb2:=qH hb2;go_wp2_with fail
    rw[←hW2.out,←hb2.out];clear hW2 hb2 c0 c1 c2 c3 c4 c5 c6 c7;go_wp2_with fail
    clear p0 p1 p2 p3 p4 p5 p6 p7;refine(HC.out _).mono ?_;rintro e w3 ⟨rfl,hb3⟩;have hbr3:=bt hbr2 hb3 hbr2.size;have k3:=(hbr3.block b0 hb0s).trans k0;have m3:=(hb3.block b2 hb2s).trans m0;have hb2s3:=(Array.getElem?_eq_some_iff.1 m3).1;obtain⟨d0,d1⟩:=box2 k3;obtain⟨p0,p1,p2,p3,p4,p5,p6,p7⟩:=box8 m3;clear k1 m0 hb2s;by_cases hz:E=0
    ·subst hz;have hz1:((0:Int) != 0)=false:=rfl;by_cases hn:y0=n
     ·have hn':(y0 != n)=false:=(by simp[hn]);replace hn:=qH hn;by_cases hi0:0 < i
      ·have hi1:decide (0 < i)=true:=decide_eq_true hi0;obtain⟨hy8,hyc⟩:=hmc (i - 1) (by omega);obtain⟨y,hy⟩:=exE (ms.getD (i - 1) []);rw[hy] at hy8 hyc;obtain⟨z0,z1,z2,z3,z4,z5,z6,z7,rfl⟩:=eight hy8;obtain⟨j,rfl⟩:∃j,i=j+1:=⟨i - 1,by omega⟩;rw[Nat.add_sub_cancel] at hyc hy;have HM:=fun W=>roundCompare z0 z1 z2 z3 z4 z5 z6 y0 y1 y2 y3 y4 y5 y6 W;obtain⟨C,hC⟩:=exE (cmpL [z0,z1,z2,z3,z4,z5,z6] [y0,y1,y2,y3,y4,y5,y6]);rw[hC] at HM;replace HM:=qH HM;replace hC:=qH hC;replace hy:=qH hy;obtain⟨e0,e1,e2,e3,e4,e5,e6,_⟩:=(hyc.keep hbr3).all8;have hwr:IntKind.i64.wrap (j:Int)=(j:Int):=IntWalk.i64_in _ (by omega);have hj0:(0:Int)≤(j:Int):=Int.natCast_nonneg _;have hj1:(j:Int) < (ms.length:Int):=by omega
       have h3:Hid (mvErr n ss.length ms (j+1)=if 0≤C then 14 else if y7 < 0∨(ss.length:Int)≤y7 then 2 else 0):=by
        show _=_;have hy':ms.getD (j+1 - 1) [] = [z0,z1,z2,z3,z4,z5,z6,z7]:=(by rw[Nat.add_sub_cancel];exact hy.out);by_cases hc0:0≤C
        ·rw[if_pos hc0];exact mvErr_3 hx.out hy' hE.out hn.out (by omega) (by show 0≤cmpL [z0,z1,z2,z3,z4,z5,z6] [y0,y1,y2,y3,y4,y5,y6];rw[hC.out];exact hc0)
        ·have hc3 : ¬(0 < j+1∧0≤cmpL ((ms.getD (j+1 - 1) []).take 7) ([y0,y1,y2,y3,y4,y5,y6,y7].take 7)):=fun k=>by
          have k2:=k.2;rw[hy'] at k2;have k3:0≤cmpL [z0,z1,z2,z3,z4,z5,z6] [y0,y1,y2,y3,y4,y5,y6]:=k2;rw[hC.out] at k3;exact hc0 k3
         rw[if_neg hc0];by_cases hc4:y7 < 0∨(ss.length:Int)≤y7
         ·rw[if_pos hc4];exact mvErr_4 hx.out hE.out hn.out hc3 hc4
         ·rw[if_neg hc4];exact mvErr_5 hx.out hE.out hn.out hc3 hc4
       clear hy8 hyc hy hC;go_wp2;go_still_tail 11,(by kernel_rfl)
       change wpList _ _ _ _ _ w3.drew;clear hwr;go_wp2_with fail
       clear p0 p1 p2 p3 p4 p5 p6 p7 e0 e1 e2 e3 e4 e5 e6;refine(HM.out _).mono ?_;rintro e w4 ⟨rfl,hb4⟩;replace hb4:=below_of_drew hb4;have hbr4:=bt hbr3 hb4 hbr3.size;have m4:=(hb4.block b2 hb2s3).trans m3;have k4:=(hbr4.block b0 hb0s).trans k0;obtain⟨_,_,_,_,_,_,_,p7⟩:=box8 m4;obtain⟨_,d1⟩:=box2 k4;clear m4 k4 m3 k3 hb4 hbr3;by_cases hc0:0≤C
       ·have hc1:decide (0≤C)=true:=decide_eq_true hc0;have hF:=qH (show stErr n ss.length ms=14 by rw[hG.out,←hg.out,mvGo_stop (h3.out.trans (if_pos hc0)) (by decide)]);clear h3 hg hc0;go_wp2;go_ret;exact⟨ret_int hF.out.symm,bt hb hbr4 hb.size⟩
       ·have hc1:decide (0≤C)=false:=decide_eq_false hc0;by_cases q1:y7 < 0
        ·have q1':decide (y7 < 0)=true:=decide_eq_true q1;have hF:=qH (show stErr n ss.length ms=2 by rw[hG.out,←hg.out,mvGo_stop (h3.out.trans ((if_neg hc0).trans (if_pos (.inl q1)))) (by decide)]);clear h3 hg hc0 q1;go_wp2;go_ret;exact⟨ret_int hF.out.symm,bt hb hbr4 hb.size⟩
        ·have q1':decide (y7 < 0)=false:=decide_eq_false q1;by_cases q2:(ss.length:Int)≤y7
         ·have q2':decide ((ss.length:Int)≤y7)=true:=decide_eq_true q2;have hF:=qH (show stErr n ss.length ms=2 by rw[hG.out,←hg.out,mvGo_stop (h3.out.trans ((if_neg hc0).trans (if_pos (.inr q2)))) (by decide)]);clear h3 hg hc0 q1 q2;go_wp2;go_ret;exact⟨ret_int hF.out.symm,bt hb hbr4 hb.size⟩
         ·have q2':decide ((ss.length:Int)≤y7)=false:=decide_eq_false q2;have hF:Hid (mvGo n ss.length ms (j+1+1) (ms.length - (j+1+1))=G):=(by show _=_;rw[←hg.out,mvGo_step (h3.out.trans ((if_neg hc0).trans (if_neg (by omega))))]);clear h3 hg hc0 q1 q2;go_wp2;go_roundw
          case rel=>exact⟨j+1+1,by omega,by go_num,hF,hbr4⟩
          case measure=>simp[intOf];omega
      ·have hi1:decide (0 < i)=false:=decide_eq_false hi0;have hc3 : ¬(0 < i∧0≤cmpL ((ms.getD (i - 1) []).take 7) ([y0,y1,y2,y3,y4,y5,y6,y7].take 7)):=fun k=>hi0 k.1
       have h3:Hid (mvErr n ss.length ms i=if y7 < 0∨(ss.length:Int)≤y7 then 2 else 0):=by
        show _=_;by_cases hc4:y7 < 0∨(ss.length:Int)≤y7
        ·rw[if_pos hc4];exact mvErr_4 hx.out hE.out hn.out hc3 hc4
        ·rw[if_neg hc4];exact mvErr_5 hx.out hE.out hn.out hc3 hc4
       clear hc3 hi0 m3 k3;go_wp2;go_quiet (fail)
       by_cases q1:y7 < 0
       ·have q1':decide (y7 < 0)=true:=decide_eq_true q1;have hF:=qH (show stErr n ss.length ms=2 by rw[hG.out,←hg.out,mvGo_stop (h3.out.trans (if_pos (.inl q1))) (by decide)]);clear h3 hg q1;go_wp2;go_ret;exact⟨ret_int hF.out.symm,below_drewN (bt hb hbr3 hb.size) _⟩
       ·have q1':decide (y7 < 0)=false:=decide_eq_false q1;by_cases q2:(ss.length:Int)≤y7
        ·have q2':decide ((ss.length:Int)≤y7)=true:=decide_eq_true q2;have hF:=qH (show stErr n ss.length ms=2 by rw[hG.out,←hg.out,mvGo_stop (h3.out.trans (if_pos (.inr q2))) (by decide)]);clear h3 hg q1 q2;go_wp2;go_ret;exact⟨ret_int hF.out.symm,below_drewN (bt hb hbr3 hb.size) _⟩
        ·have q2':decide ((ss.length:Int)≤y7)=false:=decide_eq_false q2;have hF:Hid (mvGo n ss.length ms (i+1) (ms.length - (i+1))=G):=(by show _=_;rw[←hg.out,mvGo_step (h3.out.trans (if_neg (by omega)))]);clear h3 hg q1 q2;go_wp2;go_roundw
         case rel=>exact⟨i+1,by omega,by go_num,hF,below_drewN hbr3 _⟩
         case measure=>simp[intOf];omega
     ·have hn':(y0 != n)=true:=(by simpa using hn);have hF:=qH (show stErr n ss.length ms=22 by rw[hG.out,←hg.out,mvGo_stop (mvErr_2 hx.out hE.out hn) (by decide)]);clear hg hx hE hn;go_wp2;go_ret;exact⟨ret_int hF.out.symm,bt hb hbr3 hb.size⟩
    ·have hz':(E != 0)=true:=by simpa using hz
     have hF:=qH (show stErr n ss.length ms=E by
      rw[hG.out,←hg.out];have e1:=mvErr_1 (n:=n) (len:=ss.length) hx.out (by rw[show([y0,y1,y2,y3,y4,y5,y6,y7]:List Int).take 7 = [y0,y1,y2,y3,y4,y5,y6] from rfl,hE.out];exact hz);exact mvGo_stop (e1.trans hE.out) hz)
     clear hg hx hE hz;go_wp2;go_ret;exact⟨ret_int hF.out.symm,bt hb hbr3 hb.size⟩
   ·obtain rfl:i=ms.length:=(by omega);have hF:=qH (show stErr n ss.length ms=0 by rw[hG.out,←hg.out,Nat.sub_self,mvGo]);clear hg;go_wp2;go_ret;exact⟨ret_int hF.out.symm,bt hb hbr hb.size⟩
end Go.Proofs.YtcnedkkcgdkioaaGreat
namespace Go.Proofs.YtcnedkkcgdkioaaGreat
open Go.RowKit Go.ChangeMaps Go.MapKept
theorem natI_getD (l:List Nat) (j:Nat):(natI l).getD j 0=((l.getD j 0:Nat):Int):=by
 simp only[natI,List.getD_eq_getElem?_getD,List.getElem?_map];cases l[j]?<;>simp
def ClsOK (ss:List (List (List Int))):Prop:=ss.length≤90∧movesN ss≤90∧0 < ss.length∧∀s∈ss,0 < s.length∧∀m∈s,WfR (rdOf m)∧m.length=8∧0≤m.getD 7 0∧m.getD 7 0 < (ss.length:Int)
end Go.Proofs.YtcnedkkcgdkioaaGreat
namespace Go.Proofs.YtcnedkkcgdkioaaGreat
open Go.RowKit
def EI (_:World) (cs:List Value) (x:List Int):Prop:=cs=x.map (Value.int .i64)
theorem EI.stab (E:TypeId):Stab E EI:=fun _ _ _ _ h _=>h
theorem flat_get {k:Nat}:∀ {xs:List (List Int)},(∀x∈xs,x.length=k)→∀ {j:Nat}{x:List Int},xs[j]? = some x→(xs.flatten.drop (j * k)).take k=x
 | [],_,j,x,h=>by simp at h
 | a::r,hl,0,x,h=>by
  simp only[List.getElem?_cons_zero,Option.some.injEq] at h;subst h;rw[Nat.zero_mul,List.drop_zero,List.flatten_cons,←hl a (by simp),List.take_left]
 | a::r,hl,j+1,x,h=>by
  rw[List.getElem?_cons_succ] at h;rw[List.flatten_cons,Nat.succ_mul,Nat.add_comm,←List.drop_drop];have:(a++r.flatten).drop k=r.flatten:=by rw[←hl a (by simp),List.drop_left]
  rw[this];exact flat_get (fun y hy=>hl y (by simp[hy])) h
theorem flat_len {k:Nat}:∀ {xs:List (List Int)},(∀x∈xs,x.length=k)→xs.flatten.length=xs.length * k
 | [],_=>by simp
 | a::r,hl=>by
  rw[List.flatten_cons,List.length_append,hl a (by simp),flat_len (fun y hy=>hl y (by simp[hy])),List.length_cons,Nat.succ_mul,Nat.add_comm]
theorem OwX.ofFlat {E:TypeId}{k:Nat}{w:World}{B n:Nat}{v:Value}{xs:List (List Int)}(h:w.ownsRow B E k v n (xs.flatten.map (Value.int .i64))) (hl:∀x∈xs,x.length=k) (hn:xs.length=n):OwX E k EI w B v n xs:=by
 refine⟨_,h,hn,fun u hu=>?_,fun j x hj=>?_⟩
 ·obtain⟨i,_,rfl⟩:=List.mem_map.1 hu;rfl
 ·show _=_;rw[←List.map_drop,←List.map_take,flat_get hl hj]
theorem KS.flat {k:Nat}{w:World}{b off:Nat}{xs:List (List Int)}(h:CK k w b off xs):∀j u,(xs.flatten.map (Value.int .i64))[j]? = some u→w.cell? ⟨b,off+j,none⟩=some u:=by
 have hl:∀x∈xs,x.length=k:=fun x hx=>by
  obtain⟨i,hi,rfl⟩:=List.getElem_of_mem hx;have:=(h i hi).1
  rwa [getD_eq hi] at this
 intro j u hj
 obtain⟨y,hy,rfl⟩:∃y,xs.flatten[j]? = some y∧Value.int .i64 y=u:=by
  rw[List.getElem?_map] at hj;cases hx:xs.flatten[j]? with
  | none=>rw[hx] at hj;cases hj
  | some y=>rw[hx] at hj;simp only[Option.map_some,Option.some.injEq] at hj;exact⟨y,rfl,hj⟩
 have hjl:=(List.getElem?_eq_some_iff.1 hy).1;rw[flat_len hl] at hjl
 have hk:0 < k:=by
  rcases Nat.eq_zero_or_pos k with rfl|h'
  ·simp at hjl
  ·exact h'
 have hq:j / k < xs.length:=Nat.div_lt_of_lt_mul (by rw[Nat.mul_comm];exact hjl);obtain⟨x,hx⟩:∃x,xs[j / k]? = some x:=⟨_,List.getElem?_eq_some_iff.2 ⟨hq,rfl⟩⟩;have h1:=flat_get hl hx;obtain⟨h2,h3⟩:=h _ hq;have hxd:xs.getD (j / k) []=x:=by rw[List.getD_eq_getElem?_getD,hx];rfl
 rw[hxd] at h2 h3;have hm:j % k < k:=Nat.mod_lt _ hk;have h4:=h3 (j % k) (by omega);have hdm:j / k * k+j % k=j:=by rw[Nat.mul_comm];exact Nat.div_add_mod j k
 have h5:x.getD (j % k) 0=y:=by
  rw[←h1,List.getD_eq_getElem?_getD,List.getElem?_take,if_pos hm,List.getElem?_drop,hdm,hy];rfl
 rw[h5,Nat.add_assoc,hdm] at h4;exact h4
theorem KS.lens {k:Nat}{w:World}{b off:Nat}{xs:List (List Int)}(h:CK k w b off xs):∀x∈xs,x.length=k:=fun x hx=>by
 obtain⟨i,hi,rfl⟩:=List.getElem_of_mem hx;have:=(h i hi).1
 rwa [getD_eq hi] at this
theorem elemMv:ElemK Tryz.prog 180 178 (.agg #[.int .i64 0,.int .i64 0,.int .i64 0,.int .i64 0,.int .i64 0,.int .i64 0,.int .i64 0,.int .i64 0]) 8 64:=⟨by kernel_rfl,by kernel_rfl,rfl⟩
theorem elemRd:ElemK Tryz.prog 77 148 (.agg #[.int .i64 0,.int .i64 0,.int .i64 0,.int .i64 0,.int .i64 0,.int .i64 0,.int .i64 0]) 7 56:=⟨by kernel_rfl,by kernel_rfl,rfl⟩
theorem elemRs:ElemK Tryz.prog 133 77 (.slice none 0 0) 1 24:=⟨by kernel_rfl,by kernel_rfl,rfl⟩
theorem cloneMv {w:World}(ad:Addr) (n c:Nat) (news:List Value) (hl:news.length=n * 8) (hn:n≤1000000) (hc:∀j u,news[j]? = some u→w.cell? (ad.add j)=some u) (h1:∀u∈news,u.oneCell'=true) :
  Calls Tryz.prog 133 #[.slice (some ad) n c] w fun e w'=>∃v',e = .returned v'∧w'.ownsRow w.heap.size 178 8 v' n news∧Below w.heap.size w w':=by
 have q22:=fun(w:World)=>Lib.run_eql_slice_nil (P:=Tryz.prog) w 180 178 (some ad) n c 0 0 elemMv.1;obtain⟨i0,hi,hz0,hz1,hz2⟩:=info_parts elemMv.2.1;have A:Hid (∀j u,news[j]? = some u→w.cell? (ad.add j)=some u):=hc;clear hc;have hn':n * 64≤140737488355328:=by omega
 go_enter Tryz.func133, Tryz.ntmps133
 go_wp2_with (at_builtin;refine wpList_append_own _ rfl _ _ 180 rfl w.heap.size 178 i0 _ 8 64 elemMv.1 hi hz0 hz1 hz2 elemMv.2.2 (by decide) _ _ _ rfl (World.ownsRow_made w #[] 0 (Nat.le_refl _) (Nat.zero_le _) (by simp)) ad n c news rfl ?qc1 ?qc2 ?qc3 ?qc4 ?qc5 ?qc6 ?_)
 case qc1=>exact hl
 case qc2=>
  intro j u hj;exact Lib.cell?_alloc_some _ (A.out j u hj)
 case qc3=>exact h1
 case qc4=>unfold maxLen;omega
 case qc5=>rw[Nat.zero_add];exact hn'
 case qc6=>simp
 intro v' w1 hown hgrow hnil;go_wp2;go_ret;refine⟨v',rfl,by simpa using hown,?_⟩;exact((Below.refl _ w).alloc (Nat.le_refl _) _).grown hgrow (by simp) (by intro k hk;simp[Value.ownBlock] at hk;omega)
theorem cloneMvNil {w:World}(n c:Nat):Calls Tryz.prog 133 #[.slice none n c] w fun e w'=>e = .returned (.slice none 0 0)∧w'=w:=by
 have q22:=fun(w:World)=>Lib.run_eql_slice_nil (P:=Tryz.prog) w 180 178 none n c 0 0 elemMv.1;go_enter Tryz.func133, Tryz.ntmps133
 go_wp2;go_ret;exact⟨rfl,rfl⟩
theorem cloneMvK {w:World}{v:Value}{xs:List (List Int)}(h:KS 8 w v xs) (hn:xs.length≤1000000) :
  Calls Tryz.prog 133 #[v] w fun e w'=>∃u,e = .returned u∧OwX 178 8 EI w' w.heap.size u xs.length xs∧Below w.heap.size w w':=by
 obtain⟨a,c,b,off,rfl,ha,hc,_⟩:=h;have hlens:=KS.lens hc;cases a with
 | none=>
  have h0:xs.length=0:=by
   rcases Nat.eq_zero_or_pos xs.length with h'|h'
   ·exact h'
   ·cases ha h'
  obtain rfl:=List.length_eq_zero_iff.1 h0;refine(cloneMvNil 0 c).mono ?_;rintro e w' ⟨rfl,rfl⟩;exact⟨_,rfl,OwX.nil _ _,Below.refl _ _⟩
 | some ad=>
  refine(cloneMv ad xs.length c (xs.flatten.map (Value.int .i64)) (by rw[List.length_map,flat_len hlens]) hn ?_ ?_).mono ?_
  ·intro j u hj
   have hpos:0 < xs.length:=by
    rcases Nat.eq_zero_or_pos xs.length with h'|h'
    ·rw[List.length_eq_zero_iff.1 h'] at hj;simp at hj
    ·exact h'
   have:=ha hpos
   injection this with this;subst this;rw[Addr.add_lit];exact KS.flat hc j u hj
  ·intro u hu;obtain⟨i,_,rfl⟩:=List.mem_map.1 hu;rfl
  ·rintro e w' ⟨u,rfl,h1,h2⟩;exact⟨u,rfl,OwX.ofFlat h1 hlens rfl,h2⟩
theorem cloneRd {w:World}(ad:Addr) (n c:Nat) (news:List Value) (hl:news.length=n * 7) (hn:n≤1000000) (hc:∀j u,news[j]? = some u→w.cell? (ad.add j)=some u) (h1:∀u∈news,u.oneCell'=true) :
  Calls Tryz.prog 76 #[.slice (some ad) n c] w fun e w'=>∃v',e = .returned v'∧w'.ownsRow w.heap.size 148 7 v' n news∧Below w.heap.size w w':=by
 have q22:=fun(w:World)=>Lib.run_eql_slice_nil (P:=Tryz.prog) w 77 148 (some ad) n c 0 0 elemRd.1;obtain⟨i0,hi,hz0,hz1,hz2⟩:=info_parts elemRd.2.1;have A:Hid (∀j u,news[j]? = some u→w.cell? (ad.add j)=some u):=hc;clear hc;have hn':n * 56≤140737488355328:=by omega
 go_enter Tryz.func76, Tryz.ntmps76
 go_wp2_with (at_builtin;refine wpList_append_own _ rfl _ _ 77 rfl w.heap.size 148 i0 _ 7 56 elemRd.1 hi hz0 hz1 hz2 elemRd.2.2 (by decide) _ _ _ rfl (World.ownsRow_made w #[] 0 (Nat.le_refl _) (Nat.zero_le _) (by simp)) ad n c news rfl ?qc1 ?qc2 ?qc3 ?qc4 ?qc5 ?qc6 ?_)
 case qc1=>exact hl
 case qc2=>
  intro j u hj;exact Lib.cell?_alloc_some _ (A.out j u hj)
 case qc3=>exact h1
 case qc4=>unfold maxLen;omega
 case qc5=>rw[Nat.zero_add];exact hn'
 case qc6=>simp
 intro v' w1 hown hgrow hnil;go_wp2;go_ret;refine⟨v',rfl,by simpa using hown,?_⟩;exact((Below.refl _ w).alloc (Nat.le_refl _) _).grown hgrow (by simp) (by intro k hk;simp[Value.ownBlock] at hk;omega)
theorem cloneRdNil {w:World}(n c:Nat):Calls Tryz.prog 76 #[.slice none n c] w fun e w'=>e = .returned (.slice none 0 0)∧w'=w:=by
 have q22:=fun(w:World)=>Lib.run_eql_slice_nil (P:=Tryz.prog) w 77 148 none n c 0 0 elemRd.1;go_enter Tryz.func76, Tryz.ntmps76
 go_wp2;go_ret;exact⟨rfl,rfl⟩
theorem cloneRdK {w:World}{v:Value}{xs:List (List Int)}(h:KS 7 w v xs) (hn:xs.length≤1000000) :
  Calls Tryz.prog 76 #[v] w fun e w'=>∃u,e = .returned u∧OwX 148 7 EI w' w.heap.size u xs.length xs∧Below w.heap.size w w':=by
 obtain⟨a,c,b,off,rfl,ha,hc,_⟩:=h;have hlens:=KS.lens hc;cases a with
 | none=>
  have h0:xs.length=0:=by
   rcases Nat.eq_zero_or_pos xs.length with h'|h'
   ·exact h'
   ·cases ha h'
  obtain rfl:=List.length_eq_zero_iff.1 h0;refine(cloneRdNil 0 c).mono ?_;rintro e w' ⟨rfl,rfl⟩;exact⟨_,rfl,OwX.nil _ _,Below.refl _ _⟩
 | some ad=>
  refine(cloneRd ad xs.length c (xs.flatten.map (Value.int .i64)) (by rw[List.length_map,flat_len hlens]) hn ?_ ?_).mono ?_
  ·intro j u hj
   have hpos:0 < xs.length:=by
    rcases Nat.eq_zero_or_pos xs.length with h'|h'
    ·rw[List.length_eq_zero_iff.1 h'] at hj;simp at hj
    ·exact h'
   have:=ha hpos
   injection this with this;subst this;rw[Addr.add_lit];exact KS.flat hc j u hj
  ·intro u hu;obtain⟨i,_,rfl⟩:=List.mem_map.1 hu;rfl
  ·rintro e w' ⟨u,rfl,h1,h2⟩;exact⟨u,rfl,OwX.ofFlat h1 hlens rfl,h2⟩
end Go.Proofs.YtcnedkkcgdkioaaGreat
