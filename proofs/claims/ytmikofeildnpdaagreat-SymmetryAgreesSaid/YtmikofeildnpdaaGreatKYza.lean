/- Texts of this claim, put together: SW SY SX. -/
import Derived.Test.YtmikofeildnpdaaGreatKYz
import Derived.Test.YtmikofeildnpdaaGreatKYs
import Derived.Test.YtmikofeildnpdaaGreatKYq
import Derived.OwnWalkIn

set_option maxRecDepth 100000
set_option maxHeartbeats 12800000
/- inclusion.search: the loop variable's box. -/
namespace Go.Proofs.YtmikofeildnpdaaGreat
open Go.RowKit Go.ChangeMaps Go.MapKept Go.WideMaps
attribute [local go_sem] Oper.semAt_some
theorem foldl1 {A:Array Value} {p:Nat} {v:Value}:Array.foldl (fun t (x:Nat × Value)=>t.setIfInBounds x.fst x.snd) A (#[p].zip #[v])=A.setIfInBounds p v:=by rw [show #[p].zip #[v] = #[(p,v)] from List.zip_toArray [p] [v]]; simp
theorem snAssign {v0 v1 v2 v3 v4 v5 v6 v7 v8 v9 v10 v11 v12 v13 v14 v15 v16 v17 v18 v19 v20 v21 v22 v23 v24 v25 v26 v27 v28 v29 v30 v31 v32 v33 v34 v35 v36 v37 v38 v39 v40 v41 v43 v44 v45 v46 v47 v48 v49 v50 v51 v52 v53 v54 v55 v56 v57 v58 v59 v60 v61 v62 v63 v64 v65 v66 v67 v68 v69 v70 v71 v72 v73 v74 v75 v76 v77 v78 v79 v80 v81 v82:Value} {x0 x1 x2 x3 x4 x5 x6 x7 x8:Int} {l:Nat} {W:World} {K:Act→World→Prop}
  (hK:K { tmps:=(List.toArray (v0::v1::v2::v3::v4::v5::v6::v7::v8::v9::v10::v11::(.pointer (some ⟨W.heap.size,0,none⟩))::v13::v14::v15::v16::v17::v18::v19::v20::v21::v22::v23::v24::v25::v26::v27::v28::v29::v30::v31::v32::v33::v34::v35::v36::v37::v38::v39::v40::v41::(.agg #[.int .i64 x0,.int .i64 x1,.int .i64 x2,.int .i64 x3,.int .i64 x4,.int .i64 x5,.int .i64 x6,.int .i64 x7,.int .i64 x8])::v43::v44::v45::v46::v47::v48::v49::v50::v51::v52::v53::v54::v55::v56::v57::v58::v59::v60::v61::v62::v63::v64::v65::v66::v67::v68::v69::v70::v71::v72::v73::v74::v75::v76::v77::v78::v79::v80::v81::v82::[])),defers:=[] } (W.alloc (.cells #[.int .i64 x0,.int .i64 x1,.int .i64 x2,.int .i64 x3,.int .i64 x4,.int .i64 x5,.int .i64 x6,.int .i64 x7,.int .i64 x8] 134))) :
  (Code.region 8 #[{ dst:=some 12,op:=Op.alloc 134,type:=0,pos:= "inclusion.go:83",after:=#[],guard:=none },
   {dst:=none,op:=Op.store 134 (Operand.tmp 12) (Operand.tmp 42),type:=0,pos:= "inclusion.go:83",after:=#[{ on:=0,ground:=Ground.data },{ on:=0,ground:=Ground.phase }],guard:=none }] false).wpIn (Fence.wide.inRound l) 0 Tryz.prog
   (Exit.then K (fun _ _ _=>False)) { tmps:=(List.toArray (v0::v1::v2::v3::v4::v5::v6::v7::v8::v9::v10::v11::v12::v13::v14::v15::v16::v17::v18::v19::v20::v21::v22::v23::v24::v25::v26::v27::v28::v29::v30::v31::v32::v33::v34::v35::v36::v37::v38::v39::v40::v41::(.agg #[.int .i64 x0,.int .i64 x1,.int .i64 x2,.int .i64 x3,.int .i64 x4,.int .i64 x5,.int .i64 x6,.int .i64 x7,.int .i64 x8])::v43::v44::v45::v46::v47::v48::v49::v50::v51::v52::v53::v54::v55::v56::v57::v58::v59::v60::v61::v62::v63::v64::v65::v66::v67::v68::v69::v70::v71::v72::v73::v74::v75::v76::v77::v78::v79::v80::v81::v82::[])),defers:=[] } W:=by
 gi_wp2
 exact hK
end Go.Proofs.YtmikofeildnpdaaGreat

/- inclusion.search: a new pair is marked and its visit appended: what lies in memory then. -/
namespace Go.Proofs.YtmikofeildnpdaaGreat
open Go.RowKit Go.ChangeMaps Go.MapKept Go.WideMaps
theorem wpListIn_runApp {F:Fence} {n:Nat} {P:Program} {w w':World} {ops:Array Oper} {rest:List Oper} {o:Oper} {a:Act} {Q:Exit→Act→World→Prop} {v u v':Value} {t:TypeId}
  (hg:o.guard=none) (s x:Operand) (hop:o.op=Op.call { callee:=Callee.builtin Builtin.append,args:=#[s,x],argTypes:=#[t,t] }) (hs:a.eval s=v) (hx:a.eval x=u)
  (hrun:(Builtin.append_ #[t,t] o.type #[v,u]).run P w = .ok v' w') (hK:wpListIn F n P ops Q rest (a.put o.dst v') w'):wpListIn F n P ops Q (o::rest) a w:=by
 refine wpListIn_plain hg fun K hK'=>?_
 unfold Oper.wpIn
 refine ⟨?_,?_⟩
 ·simp [Oper.about,hop,resolve,Target.leads,Sem.run_pure]
 ·rw [Oper.semAt_plain F _ _ (by rw [hop]; intro c hc'; cases hc')]
  simp [execOp,hop,resolve,invoke,builtin,hs,hx,hrun,Result.andThen]
  exact hK' _ _ hK
theorem snPush {n0 b6 b7 b8 mb KA KB i p q:Nat} {r0 r1 r2 r3 r4 r5 r6:Int} {vis:List (List Int)} {Q:Pq} {lv:Value} {D:Nat→Prop} {W:World} (hS:SrI n0 b6 b7 b8 mb KA KB vis Q lv D W) (hD:Bd D W) (hn0:n0≤W.heap.size) (hi:i < vis.length) (hK:KA * KB≤10000)
  (hp:p < KA) (hq:q < KB) (hn:(p,q) ∉ Q) (h86:b8 ≠ b6) (h87:b8 ≠ b7) (hm6:mb ≠ b6) (hm7:mb ≠ b7) (hm8:mb ≠ b8) :
  (∀ y∈Q,SmP2 y)∧∃ ob v' W4,(Instr.mapUpdate 175 (.map (some mb)) (.agg #[.int .i64 (p:Int),.int .i64 (q:Int)]) (.bool true)).run Tryz.prog W = .ok () (setBlock W mb ob)∧
   (Builtin.append_ #[130,130] 130 #[lv,.slice (some ⟨(setBlock W mb ob).heap.size,0,none⟩) 1 1]).run Tryz.prog ((setBlock W mb ob).alloc (.cells #[.int .i64 (p:Int),.int .i64 (q:Int),.int .i64 (i:Int),.int .i64 r0,.int .i64 r1,.int .i64 r2,.int .i64 r3,.int .i64 r4,.int .i64 r5,.int .i64 r6] 174)) = .ok v' W4∧
   W4.heap[b8]? = some (.cells #[lv] 130)∧
   ∃ D',SrI n0 b6 b7 b8 mb KA KB (vis ++ [[(p:Int),(q:Int),(i:Int),r0,r1,r2,r3,r4,r5,r6]]) (Q ++ [(p,q)]) v' D' (W4.setCell ⟨b8,0,none⟩ v')∧Only D W (W4.setCell ⟨b8,0,none⟩ v')∧Gr D W D'∧Bd D' (W4.setCell ⟨b8,0,none⟩ v'):=by
 have hSm:∀ y∈Q,SmP2 y:=fun y hy=>by
  obtain ⟨h1,h2⟩:=hS.ok.2 y hy
  have hA:KA≤KA * KB:=Nat.le_mul_of_pos_right _ (by omega)
  have hB:KB≤KA * KB:=Nat.le_mul_of_pos_left _ (by omega)
  exact ⟨by omega,by omega⟩
 have hSp:SmP2 (p,q):=by
  have hA:KA≤KA * KB:=Nat.le_mul_of_pos_right _ (by omega)
  have hB:KB≤KA * KB:=Nat.le_mul_of_pos_left _ (by omega)
  exact ⟨by show p≤_; omega,by show q≤_; omega⟩
 refine ⟨hSm,?_⟩
 have hQb:vis.length≤10000:=by rw [hS.vp.len]; exact Nat.le_trans hS.ok.len hK
 obtain ⟨ob,hput,hmp⟩:=hS.mp.put hSm hSp hn
 obtain ⟨W2,hW2⟩:=exF (setBlock W mb ob)
 rw [← hW2] at hput hmp
 have hs2:W2.heap.size=W.heap.size:=by rw [hW2]; simp [setBlock]
 have hk2:∀ k,k ≠ mb→W2.heap[k]? = W.heap[k]?:=fun k hk=>by rw [hW2]; exact setBlock_keep ob hk
 have hrow2:OwX 174 10 EI W2 n0 lv vis.length vis:=by
  refine hS.row.same fun g hg=>hk2 g fun e=>?_
  obtain ⟨vs,k1,_⟩:=hS.row
  obtain ⟨cs,hc⟩:=ownsRow_ty k1 g hg
  obtain ⟨es,cl,hm,_⟩:=hS.mp
  rw [e,hm] at hc; cases hc
 obtain ⟨CS,hCS⟩:∃ CS:Array Value,CS = #[.int .i64 (p:Int),.int .i64 (q:Int),.int .i64 (i:Int),.int .i64 r0,.int .i64 r1,.int .i64 r2,.int .i64 r3,.int .i64 r4,.int .i64 r5,.int .i64 r6]:=⟨_,rfl⟩
 obtain ⟨W3,hW3⟩:=exF (W2.alloc (.cells CS 174))
 have hs3:W3.heap.size=W.heap.size+1:=by rw [hW3]; simp [hs2]
 have hk3:∀ k,k < W.heap.size→W3.heap[k]? = W2.heap[k]?:=fun k hk=>by rw [hW3]; exact Below.heap_alloc _ _ _ (by omega)
 have hnew:W3.heap[W2.heap.size]? = some (.cells CS 174):=by rw [hW3]; exact heap_alloc_new _ _
 have hrow3:OwX 174 10 EI W3 n0 lv vis.length vis:=hrow2.keep (EI.stab _) (by rw [hW3]; exact (Below.refl _ _).alloc (Nat.le_refl _) _)
 obtain ⟨v',W4,happ,hrow4,hgr,hna,hbl,hkx⟩:=run_appX (P:=Tryz.prog) (T:=130) (ty:=130) (cs:=CS.toList) (x:=[(p:Int),(q:Int),(i:Int),r0,r1,r2,r3,r4,r5,r6]) elemVis (by decide) (by decide) (EI.stab _) hrow3 ⟨W2.heap.size,0,none⟩ 1 (by rw [hCS]; rfl)
  (fun j u hj=>by rw [show (⟨W2.heap.size,0,none⟩:Addr).add j=⟨W2.heap.size,j,none⟩ by (simp [Addr.add]; try omega),cell_of_row _ _ j _ _ _ hnew]; simpa using hj)
  (fun u hu=>by rw [hCS] at hu; simp at hu; rcases hu with rfl | rfl | rfl | rfl | rfl | rfl | rfl | rfl | rfl | rfl <;> rfl) (by rw [hCS]; rfl) (by omega) (by omega)
 have hk4:∀ (k:Nat) (cs:Array Value) (t:TypeId),W3.heap[k]? = some (.cells cs t)→t ≠ 174→W4.heap[k]? = W3.heap[k]?:=hkx
 have c8:W4.heap[b8]? = some (.cells #[lv] 130):=by
  have h3:W3.heap[b8]? = some (.cells #[lv] 130):=(hk3 b8 (hD b8 ((hS.dd b8).2 (.inl rfl)))).trans ((hk2 b8 (fun e=>hm8 e.symm)).trans hS.bl)
  exact (hk4 b8 _ _ h3 (by decide)).trans h3
 have c6:W4.heap[b6]? = some (.cells #[.slice none 0 0] 130):=by
  have h3:W3.heap[b6]? = some (.cells #[.slice none 0 0] 130):=(hk3 b6 (hD b6 ((hS.dd b6).2 (.inr (.inr (.inl rfl)))))).trans ((hk2 b6 (fun e=>hm6 e.symm)).trans hS.r6)
  exact (hk4 b6 _ _ h3 (by decide)).trans h3
 have c7:W4.heap[b7]? = some (.cells #[.slice none 0 0] 78):=by
  have h3:W3.heap[b7]? = some (.cells #[.slice none 0 0] 78):=(hk3 b7 (hD b7 ((hS.dd b7).2 (.inr (.inr (.inr (.inl rfl))))))).trans ((hk2 b7 (fun e=>hm7 e.symm)).trans hS.r7)
  exact (hk4 b7 _ _ h3 (by decide)).trans h3
 have hmlt:mb < W.heap.size:=hD mb ((hS.dd mb).2 (.inr (.inl rfl)))
 have hmo : ¬ lv.ownBlock=some mb:=fun e=>by
  obtain ⟨vs,k1,_⟩:=hrow2
  obtain ⟨cs,hc⟩:=ownsRow_ty k1 mb e
  obtain ⟨es,cl,hm,_⟩:=hmp
  rw [hm] at hc; cases hc
 have hmp4:SN2 W4 mb (Q ++ [(p,q)]):=(hmp.keep (hk3 mb hmlt)).keep (hgr.block mb (by omega) (fun e=>hmo e.symm))
 have hg4:∀ g,v'.ownBlock=some g→g ≠ b8:=fun g hg e=>by
  obtain ⟨vs,k1,_⟩:=hrow4
  obtain ⟨cs,hc⟩:=ownsRow_ty k1 g hg
  rw [e,c8] at hc; injection hc with hc; injection hc with _ hc; exact absurd hc (by decide)
 have hset:∀ k,k ≠ b8→(W4.setCell ⟨b8,0,none⟩ v').heap[k]? = W4.heap[k]?:=fun k hk=>Below.heap_setCell _ _ _ _ hk
 have hsz:(W4.setCell ⟨b8,0,none⟩ v').heap.size=W4.heap.size:=by simp [World.setCell]
 have hvl:vis.length+1=(vis ++ [[(p:Int),(q:Int),(i:Int),r0,r1,r2,r3,r4,r5,r6]]).length:=by simp
 have hon2:Only D W W2:=by rw [hW2]; exact ⟨rfl,rfl,rfl,by simp [setBlock],fun k _ hd=>setBlock_keep ob (fun e=>hd (by rw [e]; exact (hS.dd mb).2 (.inr (.inl rfl))))⟩
 have hon3:Only D W W3:=hon2.thenBelow (by rw [hW3]; exact ((Below.refl _ _).alloc (Nat.le_refl _) _).mono (by omega))
 have hon4:Only D W W4:=⟨hbl.os.trans hon3.os,hbl.tape.trans hon3.tape,hbl.output.trans hon3.output,Nat.le_trans hon3.size hbl.size,fun k hk hd=>(hgr.block k (by omega) (fun e=>hd ((hS.dd k).2 (.inr (.inr (.inr (.inr e.symm))))))).trans (hon3.same k hk hd)⟩
 refine ⟨ob,v',W4,by rw [hput,hW2],by rw [← hW2,← hCS,← hW3]; exact happ,c8,fun k=>k=b8∨k=mb∨k=b6∨k=b7∨v'.ownBlock=some k,⟨one_setCell c8,?_,hS.vp.snoc (p,q) _ _ _ _ _ _ _ _,hS.vo.snoc (by omega) (by omega),hmp4.keep (hset mb hm8),?_,(hset b6 (fun e=>h86 e.symm)).trans c6,(hset b7 (fun e=>h87 e.symm)).trans c7,fun _=>Iff.rfl⟩,hon4.setCell (p:=⟨b8,0,none⟩) ((hS.dd b8).2 (.inl rfl)) _,?_,?_⟩
 ·rw [← hvl]
  exact hrow4.same fun g hg=>hset g (hg4 g hg)
 ·have:=hS.ok.push (y:=(p,q)) hp hq
  rwa [pushP,if_neg hn] at this
 ·intro k hk
  rcases hk with h | h | h | h | h
  ·exact .inl ((hS.dd k).2 (.inl h))
  ·exact .inl ((hS.dd k).2 (.inr (.inl h)))
  ·exact .inl ((hS.dd k).2 (.inr (.inr (.inl h))))
  ·exact .inl ((hS.dd k).2 (.inr (.inr (.inr (.inl h)))))
  ·rcases hna with e | e
   ·exact .inl ((hS.dd k).2 (.inr (.inr (.inr (.inr (e ▸ h))))))
   ·rw [e] at h; injection h with h; right; omega
 ·intro k hk
  rw [hsz]
  have:=hon4.size
  rcases hk with h | h | h | h | h
  ·have:=hD k ((hS.dd k).2 (.inl h)); omega
  ·have:=hD k ((hS.dd k).2 (.inr (.inl h))); omega
  ·have:=hD k ((hS.dd k).2 (.inr (.inr (.inl h)))); omega
  ·have:=hD k ((hS.dd k).2 (.inr (.inr (.inr (.inl h))))); omega
  ·obtain ⟨vs,k1,_⟩:=hrow4
   exact (k1.lt k h).2
end Go.Proofs.YtmikofeildnpdaaGreat

/- inclusion.search: its range over the steps of two states. -/
namespace Go.Proofs.YtmikofeildnpdaaGreat
open Go.RowKit Go.ChangeMaps Go.MapKept Go.WideMaps
attribute [local go_sem] Oper.semAt_some
def snI (n0 b6 b7 b8 mb KA KB i:Nat) (kf:Pq→Option Bool) (R:Bool) (L:List Stp):List Stp→(Nat→Prop)→World→Prop:=fun pre D W=>∃ (vis:List (List Int)) (Q:Pq) (lv:Value),SrI n0 b6 b7 b8 mb KA KB vis Q lv D W∧i < vis.length∧∀ r,pre++r=L→esSt kf r Q=some R
def snX (b6 b7:Nat) (R:Bool):Code→List Stp→(Nat→Prop)→World→Prop:=fun c _ D W=>c = .ret∧R=true∧(∃ lv,W.heap[b6]? = some (.cells #[lv] 130))∧(∃ p m c,W.heap[b7]? = some (.cells #[.slice (some p) m c] 78)∧0 < m)∧D b6∧D b7
theorem snI_st {n0 b6 b7 b8 mb KA KB i:Nat} {kf:Pq→Option Bool} {R:Bool} {L:List Stp}:Stable (snI n0 b6 b7 b8 mb KA KB i kf R L):=fun _ _ _ _ ⟨vis,Q,lv,h1,h2,h3⟩ _ hk=>⟨vis,Q,lv,h1.stable hk,h2,h3⟩
theorem snX_st {b6 b7:Nat} {R:Bool} (c:Code):Stable (snX b6 b7 R c):=fun _ _ _ _ ⟨h1,h2,⟨lv,h3⟩,⟨p,m,c',h4,h5⟩,h6,h7⟩ _ hk=>⟨h1,h2,⟨lv,(hk b6 h6).trans h3⟩,⟨p,m,c',(hk b7 h7).trans h4,h5⟩,h6,h7⟩
theorem nat_of_nn {a:Int} (h : ¬ a < 0):∃ n:Nat,a=(n:Int):=⟨a.toNat,by omega⟩
theorem snAssignX {u0 u1 u2 u3 u4 u11 u12 u13 u14 u15 u16 u17 u18 u19 u20 u21 u22 u23 u24 u25 u26 u27 u28 u29 u30 u31 u32 u33 u34 u35 u36 u37 u38 u39 u40 u42 u43 u44 u45 u46 u47 u48 u49 u50 u51 u52 u53 u54 u55 u56 u57 u58 u59 u60 u61 u62 u63 u64 u65 u66 u67 u68 u69 u70 u71 u72 u73 u74 u75 u76 u77 u78 u79 u80 u81 u82:Value} {b5 b6 b7 b8 b9 bi e1 e2 l:Nat} {x:Stp} (h7:x.1.length=7) {W:World} {K:Act→World→Prop}
  (hK:∀ b,b=W.heap.size→K { tmps:=(List.toArray (u0::u1::u2::u3::u4::(.pointer (some ⟨b5,0,none⟩))::(.pointer (some ⟨b6,0,none⟩))::(.pointer (some ⟨b7,0,none⟩))::(.pointer (some ⟨b8,0,none⟩))::(.pointer (some ⟨b9,0,none⟩))::(.pointer (some ⟨bi,0,none⟩))::u11::(.pointer (some ⟨b,0,none⟩))::u13::u14::u15::u16::u17::u18::u19::u20::u21::u22::u23::u24::u25::u26::u27::u28::u29::u30::u31::u32::u33::u34::u35::u36::u37::u38::u39::u40::(.func (.func 176) #[] #[.pointer (some ⟨e1,0,none⟩),.pointer (some ⟨e2,0,none⟩)])::(.agg (((x.1 ++ [x.2.1,x.2.2]).map (Value.int .i64)).toArray))::u43::u44::u45::u46::u47::u48::u49::u50::u51::u52::u53::u54::u55::u56::u57::u58::u59::u60::u61::u62::u63::u64::u65::u66::u67::u68::u69::u70::u71::u72::u73::u74::u75::u76::u77::u78::u79::u80::u81::u82::[])),defers:=[] } (W.alloc (.cells (((x.1 ++ [x.2.1,x.2.2]).map (Value.int .i64)).toArray) 134))) :
  (Code.region 8 #[{ dst:=some 12,op:=Op.alloc 134,type:=0,pos:= "inclusion.go:83",after:=#[],guard:=none },{ dst:=none,op:=Op.store 134 (Operand.tmp 12) (Operand.tmp 42),type:=0,pos:= "inclusion.go:83",after:=#[{ on:=0,ground:=Ground.data },{ on:=0,ground:=Ground.phase }],guard:=none }] false).wpIn (Fence.wide.inRound l) 0 Tryz.prog (Exit.then K (fun _ _ _=>False)) { tmps:=((#[42]:Array Nat).zip (spEnc x)).foldl (fun t (p,v)=>t.setIfInBounds p v) (List.toArray (u0::u1::u2::u3::u4::(.pointer (some ⟨b5,0,none⟩))::(.pointer (some ⟨b6,0,none⟩))::(.pointer (some ⟨b7,0,none⟩))::(.pointer (some ⟨b8,0,none⟩))::(.pointer (some ⟨b9,0,none⟩))::(.pointer (some ⟨bi,0,none⟩))::u11::u12::u13::u14::u15::u16::u17::u18::u19::u20::u21::u22::u23::u24::u25::u26::u27::u28::u29::u30::u31::u32::u33::u34::u35::u36::u37::u38::u39::u40::(.func (.func 176) #[] #[.pointer (some ⟨e1,0,none⟩),.pointer (some ⟨e2,0,none⟩)])::u42::u43::u44::u45::u46::u47::u48::u49::u50::u51::u52::u53::u54::u55::u56::u57::u58::u59::u60::u61::u62::u63::u64::u65::u66::u67::u68::u69::u70::u71::u72::u73::u74::u75::u76::u77::u78::u79::u80::u81::u82::[])),defers:=[] } W:=by
 obtain ⟨rd,ta,tb⟩:=x
 obtain ⟨r0,r1,r2,r3,r4,r5,r6,rfl⟩:=seven h7
 replace hK:=hK _ rfl
 simp only [List.cons_append,List.nil_append,List.map_cons,List.map_nil] at hK
 simp only [spEnc,List.cons_append,List.nil_append,List.map_cons,List.map_nil]
 rw [foldl1]
 simp only [List.setIfInBounds_toArray,List.set_cons_succ,List.set_cons_zero]
 exact snAssign (v12:=u12) hK
theorem snOnly {D:Nat→Prop} {A B C:World} (h:Only D A B) (k:Only D B C) (_hD:Bd D B):Only D A C:=h.trans k (Gr.refl _ _)
theorem snSm {B b6 b7 b8 mb KA KB:Nat} {vis:List (List Int)} {Q:Pq} {lv:Value} {D:Nat→Prop} {W:World} (h:SrI B b6 b7 b8 mb KA KB vis Q lv D W) (hK:KA * KB≤10000):∀ y∈Q,SmP2 y:=fun y hy=>by
 obtain ⟨h1,h2⟩:=h.ok.2 y hy
 have hA:KA≤KA * KB:=Nat.le_mul_of_pos_right _ (by omega)
 have hB:KB≤KA * KB:=Nat.le_mul_of_pos_left _ (by omega)
 exact ⟨by omega,by omega⟩
theorem snSp {B b6 b7 b8 mb KA KB p q i:Nat} {vis:List (List Int)} {Q:Pq} {lv:Value} {D:Nat→Prop} {W:World} (_h:SrI B b6 b7 b8 mb KA KB vis Q lv D W) (hK:KA * KB≤10000) (hp:p < KA) (hq:q < KB) (_hi:i < vis.length):SmP2 (p,q):=by
 have hA:KA≤KA * KB:=Nat.le_mul_of_pos_right _ (by omega)
 have hB:KB≤KA * KB:=Nat.le_mul_of_pos_left _ (by omega)
 exact ⟨by show p≤_; omega,by show q≤_; omega⟩
theorem snOwn {B b6 b7 b8 mb KA KB:Nat} {vis:List (List Int)} {Q:Pq} {lv:Value} {D:Nat→Prop} {W:World} (h:SrI B b6 b7 b8 mb KA KB vis Q lv D W) {g:Nat} (hg:lv.ownBlock=some g) : ¬ (g=b6∨g=b7):=by
 obtain ⟨vs,k1,_⟩:=h.row
 obtain ⟨cs,hc⟩:=ownsRow_ty k1 g hg
 rintro (rfl | rfl)
 ·rw [h.r6] at hc; injection hc with hc; injection hc with _ hc; exact absurd hc (by decide)
 ·rw [h.r7] at hc; injection hc with hc; injection hc with _ hc; exact absurd hc (by decide)
theorem snBody {u0 u1 u2 u3 u4 u11 u13 u14 u15 u16 u17 u18 u19 u20 u21 u22 u23 u24 u25 u26 u27 u28 u29 u30 u31 u32 u33 u34 u35 u36 u37 u38 u39 u40 u43 u44 u45 u46 u47 u48 u49 u50 u51 u52 u53 u54 u55 u56 u57 u58 u59 u60 u61 u62 u63 u64 u65 u66 u67 u68 u69 u70 u71 u72 u73 u74 u75 u76 u77 u78 u79 u80 u81 u82:Value} {n0 b b5 b6 b7 b8 b9 bi e1 e2 mb KA KB i l:Nat} {r0 r1 r2 r3 r4 r5 r6 ta tb:Int} {kf:Pq→Option Bool} {R:Bool} {L pre:List Stp} {W:World} {D:Nat→Prop} {vis:List (List Int)} {Q:Pq} {lv:Value}
  (hS:SrI n0 b6 b7 b8 mb KA KB vis Q lv D W) (hi:i < vis.length) (hes:∀ r,pre++r=L→esSt kf r Q=some R) (hK:KA * KB≤10000) (hD:Bd D W) (hn0:n0≤W.heap.size)
  (k5:W.heap[b5]? = some (.cells #[.func (.func 87) #[] #[]] 135)) (k9:W.heap[b9]? = some (.cells #[.map (some mb)] 175)) (ki:W.heap[bi]? = some (.cells #[.int .i64 (i:Int)] 3))
  (kb:W.heap[b]? = some (.cells #[.int .i64 r0,.int .i64 r1,.int .i64 r2,.int .i64 r3,.int .i64 r4,.int .i64 r5,.int .i64 r6,.int .i64 ta,.int .i64 tb] 134)) (hdb : ¬ D b) (hd9 : ¬ D b9) (hdi : ¬ D bi)
  (h67:b6 ≠ b7) (h86:b8 ≠ b6) (h87:b8 ≠ b7) (hm6:mb ≠ b6) (hm7:mb ≠ b7) (hm8:mb ≠ b8) (hpre:∃ r,pre++([r0,r1,r2,r3,r4,r5,r6],ta,tb)::r=L)
  (hta:ta < 100) (htb:tb < 100) (hab:0≤ta→0≤tb→ta.toNat < KA∧tb.toNat < KB) :
  (Code.block 3 (((Code.region 9 #[{ dst:=some 43,op:=Op.load 135 (Operand.tmp 5),type:=135,pos:= "inclusion.go:84",after:=#[],guard:=none },{ dst:=some 44,op:=Op.load 134 (Operand.tmp 12),type:=134,pos:= "inclusion.go:84",after:=#[],guard:=none },{ dst:=some 45,op:=Op.call { callee:=Callee.value (Operand.tmp 43),args:=#[Operand.tmp 44],argTypes:=#[134] },type:=4,pos:= "inclusion.go:84",after:=#[{ on:=0,ground:=Ground.data },{ on:=1,ground:=Ground.data }],guard:=none }] false).seq (Code.cond (Operand.tmp 45) ((Code.region 10 #[{ dst:=some 46,op:=Op.load 130 (Operand.tmp 8),type:=130,pos:= "inclusion.go:85",after:=#[],guard:=none },{ dst:=some 47,op:=Op.load 130 (Operand.tmp 8),type:=130,pos:= "inclusion.go:85",after:=#[],guard:=none },{ dst:=some 48,op:=Op.load 3 (Operand.tmp 10),type:=3,pos:= "inclusion.go:85",after:=#[],guard:=none },{ dst:=some 49,op:=Op.fieldAddr 134 (Operand.tmp 12) 0,type:=0,pos:= "inclusion.go:85",after:=#[],guard:=none },{ dst:=some 50,op:=Op.load 87 (Operand.tmp 49),type:=87,pos:= "inclusion.go:85",after:=#[{ on:=3,ground:=Ground.data }],guard:=none },{ dst:=some 51,op:=Op.call { callee:=Callee.value (Operand.func 124),args:=#[Operand.tmp 47,Operand.tmp 48,Operand.tmp 50],argTypes:=#[130,3,87] },type:=78,pos:= "inclusion.go:85",after:=#[{ on:=1,ground:=Ground.data },{ on:=2,ground:=Ground.data },{ on:=4,ground:=Ground.data }],guard:=none },{ dst:=none,op:=Op.store 130 (Operand.tmp 6) (Operand.tmp 46),type:=0,pos:= "inclusion.go:85",after:=#[{ on:=0,ground:=Ground.data },{ on:=5,ground:=Ground.chain },{ on:=0,ground:=Ground.phase },{ on:=1,ground:=Ground.textOnly Departure.inlinedCapture },{ on:=2,ground:=Ground.textOnly Departure.inlinedCapture },{ on:=3,ground:=Ground.textOnly Departure.lateStores },{ on:=4,ground:=Ground.textOnly Departure.lateStores },{ on:=5,ground:=Ground.textOnly Departure.lateStoresUnsure }],guard:=none },{ dst:=none,op:=Op.store 78 (Operand.tmp 7) (Operand.tmp 51),type:=0,pos:= "inclusion.go:85",after:=#[{ on:=5,ground:=Ground.data },{ on:=6,ground:=Ground.chain },{ on:=0,ground:=Ground.phase },{ on:=1,ground:=Ground.phase },{ on:=2,ground:=Ground.phase },{ on:=3,ground:=Ground.phase },{ on:=4,ground:=Ground.phase },{ on:=5,ground:=Ground.phase },{ on:=6,ground:=Ground.phase }],guard:=none }] true).seq Code.ret) Code.skip)).seq ((Code.region 11 #[{ dst:=some 52,op:=Op.fieldAddr 134 (Operand.tmp 12) 1,type:=0,pos:= "inclusion.go:87",after:=#[],guard:=none },{ dst:=some 53,op:=Op.indexAddr 93 (Operand.tmp 52) (Operand.const (Value.int IntKind.i64 0)),type:=0,pos:= "inclusion.go:87",after:=#[{ on:=0,ground:=Ground.data }],guard:=none },{ dst:=some 54,op:=Op.load 3 (Operand.tmp 53),type:=3,pos:= "inclusion.go:87",after:=#[{ on:=1,ground:=Ground.data }],guard:=none },{ dst:=some 55,op:=Op.binOp BinOp.geq 3 (Operand.tmp 54) (Operand.const (Value.int IntKind.i64 0)) 3,type:=4,pos:= "inclusion.go:87",after:=#[{ on:=2,ground:=Ground.data }],guard:=none },{ dst:=some 56,op:=Op.move (Operand.tmp 55),type:=4,pos:= "inclusion.go:87",after:=#[{ on:=3,ground:=Ground.data }],guard:=none },{ dst:=some 57,op:=Op.fieldAddr 134 (Operand.tmp 12) 1,type:=0,pos:= "inclusion.go:87",after:=#[{ on:=4,ground:=Ground.guard }],guard:=some (4,true) },{ dst:=some 58,op:=Op.indexAddr 93 (Operand.tmp 57) (Operand.const (Value.int IntKind.i64 1)),type:=0,pos:= "inclusion.go:87",after:=#[{ on:=5,ground:=Ground.data },{ on:=4,ground:=Ground.guard }],guard:=some (4,true) },{ dst:=some 59,op:=Op.load 3 (Operand.tmp 58),type:=3,pos:= "inclusion.go:87",after:=#[{ on:=6,ground:=Ground.data },{ on:=4,ground:=Ground.guard }],guard:=some (4,true) },{ dst:=some 60,op:=Op.binOp BinOp.geq 3 (Operand.tmp 59) (Operand.const (Value.int IntKind.i64 0)) 3,type:=4,pos:= "inclusion.go:87",after:=#[{ on:=7,ground:=Ground.data },{ on:=4,ground:=Ground.guard }],guard:=some (4,true) },{ dst:=some 61,op:=Op.pick (Operand.tmp 56) (Operand.tmp 60) (Operand.const (Value.bool false)),type:=4,pos:= "inclusion.go:87",after:=#[{ on:=4,ground:=Ground.data },{ on:=8,ground:=Ground.data }],guard:=none },{ dst:=some 62,op:=Op.move (Operand.tmp 61),type:=4,pos:= "inclusion.go:87",after:=#[{ on:=9,ground:=Ground.data },{ on:=4,ground:=Ground.chain }],guard:=none },{ dst:=some 63,op:=Op.load 175 (Operand.tmp 9),type:=175,pos:= "inclusion.go:87",after:=#[{ on:=10,ground:=Ground.guard }],guard:=some (10,true) },{ dst:=some 64,op:=Op.fieldAddr 134 (Operand.tmp 12) 1,type:=0,pos:= "inclusion.go:87",after:=#[{ on:=10,ground:=Ground.guard }],guard:=some (10,true) },{ dst:=some 65,op:=Op.load 93 (Operand.tmp 64),type:=93,pos:= "inclusion.go:87",after:=#[{ on:=12,ground:=Ground.data },{ on:=10,ground:=Ground.guard }],guard:=some (10,true) },{ dst:=some 66,op:=Op.lookup 175 (Operand.tmp 63) (Operand.tmp 65) false,type:=4,pos:= "inclusion.go:87",after:=#[{ on:=11,ground:=Ground.data },{ on:=13,ground:=Ground.data },{ on:=10,ground:=Ground.guard }],guard:=some (10,true) },{ dst:=some 67,op:=Op.unOp UnOp.not 4 (Operand.tmp 66),type:=4,pos:= "inclusion.go:87",after:=#[{ on:=14,ground:=Ground.data },{ on:=10,ground:=Ground.guard }],guard:=some (10,true) },{ dst:=some 68,op:=Op.pick (Operand.tmp 62) (Operand.tmp 67) (Operand.const (Value.bool false)),type:=4,pos:= "inclusion.go:87",after:=#[{ on:=10,ground:=Ground.data },{ on:=15,ground:=Ground.data }],guard:=none }] false).seq (Code.cond (Operand.tmp 68) ((Code.region 12 #[{ dst:=some 69,op:=Op.load 175 (Operand.tmp 9),type:=175,pos:= "inclusion.go:88",after:=#[],guard:=none },{ dst:=some 70,op:=Op.fieldAddr 134 (Operand.tmp 12) 1,type:=0,pos:= "inclusion.go:88",after:=#[],guard:=none },{ dst:=some 71,op:=Op.load 93 (Operand.tmp 70),type:=93,pos:= "inclusion.go:88",after:=#[{ on:=1,ground:=Ground.data }],guard:=none },{ dst:=none,op:=Op.mapUpdate 175 (Operand.tmp 69) (Operand.tmp 71) (Operand.const (Value.bool true)),type:=0,pos:= "inclusion.go:88",after:=#[{ on:=0,ground:=Ground.data },{ on:=2,ground:=Ground.data },{ on:=0,ground:=Ground.phase },{ on:=1,ground:=Ground.phase },{ on:=2,ground:=Ground.phase }],guard:=none }] false).seq (Code.region 13 #[{ dst:=some 72,op:=Op.load 130 (Operand.tmp 8),type:=130,pos:= "inclusion.go:89",after:=#[],guard:=none },{ dst:=some 73,op:=Op.fieldAddr 134 (Operand.tmp 12) 1,type:=0,pos:= "inclusion.go:89",after:=#[],guard:=none },{ dst:=some 74,op:=Op.load 93 (Operand.tmp 73),type:=93,pos:= "inclusion.go:89",after:=#[{ on:=1,ground:=Ground.data }],guard:=none },{ dst:=some 75,op:=Op.load 3 (Operand.tmp 10),type:=3,pos:= "inclusion.go:89",after:=#[],guard:=none },{ dst:=some 76,op:=Op.fieldAddr 134 (Operand.tmp 12) 0,type:=0,pos:= "inclusion.go:89",after:=#[],guard:=none },{ dst:=some 77,op:=Op.load 87 (Operand.tmp 76),type:=87,pos:= "inclusion.go:89",after:=#[{ on:=4,ground:=Ground.data }],guard:=none },{ dst:=some 78,op:=Op.build 174 #[(0,Operand.tmp 74),(1,Operand.tmp 75),(2,Operand.tmp 77)],type:=174,pos:= "inclusion.go:89",after:=#[{ on:=2,ground:=Ground.data },{ on:=3,ground:=Ground.data },{ on:=5,ground:=Ground.data }],guard:=none },{ dst:=some 79,op:=Op.buildSlice 130 1 #[(0,Operand.tmp 78)],type:=130,pos:= "inclusion.go:89",after:=#[{ on:=6,ground:=Ground.data }],guard:=none },{ dst:=some 80,op:=Op.call { callee:=Callee.builtin Builtin.append,args:=#[Operand.tmp 72,Operand.tmp 79],argTypes:=#[130,130] },type:=130,pos:= "inclusion.go:89",after:=#[{ on:=0,ground:=Ground.data },{ on:=7,ground:=Ground.data }],guard:=none },{ dst:=none,op:=Op.store 130 (Operand.tmp 8) (Operand.tmp 80),type:=0,pos:= "inclusion.go:89",after:=#[{ on:=8,ground:=Ground.data },{ on:=8,ground:=Ground.chain },{ on:=0,ground:=Ground.phase },{ on:=1,ground:=Ground.phase },{ on:=2,ground:=Ground.phase },{ on:=3,ground:=Ground.phase },{ on:=4,ground:=Ground.phase },{ on:=5,ground:=Ground.phase },{ on:=6,ground:=Ground.phase },{ on:=7,ground:=Ground.phase },{ on:=8,ground:=Ground.phase }],guard:=none }] false)) Code.skip)))).wpIn (Fence.wide.inRound l) 0 Tryz.prog (bodyQ (snI n0 b6 b7 b8 mb KA KB i kf R L) (snX b6 b7 R) (pre ++ [([r0,r1,r2,r3,r4,r5,r6],ta,tb)]) D W) { tmps:=(List.toArray (u0::u1::u2::u3::u4::(.pointer (some ⟨b5,0,none⟩))::(.pointer (some ⟨b6,0,none⟩))::(.pointer (some ⟨b7,0,none⟩))::(.pointer (some ⟨b8,0,none⟩))::(.pointer (some ⟨b9,0,none⟩))::(.pointer (some ⟨bi,0,none⟩))::u11::(.pointer (some ⟨b,0,none⟩))::u13::u14::u15::u16::u17::u18::u19::u20::u21::u22::u23::u24::u25::u26::u27::u28::u29::u30::u31::u32::u33::u34::u35::u36::u37::u38::u39::u40::(.func (.func 176) #[] #[.pointer (some ⟨e1,0,none⟩),.pointer (some ⟨e2,0,none⟩)])::(.agg #[.int .i64 r0,.int .i64 r1,.int .i64 r2,.int .i64 r3,.int .i64 r4,.int .i64 r5,.int .i64 r6,.int .i64 ta,.int .i64 tb])::u43::u44::u45::u46::u47::u48::u49::u50::u51::u52::u53::u54::u55::u56::u57::u58::u59::u60::u61::u62::u63::u64::u65::u66::u67::u68::u69::u70::u71::u72::u73::u74::u75::u76::u77::u78::u79::u80::u81::u82::[])),defers:=[] } W:=by
 have c5:=cell_of_one k5
 obtain ⟨r,hr⟩:=hpre
 have hes1:=hes _ hr
 rw [esSt] at hes1
 have hes2:∀ r',(pre ++ [([r0,r1,r2,r3,r4,r5,r6],ta,tb)])++r'=L→r'=r:=fun r' h=>by rw [← hr,List.append_assoc] at h; simpa using List.append_cancel_left h
 obtain ⟨p0,p1,p2,p3,p4,p5,p6,p7,p8⟩:=boxL9 kb
 clear hes hr
 replace hes1:=Lib.hid hes1
 replace hes2:=Lib.hid hes2
 gi_wp2
 refine ⟨trivial,rfl,?_⟩
 gi_at_call 87
 refine (CallsIn.inRound l (callsIn_wide.2 diffC)).mono ?_
 rintro e W1 ⟨rfl,hb1⟩
 have hS1:=hS.stable (W':=W1) fun k hk=>hb1.block k (hD k hk)
 replace k9:=(hb1.block _ (Array.getElem?_eq_some_iff.1 k9).1).trans k9
 replace ki:=(hb1.block _ (Array.getElem?_eq_some_iff.1 ki).1).trans ki
 replace kb:=(hb1.block _ (Array.getElem?_eq_some_iff.1 kb).1).trans kb
 have hD1:Bd D W1:=fun k hk=>Nat.lt_of_lt_of_le (hD k hk) hb1.size
 have hOn1:Only D W W1:=Only.of_below hb1
 replace hn0:=Nat.le_trans hn0 hb1.size
 clear p0 p1 p2 p3 p4 p5 p6 p7 p8 c5 k5 hS
 obtain ⟨p0,p1,p2,p3,p4,p5,p6,p7,p8⟩:=boxL9 kb
 have c8:=cell_of_one hS1.bl
 have ci:=cell_of_one ki
 have c9:=cell_of_one k9
 obtain ⟨lva,lvc,hlv⟩:=hS1.row.shape
 subst hlv
 have hQb:vis.length≤10000:=by rw [hS1.vp.len]; exact Nat.le_trans hS1.ok.len hK
 have hd6:D b6:=(hS1.dd b6).2 (.inr (.inr (.inl rfl)))
 have hd7:D b7:=(hS1.dd b7).2 (.inr (.inr (.inr (.inl rfl))))
 have hd8:D b8:=(hS1.dd b8).2 (.inl rfl)
 have hdm:D mb:=(hS1.dd mb).2 (.inr (.inl rfl))
 obtain ⟨B,hB⟩:=exE (decide (ta < 0∨tb < 0))
 rw [hB]
 cases B with
 | true=>
  have hR:=of_decide_eq_true hB
  have hes3:=hes1.out
  simp only [if_pos hR] at hes3
  injection hes3 with hes3
  subst hes3
  clear p7 p8 hes1 hes2 hB hR
  gi_wp2
  refine regSearch10 (by rintro ⟨a,wx,h⟩; first | exact h | (obtain ⟨h,_⟩:=h; cases h; done) | (obtain ⟨_,h,_⟩:=h; cases h; done)) hS1.r6 hS1.r7 c8 ci p0 p1 p2 p3 p4 p5 p6 (hS1.row.base (Nat.zero_le _)) hS1.vo hi (by omega) (fun g hg=>snOwn hS1 hg) h67 ⟨h86,h87,fun e=>hdi (e ▸ hd6),fun e=>hdi (e ▸ hd7),fun e=>hdb (e ▸ hd6),fun e=>hdb (e ▸ hd7)⟩ ?_
  rintro y5 y6 y7 W2 ⟨g1,-,g3,-,g5⟩ - - -
  have hOn2:Only D W W2:=hOn1.trans (g1.mono fun k hk=>by rcases hk with rfl | rfl; exact hd6; exact hd7) (Gr.refl _ _)
  have hD2:Bd D W2:=fun k hk=>Nat.lt_of_lt_of_le (hD k hk) hOn2.size
  have x6:=g3 (by decide)
  have x7:=g5 (by decide)
  clear p0 p1 p2 p3 p4 p5 p6 g3 g5
  gi_wp2
  exact ⟨D,hOn2,fun k hk=>.inl hk,hD2,rfl,rfl,⟨_,x6⟩,x7,hd6,hd7⟩
 | false=>
  have hR:=of_decide_eq_false hB
  have hes3:=hes1.out
  simp only [if_neg hR] at hes3
  obtain ⟨p,rfl⟩:=nat_of_nn (a:=ta) (by omega)
  obtain ⟨q,rfl⟩:=nat_of_nn (a:=tb) (by omega)
  simp only [Int.toNat_natCast] at hes3 hab
  obtain ⟨hpK,hqK⟩:=hab (by omega) (by omega)
  have hs0:(0:Int)≤(p:Int):=by omega
  have ht0:(0:Int)≤(q:Int):=by omega
  clear hes1 hB hR hab hta htb
  by_cases hin:(p,q)∈Q
  ·have hSm:∀ y∈Q,SmP2 y:=snSm hS1 hK
   have hlk:=hS1.mp.look hSm (hSm _ hin)
   rw [decide_eq_true hin] at hlk
   rw [pushP,if_pos hin] at hes3
   replace hes3:=Lib.hid hes3
   gi_wp2
   exact ⟨D,hOn1,fun k hk=>.inl hk,hD1,vis,Q,_,hS1,hi,fun r' h=>by rw [hes2.out r' h]; exact hes3.out⟩
  ·rw [pushP,if_neg hin] at hes3
   replace hes3:=Lib.hid hes3
   obtain ⟨hSm,ob,v',W4,hput,happ,hb8,D',hS5,hOn5,hGr5,hBd5⟩:=snPush (r0:=r0) (r1:=r1) (r2:=r2) (r3:=r3) (r4:=r4) (r5:=r5) (r6:=r6) hS1 hD1 hn0 hi hK hpK hqK hin h86 h87 hm6 hm7 hm8
   have hlk:=hS1.mp.look hSm (x:=(p,q)) (snSp hS1 hK hpK hqK hi)
   rw [decide_eq_false hin] at hlk
   have hmb:∀ k,¬ D k→k ≠ mb:=fun k hk e=>hk (e ▸ hdm)
   have hk2:∀ k,k ≠ mb→(setBlock W1 mb ob).heap[k]? = W1.heap[k]?:=fun k hk=>setBlock_keep ob hk
   obtain ⟨W2,hW2⟩:=exF (setBlock W1 mb ob)
   rw [← hW2] at hput happ hk2
   have kb2:=(hk2 b (hmb b hdb)).trans kb
   have ki2:=(hk2 bi (hmb bi hdi)).trans ki
   have k92:=(hk2 b9 (hmb b9 hd9)).trans k9
   have c82:W2.cell? ⟨b8,0,none⟩=some (.slice lva vis.length lvc):=cell_of_one ((hk2 b8 (fun e=>hm8 e.symm)).trans hS1.bl)
   obtain ⟨q0,q1,q2,q3,q4,q5,q6,q7,q8⟩:=boxL9 kb2
   have ci2:=cell_of_one ki2
   have c92:=cell_of_one k92
   have c84:=cell_of_one hb8
   have f84:=free_of_one hb8
   obtain ⟨va',vc',hv'⟩:=hS5.row.shape
   obtain ⟨N,hN⟩:=exE ((vis ++ [[(p:Int),(q:Int),(i:Int),r0,r1,r2,r3,r4,r5,r6]]).length)
   rw [hN] at hv'
   have hiN:i < (vis ++ [[(p:Int),(q:Int),(i:Int),r0,r1,r2,r3,r4,r5,r6]]).length:=by rw [List.length_append]; omega
   subst hv'
   have hxx:=Lib.hid hS5
   replace hN:=Lib.hid hN
   replace hiN:=Lib.hid hiN
   have hOn':=Lib.hid hOn5
   have hBd':=Lib.hid hBd5
   clear hS5 hOn5 hBd5 hSm hk2 kb2 ki2 k92 hb8 kb ki k9 hmb
   replace hW2:=Lib.hid hW2
   gi_wp2_with (refine wpListIn_runApp rfl _ _ rfl rfl rfl happ ?_)
   exact ⟨D',snOnly hOn1 hOn'.out hD1,fun k hk=>(hGr5 k hk).imp id (Nat.le_trans hb1.size),hBd'.out,_,_,_,hxx.out,hiN.out,fun r' h=>by rw [hes2.out r' h]; exact hes3.out⟩
theorem snRange {u0 u1 u2 u3 u4 u11 u12 u13 u14 u15 u16 u17 u18 u19 u20 u21 u22 u23 u24 u25 u26 u27 u28 u29 u30 u31 u32 u33 u34 u35 u36 u37 u38 u39 u40 u42 u43 u44 u45 u46 u47 u48 u49 u50 u51 u52 u53 u54 u55 u56 u57 u58 u59 u60 u61 u62 u63 u64 u65 u66 u67 u68 u69 u70 u71 u72 u73 u74 u75 u76 u77 u78 u79 u80 u81 u82:Value} {n0 b5 b6 b7 b8 b9 bi e1 e2 mb KA KB i:Nat} {kf:Pq→Option Bool} {R:Bool} {L:List Stp} {W:World} {D0 C:Nat→Prop} {vis:List (List Int)} {Q0:Pq} {lv:Value} {df:List Deferred} {Q:Exit→Act→World→Prop}
  (hseq:SeqOS Tryz.prog 176 #[.pointer (some ⟨e1,0,none⟩),.pointer (some ⟨e2,0,none⟩)] spEnc (spR L) (fun l=>l=L) (fun _=>True) 1000000 C (fun k=>k=e1∨k=e2) W)
  (hS:SrI n0 b6 b7 b8 mb KA KB vis Q0 lv D0 W) (hi:i < vis.length) (hes:esSt kf L Q0=some R) (hK:KA * KB≤10000) (hD:Bd D0 W) (hn0:n0≤W.heap.size)
  (hCD:∀ k,D0 k→¬ C k∧¬ (k=e1∨k=e2)) (hC:Bd C W) (hWr:Bd (fun k=>k=e1∨k=e2) W)
  (k5:W.heap[b5]? = some (.cells #[.func (.func 87) #[] #[]] 135)) (k9:W.heap[b9]? = some (.cells #[.map (some mb)] 175)) (ki:W.heap[bi]? = some (.cells #[.int .i64 (i:Int)] 3))
  (hd5 : ¬ (D0 b5∨b5=e1∨b5=e2)) (hd9 : ¬ (D0 b9∨b9=e1∨b9=e2)) (hdi : ¬ (D0 bi∨bi=e1∨bi=e2))
  (h67:b6 ≠ b7) (h86:b8 ≠ b6) (h87:b8 ≠ b7) (hm6:mb ≠ b6) (hm7:mb ≠ b7) (hm8:mb ≠ b8)
  (hL7:∀ x∈L,x.1.length=7) (hLb:∀ x∈L,x.2.1 < 100∧x.2.2 < 100) (hLK:∀ x∈L,0≤x.2.1→0≤x.2.2→x.2.1.toNat < KA∧x.2.2.toNat < KB)
  (hdone:∀ (d:Nat) (D:Nat→Prop) (W':World) (vis2:List (List Int)) (Q2:Pq) (lv2:Value),SrI n0 b6 b7 b8 mb KA KB vis2 Q2 lv2 D W'→i < vis2.length→kf Q2=some R→Only (fun k=>D0 k∨k=e1∨k=e2) W W'→W.heap.size≤d→W'.heap[d]? = some (.deferred (some []))→Q .normal { tmps:=(List.toArray (u0::u1::u2::u3::u4::(.pointer (some ⟨b5,0,none⟩))::(.pointer (some ⟨b6,0,none⟩))::(.pointer (some ⟨b7,0,none⟩))::(.pointer (some ⟨b8,0,none⟩))::(.pointer (some ⟨b9,0,none⟩))::(.pointer (some ⟨bi,0,none⟩))::u11::u12::u13::u14::u15::u16::u17::u18::u19::u20::u21::u22::u23::u24::u25::u26::u27::u28::u29::u30::u31::u32::u33::u34::u35::u36::u37::u38::u39::u40::(.func (.func 176) #[] #[.pointer (some ⟨e1,0,none⟩),.pointer (some ⟨e2,0,none⟩)])::u42::u43::u44::u45::u46::u47::u48::u49::u50::u51::u52::u53::u54::u55::u56::u57::u58::u59::u60::u61::u62::u63::u64::u65::u66::u67::u68::u69::u70::u71::u72::u73::u74::u75::u76::u77::u78::u79::u80::u81::u82::[])),defers:={ target:=.collected d,args:=#[] }::df } W')
  (hstop:∀ (d:Nat) (W':World),R=true→(∃ lv,W'.heap[b6]? = some (.cells #[lv] 130))→(∃ p m c,W'.heap[b7]? = some (.cells #[.slice (some p) m c] 78)∧0 < m)→Only (fun k=>D0 k∨k=e1∨k=e2) W W'→W.heap.size≤d→W'.heap[d]? = some (.deferred (some []))→Code.ret.wp Tryz.prog Q { tmps:=(List.toArray (u0::u1::u2::u3::u4::(.pointer (some ⟨b5,0,none⟩))::(.pointer (some ⟨b6,0,none⟩))::(.pointer (some ⟨b7,0,none⟩))::(.pointer (some ⟨b8,0,none⟩))::(.pointer (some ⟨b9,0,none⟩))::(.pointer (some ⟨bi,0,none⟩))::u11::u12::u13::u14::u15::u16::u17::u18::u19::u20::u21::u22::u23::u24::u25::u26::u27::u28::u29::u30::u31::u32::u33::u34::u35::u36::u37::u38::u39::u40::(.func (.func 176) #[] #[.pointer (some ⟨e1,0,none⟩),.pointer (some ⟨e2,0,none⟩)])::u42::u43::u44::u45::u46::u47::u48::u49::u50::u51::u52::u53::u54::u55::u56::u57::u58::u59::u60::u61::u62::u63::u64::u65::u66::u67::u68::u69::u70::u71::u72::u73::u74::u75::u76::u77::u78::u79::u80::u81::u82::[])),defers:={ target:=.collected d,args:=#[] }::df } W') :
  (Code.rangeFunc (Operand.tmp 41) #[42] (Code.region 8 #[{ dst:=some 12,op:=Op.alloc 134,type:=0,pos:= "inclusion.go:83",after:=#[],guard:=none },{ dst:=none,op:=Op.store 134 (Operand.tmp 12) (Operand.tmp 42),type:=0,pos:= "inclusion.go:83",after:=#[{ on:=0,ground:=Ground.data },{ on:=0,ground:=Ground.phase }],guard:=none }] false) (Code.block 3 (((Code.region 9 #[{ dst:=some 43,op:=Op.load 135 (Operand.tmp 5),type:=135,pos:= "inclusion.go:84",after:=#[],guard:=none },{ dst:=some 44,op:=Op.load 134 (Operand.tmp 12),type:=134,pos:= "inclusion.go:84",after:=#[],guard:=none },{ dst:=some 45,op:=Op.call { callee:=Callee.value (Operand.tmp 43),args:=#[Operand.tmp 44],argTypes:=#[134] },type:=4,pos:= "inclusion.go:84",after:=#[{ on:=0,ground:=Ground.data },{ on:=1,ground:=Ground.data }],guard:=none }] false).seq (Code.cond (Operand.tmp 45) ((Code.region 10 #[{ dst:=some 46,op:=Op.load 130 (Operand.tmp 8),type:=130,pos:= "inclusion.go:85",after:=#[],guard:=none },{ dst:=some 47,op:=Op.load 130 (Operand.tmp 8),type:=130,pos:= "inclusion.go:85",after:=#[],guard:=none },{ dst:=some 48,op:=Op.load 3 (Operand.tmp 10),type:=3,pos:= "inclusion.go:85",after:=#[],guard:=none },{ dst:=some 49,op:=Op.fieldAddr 134 (Operand.tmp 12) 0,type:=0,pos:= "inclusion.go:85",after:=#[],guard:=none },{ dst:=some 50,op:=Op.load 87 (Operand.tmp 49),type:=87,pos:= "inclusion.go:85",after:=#[{ on:=3,ground:=Ground.data }],guard:=none },{ dst:=some 51,op:=Op.call { callee:=Callee.value (Operand.func 124),args:=#[Operand.tmp 47,Operand.tmp 48,Operand.tmp 50],argTypes:=#[130,3,87] },type:=78,pos:= "inclusion.go:85",after:=#[{ on:=1,ground:=Ground.data },{ on:=2,ground:=Ground.data },{ on:=4,ground:=Ground.data }],guard:=none },{ dst:=none,op:=Op.store 130 (Operand.tmp 6) (Operand.tmp 46),type:=0,pos:= "inclusion.go:85",after:=#[{ on:=0,ground:=Ground.data },{ on:=5,ground:=Ground.chain },{ on:=0,ground:=Ground.phase },{ on:=1,ground:=Ground.textOnly Departure.inlinedCapture },{ on:=2,ground:=Ground.textOnly Departure.inlinedCapture },{ on:=3,ground:=Ground.textOnly Departure.lateStores },{ on:=4,ground:=Ground.textOnly Departure.lateStores },{ on:=5,ground:=Ground.textOnly Departure.lateStoresUnsure }],guard:=none },{ dst:=none,op:=Op.store 78 (Operand.tmp 7) (Operand.tmp 51),type:=0,pos:= "inclusion.go:85",after:=#[{ on:=5,ground:=Ground.data },{ on:=6,ground:=Ground.chain },{ on:=0,ground:=Ground.phase },{ on:=1,ground:=Ground.phase },{ on:=2,ground:=Ground.phase },{ on:=3,ground:=Ground.phase },{ on:=4,ground:=Ground.phase },{ on:=5,ground:=Ground.phase },{ on:=6,ground:=Ground.phase }],guard:=none }] true).seq Code.ret) Code.skip)).seq ((Code.region 11 #[{ dst:=some 52,op:=Op.fieldAddr 134 (Operand.tmp 12) 1,type:=0,pos:= "inclusion.go:87",after:=#[],guard:=none },{ dst:=some 53,op:=Op.indexAddr 93 (Operand.tmp 52) (Operand.const (Value.int IntKind.i64 0)),type:=0,pos:= "inclusion.go:87",after:=#[{ on:=0,ground:=Ground.data }],guard:=none },{ dst:=some 54,op:=Op.load 3 (Operand.tmp 53),type:=3,pos:= "inclusion.go:87",after:=#[{ on:=1,ground:=Ground.data }],guard:=none },{ dst:=some 55,op:=Op.binOp BinOp.geq 3 (Operand.tmp 54) (Operand.const (Value.int IntKind.i64 0)) 3,type:=4,pos:= "inclusion.go:87",after:=#[{ on:=2,ground:=Ground.data }],guard:=none },{ dst:=some 56,op:=Op.move (Operand.tmp 55),type:=4,pos:= "inclusion.go:87",after:=#[{ on:=3,ground:=Ground.data }],guard:=none },{ dst:=some 57,op:=Op.fieldAddr 134 (Operand.tmp 12) 1,type:=0,pos:= "inclusion.go:87",after:=#[{ on:=4,ground:=Ground.guard }],guard:=some (4,true) },{ dst:=some 58,op:=Op.indexAddr 93 (Operand.tmp 57) (Operand.const (Value.int IntKind.i64 1)),type:=0,pos:= "inclusion.go:87",after:=#[{ on:=5,ground:=Ground.data },{ on:=4,ground:=Ground.guard }],guard:=some (4,true) },{ dst:=some 59,op:=Op.load 3 (Operand.tmp 58),type:=3,pos:= "inclusion.go:87",after:=#[{ on:=6,ground:=Ground.data },{ on:=4,ground:=Ground.guard }],guard:=some (4,true) },{ dst:=some 60,op:=Op.binOp BinOp.geq 3 (Operand.tmp 59) (Operand.const (Value.int IntKind.i64 0)) 3,type:=4,pos:= "inclusion.go:87",after:=#[{ on:=7,ground:=Ground.data },{ on:=4,ground:=Ground.guard }],guard:=some (4,true) },{ dst:=some 61,op:=Op.pick (Operand.tmp 56) (Operand.tmp 60) (Operand.const (Value.bool false)),type:=4,pos:= "inclusion.go:87",after:=#[{ on:=4,ground:=Ground.data },{ on:=8,ground:=Ground.data }],guard:=none },{ dst:=some 62,op:=Op.move (Operand.tmp 61),type:=4,pos:= "inclusion.go:87",after:=#[{ on:=9,ground:=Ground.data },{ on:=4,ground:=Ground.chain }],guard:=none },{ dst:=some 63,op:=Op.load 175 (Operand.tmp 9),type:=175,pos:= "inclusion.go:87",after:=#[{ on:=10,ground:=Ground.guard }],guard:=some (10,true) },{ dst:=some 64,op:=Op.fieldAddr 134 (Operand.tmp 12) 1,type:=0,pos:= "inclusion.go:87",after:=#[{ on:=10,ground:=Ground.guard }],guard:=some (10,true) },{ dst:=some 65,op:=Op.load 93 (Operand.tmp 64),type:=93,pos:= "inclusion.go:87",after:=#[{ on:=12,ground:=Ground.data },{ on:=10,ground:=Ground.guard }],guard:=some (10,true) },{ dst:=some 66,op:=Op.lookup 175 (Operand.tmp 63) (Operand.tmp 65) false,type:=4,pos:= "inclusion.go:87",after:=#[{ on:=11,ground:=Ground.data },{ on:=13,ground:=Ground.data },{ on:=10,ground:=Ground.guard }],guard:=some (10,true) },{ dst:=some 67,op:=Op.unOp UnOp.not 4 (Operand.tmp 66),type:=4,pos:= "inclusion.go:87",after:=#[{ on:=14,ground:=Ground.data },{ on:=10,ground:=Ground.guard }],guard:=some (10,true) },{ dst:=some 68,op:=Op.pick (Operand.tmp 62) (Operand.tmp 67) (Operand.const (Value.bool false)),type:=4,pos:= "inclusion.go:87",after:=#[{ on:=10,ground:=Ground.data },{ on:=15,ground:=Ground.data }],guard:=none }] false).seq (Code.cond (Operand.tmp 68) ((Code.region 12 #[{ dst:=some 69,op:=Op.load 175 (Operand.tmp 9),type:=175,pos:= "inclusion.go:88",after:=#[],guard:=none },{ dst:=some 70,op:=Op.fieldAddr 134 (Operand.tmp 12) 1,type:=0,pos:= "inclusion.go:88",after:=#[],guard:=none },{ dst:=some 71,op:=Op.load 93 (Operand.tmp 70),type:=93,pos:= "inclusion.go:88",after:=#[{ on:=1,ground:=Ground.data }],guard:=none },{ dst:=none,op:=Op.mapUpdate 175 (Operand.tmp 69) (Operand.tmp 71) (Operand.const (Value.bool true)),type:=0,pos:= "inclusion.go:88",after:=#[{ on:=0,ground:=Ground.data },{ on:=2,ground:=Ground.data },{ on:=0,ground:=Ground.phase },{ on:=1,ground:=Ground.phase },{ on:=2,ground:=Ground.phase }],guard:=none }] false).seq (Code.region 13 #[{ dst:=some 72,op:=Op.load 130 (Operand.tmp 8),type:=130,pos:= "inclusion.go:89",after:=#[],guard:=none },{ dst:=some 73,op:=Op.fieldAddr 134 (Operand.tmp 12) 1,type:=0,pos:= "inclusion.go:89",after:=#[],guard:=none },{ dst:=some 74,op:=Op.load 93 (Operand.tmp 73),type:=93,pos:= "inclusion.go:89",after:=#[{ on:=1,ground:=Ground.data }],guard:=none },{ dst:=some 75,op:=Op.load 3 (Operand.tmp 10),type:=3,pos:= "inclusion.go:89",after:=#[],guard:=none },{ dst:=some 76,op:=Op.fieldAddr 134 (Operand.tmp 12) 0,type:=0,pos:= "inclusion.go:89",after:=#[],guard:=none },{ dst:=some 77,op:=Op.load 87 (Operand.tmp 76),type:=87,pos:= "inclusion.go:89",after:=#[{ on:=4,ground:=Ground.data }],guard:=none },{ dst:=some 78,op:=Op.build 174 #[(0,Operand.tmp 74),(1,Operand.tmp 75),(2,Operand.tmp 77)],type:=174,pos:= "inclusion.go:89",after:=#[{ on:=2,ground:=Ground.data },{ on:=3,ground:=Ground.data },{ on:=5,ground:=Ground.data }],guard:=none },{ dst:=some 79,op:=Op.buildSlice 130 1 #[(0,Operand.tmp 78)],type:=130,pos:= "inclusion.go:89",after:=#[{ on:=6,ground:=Ground.data }],guard:=none },{ dst:=some 80,op:=Op.call { callee:=Callee.builtin Builtin.append,args:=#[Operand.tmp 72,Operand.tmp 79],argTypes:=#[130,130] },type:=130,pos:= "inclusion.go:89",after:=#[{ on:=0,ground:=Ground.data },{ on:=7,ground:=Ground.data }],guard:=none },{ dst:=none,op:=Op.store 130 (Operand.tmp 8) (Operand.tmp 80),type:=0,pos:= "inclusion.go:89",after:=#[{ on:=8,ground:=Ground.data },{ on:=8,ground:=Ground.chain },{ on:=0,ground:=Ground.phase },{ on:=1,ground:=Ground.phase },{ on:=2,ground:=Ground.phase },{ on:=3,ground:=Ground.phase },{ on:=4,ground:=Ground.phase },{ on:=5,ground:=Ground.phase },{ on:=6,ground:=Ground.phase },{ on:=7,ground:=Ground.phase },{ on:=8,ground:=Ground.phase }],guard:=none }] false)) Code.skip))))).wp Tryz.prog Q { tmps:=(List.toArray (u0::u1::u2::u3::u4::(.pointer (some ⟨b5,0,none⟩))::(.pointer (some ⟨b6,0,none⟩))::(.pointer (some ⟨b7,0,none⟩))::(.pointer (some ⟨b8,0,none⟩))::(.pointer (some ⟨b9,0,none⟩))::(.pointer (some ⟨bi,0,none⟩))::u11::u12::u13::u14::u15::u16::u17::u18::u19::u20::u21::u22::u23::u24::u25::u26::u27::u28::u29::u30::u31::u32::u33::u34::u35::u36::u37::u38::u39::u40::(.func (.func 176) #[] #[.pointer (some ⟨e1,0,none⟩),.pointer (some ⟨e2,0,none⟩)])::u42::u43::u44::u45::u46::u47::u48::u49::u50::u51::u52::u53::u54::u55::u56::u57::u58::u59::u60::u61::u62::u63::u64::u65::u66::u67::u68::u69::u70::u71::u72::u73::u74::u75::u76::u77::u78::u79::u80::u81::u82::[])),defers:=df } W:=by
 have hl5:=(Array.getElem?_eq_some_iff.1 k5).1
 have hl9:=(Array.getElem?_eq_some_iff.1 k9).1
 have hli:=(Array.getElem?_eq_some_iff.1 ki).1
 refine (wpIn_wide (n:=0)).1 ?_
 refine wpIn_rfS (ps:=#[42]) (gf:=176) (lb:=#[.pointer (some ⟨e1,0,none⟩),.pointer (some ⟨e2,0,none⟩)]) rfl (enters_of Tryz.func176 (by kernel_rfl) rfl) hseq (Below.refl _ _) (fun _=>rfl) (fun _ _ _ _ _ _ h _=>h) (fun _ _ _ _ h=>h)
  (snI n0 b6 b7 b8 mb KA KB i kf R L) (snX b6 b7 R) snI_st snX_st D0 hD hCD hC hWr ⟨vis,Q0,lv,hS,hi,fun r hr=>by rw [List.nil_append] at hr; rw [hr]; exact hes⟩
  (fun x=>((x.1 ++ [x.2.1,x.2.2]).map (Value.int .i64)).toArray) 134 (fun x b _=>(List.toArray (u0::u1::u2::u3::u4::(.pointer (some ⟨b5,0,none⟩))::(.pointer (some ⟨b6,0,none⟩))::(.pointer (some ⟨b7,0,none⟩))::(.pointer (some ⟨b8,0,none⟩))::(.pointer (some ⟨b9,0,none⟩))::(.pointer (some ⟨bi,0,none⟩))::u11::(.pointer (some ⟨b,0,none⟩))::u13::u14::u15::u16::u17::u18::u19::u20::u21::u22::u23::u24::u25::u26::u27::u28::u29::u30::u31::u32::u33::u34::u35::u36::u37::u38::u39::u40::(.func (.func 176) #[] #[.pointer (some ⟨e1,0,none⟩),.pointer (some ⟨e2,0,none⟩)])::(.agg (((x.1 ++ [x.2.1,x.2.2]).map (Value.int .i64)).toArray))::u43::u44::u45::u46::u47::u48::u49::u50::u51::u52::u53::u54::u55::u56::u57::u58::u59::u60::u61::u62::u63::u64::u65::u66::u67::u68::u69::u70::u71::u72::u73::u74::u75::u76::u77::u78::u79::u80::u81::u82::[]))) ?assign ?body ?done ?stop
 case assign=>
  intro l pre x W1 K hx hKK
  obtain ⟨r,hr⟩:=hx
  exact snAssignX (hL7 x (by rw [← hr]; simp)) fun b hb=>by rw [hb]; exact hKK
 case body=>
  rintro l pre ⟨rd,ta,tb⟩ D W1 b ⟨vis1,Q1,lv1,hS1,hi1,hes1⟩ hBd hOn hGr hx _ hb hdb _
  obtain ⟨r,hr⟩:=id hx
  have hm:(rd,ta,tb)∈L:=by rw [← hr]; simp
  obtain ⟨r0,r1,r2,r3,r4,r5,r6,rfl⟩:=seven (hL7 _ hm)
  have hnD:∀ k,k < W.heap.size→¬ (D0 k∨k=e1∨k=e2)→¬ D k:=fun k h1 h2 h3=>by
   rcases hGr k h3 with h | h
   ·exact h2 (.inl h)
   ·omega
  exact snBody hS1 hi1 hes1 hK hBd (Nat.le_trans hn0 hOn.size) ((hOn.same b5 hl5 hd5).trans k5) ((hOn.same b9 hl9 hd9).trans k9) ((hOn.same bi hli hdi).trans ki) hb hdb (hnD b9 hl9 hd9) (hnD bi hli hdi) h67 h86 h87 hm6 hm7 hm8 ⟨r,hr⟩ (hLb _ hm).1 (hLb _ hm).2 (hLK _ hm)
 case done=>
  rintro d xs D W1 hxs ⟨vis1,Q1,lv1,hS1,hi1,hes1⟩ hOn hGr hd hdD hdef
  have:=hes1 [] (by rw [List.append_nil]; exact hxs)
  rw [esSt] at this
  exact hdone d D W1 vis1 Q1 lv1 hS1 hi1 this hOn hd hdef
 case stop=>
  rintro d c pre D W1 _ ⟨rfl,hR,h6,h7,_,_⟩ hOn hGr hd hdD hdef
  exact wpIn_wide.2 (hstop d W1 hR h6 h7 hOn hd hdef)
end Go.Proofs.YtmikofeildnpdaaGreat
