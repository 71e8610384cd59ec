/- Texts of this claim, put together: ZR ZU ZV ZW. -/
import Derived.Test.YtmikofeildnpdaaGreatKYu
import Derived.Test.YtmikofeildnpdaaGreatKYs
import Derived.Test.YtmikofeildnpdaaGreatKYzh
import Derived.Test.YtmikofeildnpdaaGreatKYq
import Derived.Test.YtmikofeildnpdaaGreatKYk
import Derived.Deep.RegionHeld3
import Derived.Test.YtmikofeildnpdaaGreatKYv

set_option maxRecDepth 100000
set_option maxHeartbeats 12800000
/- law21.graphs. -/
namespace Go.Proofs.YtmikofeildnpdaaGreat
open Go.RowKit
def mk2 (p:List Int):List Int:=[2,p.getD 0 0,p.getD 1 0,0,0,0,0,0]
theorem CI.all2 {w:World} {b o:Nat} {x0 x1:Int} (h:CI w b o [x0,x1]):w.cell? ⟨b,o,none⟩=some (.int .i64 x0)∧w.cell? ⟨b,o+1,none⟩=some (.int .i64 x1):=⟨h 0 (show 0 < 2 by decide),h 1 (show 1 < 2 by decide)⟩
theorem OwX.one1 {α:Type} {E:TypeId} {El:World→List Value→α→Prop} {w:World} {g:Nat} {u:Value} {x:α} (h:w.heap[g]? = some (.cells #[u] E)) (h1:u.oneCell'=true) (hE:El w [u] x):OwX E 1 El w 0 (.slice (some ⟨g,0,none⟩) 1 1) 1 [x]:=by
 refine ⟨[u],⟨rfl,.inr ⟨g,1,#[u],rfl,Nat.zero_le _,h,Nat.le_refl _,by decide,rfl,rfl⟩⟩,rfl,fun y hy=>by rw [List.mem_singleton.1 hy]; exact h1,fun j y hj=>?_⟩
 match j,hj with
 | 0,hj=>injection hj with hj; subst hj; exact hE
theorem two {x:List Int} (h:x.length=2):∃ a b,x = [a,b]:=by
 match x,h with
 | [a,b],_=>exact ⟨a,b,rfl⟩
theorem graphsC {w:World} {v:Value} {ps:List (List Int)} (h:KS 2 w v ps) (hl:ps.length≤1000) :
  Calls Tryz.prog 49 #[v] w fun e w'=>∃ r,e = .returned r∧OwAdv w' r 2 [ps.map mk2]∧Below w.heap.size w w':=by
 obtain ⟨va,vc,vb,vo,rfl,hva,hvc,_⟩:=h
 replace hvc:Hid (∀ j,j < ps.length→(ps.getD j []).length=2∧CI w vb (vo+j * 2) (ps.getD j [])):=hvc
 obtain ⟨M,hM⟩:=exE (ps.map mk2)
 have hMl:Hid (M.length=ps.length):=by rw [← hM,List.length_map]; exact rfl
 have hMi:Hid (∀ j,j < ps.length→M.getD j []=mk2 (ps.getD j [])):=fun j hj=>by rw [← hM,getD_eq (by rw [List.length_map]; exact hj),List.getElem_map,getD_eq hj]
 rw [hM]
 replace hM:=Lib.hid hM
 replace hva:=Lib.hid hva
 obtain ⟨W1,hW1⟩:=exF (w.alloc (.cells #[.int .i64 0,.slice none 0 0] 24))
 have hb1:Below w.heap.size w W1:=by rw [hW1]; exact (Below.refl _ w).alloc (Nat.le_refl _) _
 have m1:W1.heap[w.heap.size]? = some (.cells #[.int .i64 0,.slice none 0 0] 24):=by rw [hW1]; exact heap_alloc_new _ _
 have hs1:Hid (W1.heap.size=w.heap.size+1):=by rw [hW1,World.size_alloc]; exact rfl
 have ho1:OwX 100 8 EI W1 W1.heap.size (.slice none 0 0) 0 (M.take 0):=OwX.nil _ _
 have hbr:=Below.refl W1.heap.size W1
 go_enter Tryz.func49, Tryz.ntmps49
 go_wp2_with fail
 rw [← hW1]
 replace hW1:=Lib.hid hW1
 go_loopw [3,8] (fun ov jv wr=>∃ j:Nat,jv = .int .i64 (j:Int)∧j≤ps.length∧OwX 100 8 EI wr W1.heap.size ov j (M.take j)∧Hid (Below W1.heap.size W1 wr)) (fun _ jv _=>ps.length - (intOf jv).toNat)
 case atStart=>exact ⟨0,rfl,Nat.zero_le _,ho1,hbr⟩
 case round=>
  clear ho1 hbr
  obtain ⟨j,rfl,hj,ho,hb⟩:=hrel
  obtain ⟨oa,oc,hov⟩:=ho.shape
  subst hov
  by_cases hlt:j < ps.length
  ·have hltI:(j:Int) < (ps.length:Int):=by omega
   obtain rfl:=hva.out (by omega)
   obtain ⟨hx2,hxc⟩:=hvc.out j hlt
   obtain ⟨x,hx⟩:=exE (ps.getD j [])
   have hstep:M.take (j+1)=M.take j ++ [mk2 x]:=by rw [take_snoc (by rw [hMl.out]; exact hlt) [],hMi.out j hlt,hx]
   rw [hx] at hx2 hxc
   obtain ⟨x0,x1,rfl⟩:=two hx2
   have hbw:=bt hb1 hb.out hb1.size
   obtain ⟨q0,q1⟩:=(hxc.keep hbw).all2
   obtain ⟨W5,hW5⟩:=exF (wr.alloc (.cells #[.int .i64 x0,.int .i64 x1] 93))
   have hb5:Below wr.heap.size wr W5:=by rw [hW5]; exact (Below.refl _ _).alloc (Nat.le_refl _) _
   have m5:W5.heap[wr.heap.size]? = some (.cells #[.int .i64 x0,.int .i64 x1] 93):=by rw [hW5]; exact heap_alloc_new _ _
   obtain ⟨p0,p1⟩:=boxL2 m5
   have ho5:=ho.keep (EI.stab _) hb5
   have hbo5:Below W1.heap.size W1 W5:=hb.out.trans (hb5.mono hb.out.size)
   have hEI:EI W5 [.int .i64 2,.int .i64 x0,.int .i64 x1,.int .i64 0,.int .i64 0,.int .i64 0,.int .i64 0,.int .i64 0] [2,x0,x1,0,0,0,0,0]:=rfl
   have hc8:∀ u∈(#[.int .i64 2,.int .i64 x0,.int .i64 x1,.int .i64 0,.int .i64 0,.int .i64 0,.int .i64 0,.int .i64 0]:Array Value).toList,u.oneCell'=true:=fun u hu=>by
    simp only [List.mem_cons,List.not_mem_nil,or_false] at hu
    rcases hu with rfl | rfl | rfl | rfl | rfl | rfl | rfl | rfl <;> rfl
   have hstep2:Hid (M.take (j+1)=M.take j ++ [[2,x0,x1,0,0,0,0,0]]):=hstep
   clear hx hxc hx2 ho m5 hstep hb5
   go_upto_region 5 with fail
   rw [← hW5]
   replace hW5:=Lib.hid hW5
   go_wp2_with (at_builtin; refine wpAppX elemMv (by decide) (by decide) (EI.stab _) rfl _ _ rfl rfl ho5 rfl rfl rfl hc8 hEI (by omega) hbo5.size ?_)
   intro v' w9 ho9 _ hb9 _
   rw [← hstep2.out] at ho9
   clear ho5 p0 p1
   go_wp2_with fail
   go_roundw
   case rel=>exact ⟨j+1,by go_num,by omega,ho9,hbo5.trans hb9⟩
   case measure=>simp [intOf]; omega
  ·obtain rfl:j=ps.length:=by omega
   rw [List.take_of_length_le (by rw [hMl.out]; exact Nat.le_refl _)] at ho
   have hbw:=bt hb1 hb.out hb1.size
   obtain ⟨W5,hW5⟩:=exF (wr.alloc (.cells #[.slice oa ps.length oc] 98))
   have hb5:Below wr.heap.size wr W5:=by rw [hW5]; exact (Below.refl _ _).alloc (Nat.le_refl _) _
   have m5:W5.heap[wr.heap.size]? = some (.cells #[.slice oa ps.length oc] 98):=by rw [hW5]; exact heap_alloc_new _ _
   have hm1:=(hb.out.trans (hb5.mono hb.out.size)).block w.heap.size (by rw [hs1.out]; omega)
   have c1:=hm1.trans m1
   obtain ⟨z0,z1⟩:=boxL2 c1
   obtain ⟨f0,f1⟩:=freeL2 c1
   rw [hW5] at z0 z1 f0 f1
   have ho5:=ho.keep (EI.stab _) hb5
   have hbw5:=hbw.trans (hb5.mono hbw.size)
   clear ho m1 hm1
   go_wp2
   rw [← hW5]
   refine storeEnd2 (u0:=.int .i64 2) (u1:=.slice (some ⟨wr.heap.size,0,none⟩) 1 1) c1 ?_
   intro W9 hW9 hb9 hk9 _ e0 e1
   rw [← hW9]
   have hE9:ESt W9 [.slice oa ps.length oc] M:=⟨_,rfl,by rw [hMl.out]; exact (ho5.other (E':=24) (EI.stab _) (by decide) hk9).base (Nat.zero_le _)⟩
   have hfin:OwAdv W9 (.agg #[.int .i64 2,.slice (some ⟨wr.heap.size,0,none⟩) 1 1]) 2 [M]:=⟨_,rfl,OwX.one1 ((hk9 _ _ _ m5 (by decide)).trans m5) rfl hE9,show 1≤5864062014805 by decide,fun x hx=>by rw [List.mem_singleton.1 hx,hMl.out]; omega⟩
   refine bodyPost_ret (v:=.agg #[.int .i64 2,.slice (some ⟨wr.heap.size,0,none⟩) 1 1]) (by simp [results,Tryz.results49,go_sem,e0,e1]) rfl ?_
   exact ⟨_,rfl,hfin,hb9 _ _ (by omega) hbw5⟩
end Go.Proofs.YtmikofeildnpdaaGreat

/- The examples of law21.awake. -/
namespace Go.Proofs.YtmikofeildnpdaaGreat
open Go.RowKit
def awS1:List (List (List Int)):=[[[3,2],[3,3]].map mk2]
def awS2:List (List (List Int)):=[[[1,3],[3,2],[3,3]].map mk2]
def awS3:List (List (List Int)):=[[[1,3],[3,3]].map mk2]
theorem awn1:chkA 2 awS1=0:=by decide +kernel
theorem awn2:chkA 2 awS2=0:=by decide +kernel
theorem awn3:renA [1,0] awS1=awS3:=by decide +kernel
theorem aw4:renA [1,0] awS2=awS2:=by decide +kernel
theorem aw5:renA [0,1] awS2=awS2:=by decide +kernel
theorem aw6:renA [0,1] awS1=awS1:=by decide +kernel
theorem aw7:chkT 2 2 2 csC=0:=by decide +kernel
theorem awn8:everyL 2 = [[0,1],[1,0]]:=by decide +kernel
theorem awn9:symT 2 csC = [[0,1],[1,0]]:=by decide +kernel
theorem awF1:FewS awS1:=⟨by decide,by decide +kernel⟩
theorem awF2:FewS awS2:=⟨by decide,by decide +kernel⟩
theorem awW1:WfN 2 awS1:=WfN.of (by decide) awn1
theorem awP:IsP 2 [1,0]:=⟨rfl,by decide,by decide⟩
theorem awK1:kpG awS1 [0,1]=true:=kpG_iff.2 (fun w=>by rw [aw6])
theorem awK2:kpG awS1 [1,0]=false:=by
 rw [Bool.eq_false_iff]
 intro h
 have h:=(kpG_iff.1 h [[2,3,2,0,0,0,0]]).1 ⟨by decide +kernel,trivial⟩
 rw [awn3] at h
 exact absurd h.1 (by decide +kernel)
theorem awK3:kpG awS2 [0,1]=true:=kpG_iff.2 (fun w=>by rw [aw5])
theorem awK4:kpG awS2 [1,0]=true:=kpG_iff.2 (fun w=>by rw [aw4])
theorem awG1:grpL 2 awS1 = [[0,1]]:=by
 rw [grpL,if_pos awn1,show (2:Int).toNat=2 from rfl,awn8]
 simp [awK1,awK2]
theorem awG2:grpL 2 awS2 = [[0,1],[1,0]]:=by
 rw [grpL,if_pos awn2,show (2:Int).toNat=2 from rfl,awn8]
 simp [awK3,awK4]
theorem awY2:symP 2 csC awS2 = [[0,1],[1,0]]:=by
 rw [symP,awn9]
 simp [awK3,awK4]
theorem awY1:symP 2 csC awS1 = [[0,1]]:=by
 rw [symP,awn9]
 simp [awK1,awK2]
theorem awO0:chkList 4 [[1,0,2,3]]=0:=by decide +kernel
theorem awO1:obsR 4 [[1,0,2,3]] = [[0,1],[2],[3]]:=by
 have hz:chkList ((4:Nat):Int) [[1,0,2,3]]=0:=awO0
 have hG:=(genR_grp hz).1
 rw [obsR,if_pos awO0,show (4:Int).toNat=4 from rfl]
 exact (orb_eq (by decide) (by decide) hG).trans (by decide +kernel)
end Go.Proofs.YtmikofeildnpdaaGreat

/- For law21.awake. -/
namespace Go.Proofs.YtmikofeildnpdaaGreat
open Go.RowKit
theorem ks4 {W:World} {b:Nat} {x0 x1 x2 x3:Int} (h:W.heap[b]? = some (.cells #[.int .i64 x0,.int .i64 x1,.int .i64 x2,.int .i64 x3] 93)):KS 2 W (.slice (some ⟨b,0,none⟩) 2 2) [[x0,x1],[x2,x3]]:=by
 obtain ⟨p0,p1,p2,p3⟩:=boxL4 h
 refine ⟨_,_,b,0,rfl,fun _=>rfl,fun j hj=>?_,show 2≤2199023255552 by decide⟩
 match j,hj with
 | 0,_=>exact ⟨rfl,fun i hi=>by match i,hi with | 0,_=>exact p0 | 1,_=>exact p1⟩
 | 1,_=>exact ⟨rfl,fun i hi=>by match i,hi with | 0,_=>exact p2 | 1,_=>exact p3⟩
theorem ks6 {W:World} {b:Nat} {x0 x1 x2 x3 x4 x5:Int} (h:W.heap[b]? = some (.cells #[.int .i64 x0,.int .i64 x1,.int .i64 x2,.int .i64 x3,.int .i64 x4,.int .i64 x5] 93)):KS 2 W (.slice (some ⟨b,0,none⟩) 3 3) [[x0,x1],[x2,x3],[x4,x5]]:=by
 obtain ⟨p0,p1,p2,p3,p4,p5⟩:=boxL6 h
 refine ⟨_,_,b,0,rfl,fun _=>rfl,fun j hj=>?_,show 3≤2199023255552 by decide⟩
 match j,hj with
 | 0,_=>exact ⟨rfl,fun i hi=>by match i,hi with | 0,_=>exact p0 | 1,_=>exact p1⟩
 | 1,_=>exact ⟨rfl,fun i hi=>by match i,hi with | 0,_=>exact p2 | 1,_=>exact p3⟩
 | 2,_=>exact ⟨rfl,fun i hi=>by match i,hi with | 0,_=>exact p4 | 1,_=>exact p5⟩
def GrOut (S:List (List (List Int))) (W:World) (e:Ending) (w':World):Prop:=∃ a c,e = .returned (.agg #[.int .i64 2,.slice a 1 c])∧OwAdv w' (.agg #[.int .i64 2,.slice a 1 c]) 2 S∧Below W.heap.size W w'
theorem gr4 {S:List (List (List Int))} {x0 x1 x2 x3:Int} (hS : [[[x0,x1],[x2,x3]].map mk2]=S) (W:World) (b:Nat) (h:W.heap[b]? = some (.cells #[.int .i64 x0,.int .i64 x1,.int .i64 x2,.int .i64 x3] 93)) :
  Calls Tryz.prog 49 #[.slice (some ⟨b,0,none⟩) 2 2] W (GrOut S W):=by
 refine (graphsC (ks4 h) (show 2≤1000 by decide)).mono ?_
 rintro e w' ⟨r,rfl,hr,hb⟩
 rw [hS] at hr
 obtain ⟨a,c,rfl⟩:=advShape' hr.adv
 rw [← hS] at hr
 exact ⟨a,c,by rw [← hS]; rfl,by rw [← hS]; exact hr,hb⟩
theorem gr6 {S:List (List (List Int))} {x0 x1 x2 x3 x4 x5:Int} (hS : [[[x0,x1],[x2,x3],[x4,x5]].map mk2]=S) (W:World) (b:Nat) (h:W.heap[b]? = some (.cells #[.int .i64 x0,.int .i64 x1,.int .i64 x2,.int .i64 x3,.int .i64 x4,.int .i64 x5] 93)) :
  Calls Tryz.prog 49 #[.slice (some ⟨b,0,none⟩) 3 3] W (GrOut S W):=by
 refine (graphsC (ks6 h) (show 3≤1000 by decide)).mono ?_
 rintro e w' ⟨r,rfl,hr,hb⟩
 rw [hS] at hr
 obtain ⟨a,c,rfl⟩:=advShape' hr.adv
 rw [← hS] at hr
 exact ⟨a,c,by rw [← hS]; rfl,by rw [← hS]; exact hr,hb⟩
theorem FewS.m' {ss:List (List (List Int))} (h:FewS ss):movesN ss≤1000000000:=by have:=h.m; omega
def PmOut (W:World) (e:Ending) (w':World):Prop:=∃ a c,e = .returned (.tuple #[.agg #[.int .i64 2,.slice a 1 c],.int .i64 0])∧OwAdv w' (.agg #[.int .i64 2,.slice a 1 c]) 2 awS3∧Below W.heap.size W w'
theorem permOut {W:World} {v u:Value} (hv:AdvV W v 2 awS1) (hu:Ints W u [1,0]):Calls Tryz.prog 13 #[v,u] W (PmOut W):=by
 refine (permuteGood (n:=2) hv hu awF1.m' awW1 awP).mono ?_
 rintro e w' ⟨r,rfl,hr,hb⟩
 rw [awn3] at hr
 obtain ⟨a,c,rfl⟩:=advShape' hr.adv
 exact ⟨a,c,rfl,hr,hb⟩
theorem ints2 {W:World} {b:Nat} {x y:Int} (h:W.heap[b]? = some (.cells #[.int .i64 x,.int .i64 y] 3)):Ints W (.slice (some ⟨b,0,none⟩) 2 2) [x,y]:=IntB.ints ⟨_,rfl,h⟩
def CnOut (W:World) (e:Ending) (w':World):Prop:=∃ a c,e = .returned (.agg #[.int .i64 2,.int .i64 2,.int .i64 2,.slice a 4 c])∧TaskV w' (.agg #[.int .i64 2,.int .i64 2,.int .i64 2,.slice a 4 c]) 2 2 2 csC∧Below W.heap.size W w'
theorem consOut {W:World}:Calls Tryz.prog 50 #[] W (CnOut W):=by
 refine consensusC.mono ?_
 rintro e w' ⟨r,rfl,⟨sv,rfl,hS⟩,hb⟩
 obtain ⟨sa,sc,rfl⟩:=hS.shape
 exact ⟨sa,sc,rfl,⟨_,rfl,hS⟩,hb⟩
theorem symOut1 {W:World} {sa:Option Addr} {sc:Nat} {a:Option Addr} {c:Nat} (hT:TaskV W (.agg #[.int .i64 2,.int .i64 2,.int .i64 2,.slice sa 4 sc]) 2 2 2 csC) (hA:AdvC W (.agg #[.int .i64 2,.slice a 1 c]) 2 awS1) :
  Calls Tryz.prog 38 #[.agg #[.int .i64 2,.int .i64 2,.int .i64 2,.slice sa 4 sc,.int .i64 2,.slice a 1 c,.int .i64 1]] W (RII W [[0,1]] 0):=by
 have:=symmetriesC (n:=2) (ins:=2) (outs:=2) (cs:=csC) (ss:=awS1) (r:=1) ⟨_,_,rfl,hT,hA⟩ ⟨aw7,awn1,by decide,by decide,awF1⟩
 rwa [awY1] at this
theorem symOut2 {W:World} {sa:Option Addr} {sc:Nat} {a:Option Addr} {c:Nat} (hT:TaskV W (.agg #[.int .i64 2,.int .i64 2,.int .i64 2,.slice sa 4 sc]) 2 2 2 csC) (hA:AdvC W (.agg #[.int .i64 2,.slice a 1 c]) 2 awS2) :
  Calls Tryz.prog 38 #[.agg #[.int .i64 2,.int .i64 2,.int .i64 2,.slice sa 4 sc,.int .i64 2,.slice a 1 c,.int .i64 1]] W (RII W [[0,1],[1,0]] 0):=by
 have:=symmetriesC (n:=2) (ins:=2) (outs:=2) (cs:=csC) (ss:=awS2) (r:=1) ⟨_,_,rfl,hT,hA⟩ ⟨aw7,awn2,by decide,by decide,awF2⟩
 rwa [awY2] at this
theorem intss2 {w:World} {g:Nat} {u v:Value} {x y:List Int} (h:w.heap[g]? = some (.cells #[u,v] 25)) (hx:Ints w u x) (hy:Ints w v y):Intss w (.slice (some ⟨g,0,none⟩) 2 2) [x,y]:=by
 obtain ⟨p0,p1⟩:=boxL2 h
 refine ⟨_,_,g,0,rfl,fun _=>rfl,fun j hj=>?_,show 2≤5864062014805 by decide⟩
 match j,hj with
 | 0,_=>exact ⟨_,p0,hx⟩
 | 1,_=>exact ⟨_,p1,hy⟩
theorem orbIn (w:World):Below w.heap.size w ((w.alloc (.cells #[.int .i64 1,.int .i64 0,.int .i64 2,.int .i64 3] 3)).alloc (.cells #[.slice (some ⟨w.heap.size,0,none⟩) 4 4] 25))∧
  Intss ((w.alloc (.cells #[.int .i64 1,.int .i64 0,.int .i64 2,.int .i64 3] 3)).alloc (.cells #[.slice (some ⟨w.heap.size,0,none⟩) 4 4] 25)) (.slice (some ⟨w.heap.size+1,0,none⟩) 1 1) [[1,0,2,3]]:=by
 obtain ⟨W1,hW1⟩:=exF (w.alloc (.cells #[.int .i64 1,.int .i64 0,.int .i64 2,.int .i64 3] 3))
 have h1:W1.heap[w.heap.size]? = some (.cells #[.int .i64 1,.int .i64 0,.int .i64 2,.int .i64 3] 3):=by rw [hW1]; exact heap_alloc_new _ _
 have hs:W1.heap.size=w.heap.size+1:=by rw [hW1,World.size_alloc]
 have hb1:Below w.heap.size w W1:=by rw [hW1]; exact (Below.refl _ _).alloc (Nat.le_refl _) _
 rw [← hW1]
 have hb2:=(Below.refl W1.heap.size W1).alloc (Nat.le_refl _) (.cells #[.slice (some ⟨w.heap.size,0,none⟩) 4 4] 25)
 refine ⟨bt hb1 hb2 hb1.size,?_⟩
 rw [← hs]
 refine intss1 (heap_alloc_new _ _) (Ints.keep ?_ hb2)
 obtain ⟨p0,p1,p2,p3⟩:=boxL4 h1
 refine ⟨_,_,w.heap.size,0,rfl,fun _=>rfl,fun j hj=>?_,show 4≤17592186044416 by decide⟩
 match j,hj with
 | 0,_=>exact p0
 | 1,_=>exact p1
 | 2,_=>exact p2
 | 3,_=>exact p3
theorem orbOut {W:World} {v:Value} (h:Intss W v [[1,0,2,3]]):Calls Tryz.prog 22 #[.int .i64 4,v] W (RII W [[0,1],[2],[3]] 0):=by
 have:=orbitsC 4 h
 rwa [awO1,awO0] at this
theorem awRows {w W:World} (hW:W=((((w.alloc (.cells #[.int .i64 0,.int .i64 1] 3)).alloc (.cells #[.slice (some ⟨w.heap.size,0,none⟩) 2 2] 25)).alloc (.cells #[.int .i64 0,.int .i64 1] 3)).alloc (.cells #[.int .i64 1,.int .i64 0] 3)).alloc
   (.cells #[.slice (some ⟨w.heap.size+1+1,0,none⟩) 2 2,.slice (some ⟨w.heap.size+1+1+1,0,none⟩) 2 2] 25)) :
  Below w.heap.size w W∧Intss W (.slice (some ⟨w.heap.size+1,0,none⟩) 1 1) [[0,1]]∧Intss W (.slice (some ⟨w.heap.size+1+1+1+1,0,none⟩) 2 2) [[0,1],[1,0]]:=by
 obtain ⟨W1,h1⟩:=exF (w.alloc (.cells #[.int .i64 0,.int .i64 1] 3))
 obtain ⟨W2,h2⟩:=exF (W1.alloc (.cells #[.slice (some ⟨w.heap.size,0,none⟩) 2 2] 25))
 obtain ⟨W3,h3⟩:=exF (W2.alloc (.cells #[.int .i64 0,.int .i64 1] 3))
 obtain ⟨W4,h4⟩:=exF (W3.alloc (.cells #[.int .i64 1,.int .i64 0] 3))
 rw [← h1,← h2,← h3,← h4] at hW
 have s1:W1.heap.size=w.heap.size+1:=by rw [h1,World.size_alloc]
 have s2:W2.heap.size=w.heap.size+1+1:=by rw [h2,World.size_alloc,s1]
 have s3:W3.heap.size=w.heap.size+1+1+1:=by rw [h3,World.size_alloc,s2]
 have s4:W4.heap.size=w.heap.size+1+1+1+1:=by rw [h4,World.size_alloc,s3]
 have b1:Below w.heap.size w W1:=by rw [h1]; exact (Below.refl _ _).alloc (Nat.le_refl _) _
 have b2:Below W1.heap.size W1 W2:=by rw [h2]; exact (Below.refl _ _).alloc (Nat.le_refl _) _
 have b3:Below W2.heap.size W2 W3:=by rw [h3]; exact (Below.refl _ _).alloc (Nat.le_refl _) _
 have b4:Below W3.heap.size W3 W4:=by rw [h4]; exact (Below.refl _ _).alloc (Nat.le_refl _) _
 have b5:Below W4.heap.size W4 W:=by rw [hW]; exact (Below.refl _ _).alloc (Nat.le_refl _) _
 have m1:W1.heap[w.heap.size]? = some (.cells #[.int .i64 0,.int .i64 1] 3):=by rw [h1]; exact heap_alloc_new _ _
 have m2:W2.heap[W1.heap.size]? = some (.cells #[.slice (some ⟨w.heap.size,0,none⟩) 2 2] 25):=by rw [h2]; exact heap_alloc_new _ _
 have m3:W3.heap[W2.heap.size]? = some (.cells #[.int .i64 0,.int .i64 1] 3):=by rw [h3]; exact heap_alloc_new _ _
 have m4:W4.heap[W3.heap.size]? = some (.cells #[.int .i64 1,.int .i64 0] 3):=by rw [h4]; exact heap_alloc_new _ _
 have m5:W.heap[W4.heap.size]? = some (.cells #[.slice (some ⟨W2.heap.size,0,none⟩) 2 2,.slice (some ⟨W3.heap.size,0,none⟩) 2 2] 25):=by rw [hW,s2,s3]; exact heap_alloc_new _ _
 have b45:=btt b4 b5
 have b35:=btt b3 b45
 have b25:=btt b2 b35
 rw [← s4,← s1]
 exact ⟨bt b1 b25 b1.size,(intss1 m2 ((ints2 m1).keep b2)).keep b35,intss2 m5 ((ints2 m3).keep b45) ((ints2 m4).keep b5)⟩
theorem sAll {w:World} {u v:Value} {xs:List (List Int)} (h:Intss w u xs) (h':Intss w v xs):Calls Tryz.prog 20 #[u,v] w fun e w'=>e = .returned (.bool true)∧Qt w w':=by
 have:=refSameAll h h'
 rwa [show sameAllB xs xs=true by simp [sameAllB]] at this
theorem ints1 {W:World} {b:Nat} {x:Int} (h:W.heap[b]? = some (.cells #[.int .i64 x] 3)):Ints W (.slice (some ⟨b,0,none⟩) 1 1) [x]:=by
 refine ⟨_,_,b,0,rfl,fun _=>rfl,fun j hj=>?_,show 1≤17592186044416 by decide⟩
 match j,hj with
 | 0,_=>exact cell_of_one h
theorem intss3 {w:World} {g:Nat} {u v t:Value} {x y z:List Int} (h:w.heap[g]? = some (.cells #[u,v,t] 25)) (hx:Ints w u x) (hy:Ints w v y) (hz:Ints w t z):Intss w (.slice (some ⟨g,0,none⟩) 3 3) [x,y,z]:=by
 obtain ⟨p0,p1,p2⟩:=boxL3 h
 refine ⟨_,_,g,0,rfl,fun _=>rfl,fun j hj=>?_,show 3≤5864062014805 by decide⟩
 match j,hj with
 | 0,_=>exact ⟨_,p0,hx⟩
 | 1,_=>exact ⟨_,p1,hy⟩
 | 2,_=>exact ⟨_,p2,hz⟩
end Go.Proofs.YtmikofeildnpdaaGreat

/- law21.awake: its region 9. -/
namespace Go.Proofs.YtmikofeildnpdaaGreat
open Go.RowKit
theorem wanted_of {o:Oper} {f:Nat→Option Bool} {j:Nat} (hg:o.guard=some (j,true)) (hy:f j=some true):Region.wanted o f=true:=by simp [Region.wanted,hg,hy]
theorem yielded_of {ops:Array Oper} {tmps:Array Value} {j t:Nat} (h1:(ops[j]?).bind (·.dst)=some t) (h2:tmps[t]? = some (.bool true)):yielded ops tmps j=some true:=by simp [yielded,h1,h2]
def oAwake9_0:Oper:=⟨some 67,Op.move (Operand.tmp 4),28,"law.go:45",#[],none⟩
def oAwake9_1:Oper:=⟨some 68,Op.move (Operand.tmp 6),28,"law.go:45",#[],none⟩
def oAwake9_2:Oper:=⟨some 69,Op.binOp BinOp.add 28 (Operand.tmp 67) (Operand.tmp 68) 28,28,"law.go:45",#[⟨0,.data⟩,⟨1,.data⟩],none⟩
def oAwake9_3:Oper:=⟨some 70,Op.move (Operand.tmp 8),28,"law.go:45",#[],none⟩
def oAwake9_4:Oper:=⟨some 71,Op.binOp BinOp.add 28 (Operand.tmp 69) (Operand.tmp 70) 28,28,"law.go:45",#[⟨2,.data⟩,⟨3,.data⟩],none⟩
def oAwake9_5:Oper:=⟨some 72,Op.move (Operand.tmp 10),28,"law.go:45",#[],none⟩
def oAwake9_6:Oper:=⟨some 73,Op.binOp BinOp.add 28 (Operand.tmp 71) (Operand.tmp 72) 28,28,"law.go:45",#[⟨4,.data⟩,⟨5,.data⟩],none⟩
def oAwake9_7:Oper:=⟨some 74,Op.move (Operand.tmp 12),28,"law.go:45",#[],none⟩
def oAwake9_8:Oper:=⟨some 75,Op.binOp BinOp.add 28 (Operand.tmp 73) (Operand.tmp 74) 28,28,"law.go:45",#[⟨6,.data⟩,⟨7,.data⟩],none⟩
def oAwake9_9:Oper:=⟨some 76,Op.move (Operand.tmp 14),28,"law.go:45",#[],none⟩
def oAwake9_10:Oper:=⟨some 77,Op.binOp BinOp.add 28 (Operand.tmp 75) (Operand.tmp 76) 28,28,"law.go:45",#[⟨8,.data⟩,⟨9,.data⟩],none⟩
def oAwake9_11:Oper:=⟨some 78,Op.binOp BinOp.eql 28 (Operand.tmp 77) (Operand.const (Value.int IntKind.i64 0)) 28,4,"law.go:45",#[⟨10,.data⟩],none⟩
def oAwake9_12:Oper:=⟨some 79,Op.move (Operand.tmp 78),4,"law.go:45",#[⟨11,.data⟩],none⟩
def oAwake9_13:Oper:=⟨some 80,Op.load 24 (Operand.tmp 3),24,"law.go:45",#[⟨12,.guard⟩],some (12,true)⟩
def oAwake9_14:Oper:=⟨some 81,Op.build 93 #[(0,Operand.const (Value.int IntKind.i64 1)),(1,Operand.const (Value.int IntKind.i64 3))],93,"law.go:45",#[⟨12,.guard⟩],some (12,true)⟩
def oAwake9_15:Oper:=⟨some 82,Op.build 93 #[(0,Operand.const (Value.int IntKind.i64 3)),(1,Operand.const (Value.int IntKind.i64 3))],93,"law.go:45",#[⟨12,.guard⟩],some (12,true)⟩
def oAwake9_16:Oper:=⟨some 83,Op.buildSlice 149 2 #[(0,Operand.tmp 81),(1,Operand.tmp 82)],149,"law.go:45",#[⟨14,.data⟩,⟨15,.data⟩,⟨12,.guard⟩],some (12,true)⟩
def oAwake9_17:Oper:=⟨some 84,Op.call { callee:=Callee.value (Operand.func 49),args:=#[Operand.tmp 83],argTypes:=#[149] },24,"law.go:45",#[⟨16,.data⟩,⟨12,.chain⟩,⟨12,.guard⟩],some (12,true)⟩
def oAwake9_18:Oper:=⟨some 85,Op.call { callee:=Callee.value (Operand.func 17),args:=#[Operand.tmp 80,Operand.tmp 84],argTypes:=#[24,24] },4,"law.go:45",#[⟨13,.data⟩,⟨17,.data⟩,⟨17,.chain⟩,⟨12,.guard⟩],some (12,true)⟩
def oAwake9_19:Oper:=⟨some 86,Op.pick (Operand.tmp 79) (Operand.tmp 85) (Operand.const (Value.bool false)),4,"law.go:45",#[⟨12,.data⟩,⟨18,.data⟩],none⟩
def oAwake9_20:Oper:=⟨some 87,Op.move (Operand.tmp 86),4,"law.go:45",#[⟨19,.data⟩,⟨18,.chain⟩],none⟩
def oAwake9_21:Oper:=⟨some 88,Op.move (Operand.tmp 5),39,"law.go:45",#[⟨20,.guard⟩],some (20,true)⟩
def oAwake9_22:Oper:=⟨some 89,Op.move (Operand.tmp 15),39,"law.go:45",#[⟨20,.guard⟩],some (20,true)⟩
def oAwake9_23:Oper:=⟨some 90,Op.call { callee:=Callee.value (Operand.func 20),args:=#[Operand.tmp 88,Operand.tmp 89],argTypes:=#[39,39] },4,"law.go:45",#[⟨21,.data⟩,⟨22,.data⟩,⟨20,.chain⟩,⟨20,.guard⟩],some (20,true)⟩
def oAwake9_24:Oper:=⟨some 91,Op.pick (Operand.tmp 87) (Operand.tmp 90) (Operand.const (Value.bool false)),4,"law.go:45",#[⟨20,.data⟩,⟨23,.data⟩],none⟩
def oAwake9_25:Oper:=⟨some 92,Op.move (Operand.tmp 91),4,"law.go:45",#[⟨24,.data⟩,⟨23,.chain⟩],none⟩
def oAwake9_26:Oper:=⟨some 93,Op.move (Operand.tmp 7),39,"law.go:45",#[⟨25,.guard⟩],some (25,true)⟩
def oAwake9_27:Oper:=⟨some 94,Op.move (Operand.tmp 16),39,"law.go:45",#[⟨25,.guard⟩],some (25,true)⟩
def oAwake9_28:Oper:=⟨some 95,Op.call { callee:=Callee.value (Operand.func 20),args:=#[Operand.tmp 93,Operand.tmp 94],argTypes:=#[39,39] },4,"law.go:45",#[⟨26,.data⟩,⟨27,.data⟩,⟨25,.chain⟩,⟨25,.guard⟩],some (25,true)⟩
def oAwake9_29:Oper:=⟨some 96,Op.pick (Operand.tmp 92) (Operand.tmp 95) (Operand.const (Value.bool false)),4,"law.go:45",#[⟨25,.data⟩,⟨28,.data⟩],none⟩
def oAwake9_30:Oper:=⟨some 97,Op.move (Operand.tmp 96),4,"law.go:45",#[⟨29,.data⟩,⟨28,.chain⟩],none⟩
def oAwake9_31:Oper:=⟨some 98,Op.move (Operand.tmp 9),39,"law.go:45",#[⟨30,.guard⟩],some (30,true)⟩
def oAwake9_32:Oper:=⟨some 99,Op.move (Operand.tmp 16),39,"law.go:45",#[⟨30,.guard⟩],some (30,true)⟩
def oAwake9_33:Oper:=⟨some 100,Op.call { callee:=Callee.value (Operand.func 20),args:=#[Operand.tmp 98,Operand.tmp 99],argTypes:=#[39,39] },4,"law.go:45",#[⟨31,.data⟩,⟨32,.data⟩,⟨30,.chain⟩,⟨30,.guard⟩],some (30,true)⟩
def oAwake9_34:Oper:=⟨some 101,Op.pick (Operand.tmp 97) (Operand.tmp 100) (Operand.const (Value.bool false)),4,"law.go:45",#[⟨30,.data⟩,⟨33,.data⟩],none⟩
def oAwake9_35:Oper:=⟨some 102,Op.move (Operand.tmp 101),4,"law.go:45",#[⟨34,.data⟩,⟨33,.chain⟩],none⟩
def oAwake9_36:Oper:=⟨some 103,Op.move (Operand.tmp 11),39,"law.go:45",#[⟨35,.guard⟩],some (35,true)⟩
def oAwake9_37:Oper:=⟨some 104,Op.move (Operand.tmp 15),39,"law.go:45",#[⟨35,.guard⟩],some (35,true)⟩
def oAwake9_38:Oper:=⟨some 105,Op.call { callee:=Callee.value (Operand.func 20),args:=#[Operand.tmp 103,Operand.tmp 104],argTypes:=#[39,39] },4,"law.go:45",#[⟨36,.data⟩,⟨37,.data⟩,⟨35,.chain⟩,⟨35,.guard⟩],some (35,true)⟩
def oAwake9_39:Oper:=⟨some 106,Op.pick (Operand.tmp 102) (Operand.tmp 105) (Operand.const (Value.bool false)),4,"law.go:45",#[⟨35,.data⟩,⟨38,.data⟩],none⟩
def oAwake9_40:Oper:=⟨some 107,Op.move (Operand.tmp 106),4,"law.go:45",#[⟨39,.data⟩,⟨38,.chain⟩],none⟩
def oAwake9_41:Oper:=⟨some 108,Op.move (Operand.tmp 13),39,"law.go:45",#[⟨40,.guard⟩],some (40,true)⟩
def oAwake9_42:Oper:=⟨some 109,Op.buildSlice 25 2 #[(0,Operand.const (Value.int IntKind.i64 0)),(1,Operand.const (Value.int IntKind.i64 1))],25,"law.go:45",#[⟨40,.guard⟩],some (40,true)⟩
def oAwake9_43:Oper:=⟨some 110,Op.buildSlice 25 1 #[(0,Operand.const (Value.int IntKind.i64 2))],25,"law.go:45",#[⟨40,.guard⟩],some (40,true)⟩
def oAwake9_44:Oper:=⟨some 111,Op.buildSlice 25 1 #[(0,Operand.const (Value.int IntKind.i64 3))],25,"law.go:45",#[⟨40,.guard⟩],some (40,true)⟩
def oAwake9_45:Oper:=⟨some 112,Op.buildSlice 39 3 #[(0,Operand.tmp 109),(1,Operand.tmp 110),(2,Operand.tmp 111)],39,"law.go:45",#[⟨42,.data⟩,⟨43,.data⟩,⟨44,.data⟩,⟨40,.guard⟩],some (40,true)⟩
def oAwake9_46:Oper:=⟨some 113,Op.call { callee:=Callee.value (Operand.func 20),args:=#[Operand.tmp 108,Operand.tmp 112],argTypes:=#[39,39] },4,"law.go:45",#[⟨41,.data⟩,⟨45,.data⟩,⟨40,.chain⟩,⟨40,.guard⟩],some (40,true)⟩
def oAwake9_47:Oper:=⟨some 114,Op.pick (Operand.tmp 107) (Operand.tmp 113) (Operand.const (Value.bool false)),4,"law.go:45",#[⟨40,.data⟩,⟨46,.data⟩],none⟩
def oAwake9_48:Oper:=⟨some 0,Op.assign (Operand.tmp 114),4,"law.go:45",#[⟨47,.data⟩,⟨46,.chain⟩,⟨0,.phase⟩,⟨1,.phase⟩,⟨2,.phase⟩,⟨3,.phase⟩,⟨4,.phase⟩,⟨5,.phase⟩,⟨6,.phase⟩,⟨7,.phase⟩,⟨8,.phase⟩,⟨9,.phase⟩,⟨10,.phase⟩,⟨11,.phase⟩,⟨12,.phase⟩,⟨13,.phase⟩,⟨14,.phase⟩,⟨15,.phase⟩,⟨16,.phase⟩,⟨17,.phase⟩,⟨18,.phase⟩,⟨19,.phase⟩,⟨20,.phase⟩,⟨21,.phase⟩,⟨22,.phase⟩,⟨23,.phase⟩,⟨24,.phase⟩,⟨25,.phase⟩,⟨26,.phase⟩,⟨27,.phase⟩,⟨28,.phase⟩,⟨29,.phase⟩,⟨30,.phase⟩,⟨31,.phase⟩,⟨32,.phase⟩,⟨33,.phase⟩,⟨34,.phase⟩,⟨35,.phase⟩,⟨36,.phase⟩,⟨37,.phase⟩,⟨38,.phase⟩,⟨39,.phase⟩,⟨40,.phase⟩,⟨41,.phase⟩,⟨42,.phase⟩,⟨43,.phase⟩,⟨44,.phase⟩,⟨45,.phase⟩,⟨46,.phase⟩,⟨47,.phase⟩],none⟩
def opsAwake9:List Oper:=[oAwake9_0,oAwake9_1,oAwake9_2,oAwake9_3,oAwake9_4,oAwake9_5,oAwake9_6,oAwake9_7,oAwake9_8,oAwake9_9,oAwake9_10,oAwake9_11,oAwake9_12,oAwake9_13,oAwake9_14,oAwake9_15,oAwake9_16,oAwake9_17,oAwake9_18,oAwake9_19,oAwake9_20,oAwake9_21,oAwake9_22,oAwake9_23,oAwake9_24,oAwake9_25,oAwake9_26,oAwake9_27,oAwake9_28,oAwake9_29,oAwake9_30,oAwake9_31,oAwake9_32,oAwake9_33,oAwake9_34,oAwake9_35,oAwake9_36,oAwake9_37,oAwake9_38,oAwake9_39,oAwake9_40,oAwake9_41,oAwake9_42,oAwake9_43,oAwake9_44,oAwake9_45,oAwake9_46,oAwake9_47,oAwake9_48]
theorem regAwake9 {w:World} {x0 x1 x2 x17 x18 x19 x20 x21 x22 x23 x24 x25 x26 x27 x28 x29 x30 x31 x32 x33 x34 x35 x36 x37 x38 x39 x40 x41 x42 x43 x44 x45 x46 x47 x48 x49 x50 x51 x52 x53 x54 x55 x56 x57 x58 x59 x60 x61 x62 x63 x64 x65 x66 x67 x68 x69 x70 x71 x72 x73 x74 x75 x76 x77 x78 x79 x80 x81 x82 x83 x84 x85 x86 x87 x88 x89 x90 x91 x92 x93 x94 x95 x96 x97 x98 x99 x100 x101 x102 x103 x104 x105 x106 x107 x108 x109 x110 x111 x112 x113 x114:Value} {Q:Exit→Act→World→Prop} {b3 b15 b16 c3 m5 m7 m9 m11 m13:Nat} {a3 s5 s7 s9 s11 s13:Option Addr}
  (q3:w.heap[b3]? = some (.cells #[.int .i64 2,.slice a3 1 c3] 24)) (h3:OwAdv w (.agg #[.int .i64 2,.slice a3 1 c3]) 2 awS3)
  (i5:Intss w (.slice s5 1 m5) [[0,1]]) (i7:Intss w (.slice s7 2 m7) [[0,1],[1,0]]) (i9:Intss w (.slice s9 2 m9) [[0,1],[1,0]]) (i11:Intss w (.slice s11 1 m11) [[0,1]]) (i13:Intss w (.slice s13 3 m13) [[0,1],[2],[3]]) (i15:Intss w (.slice (some ⟨b15,0,none⟩) 1 1) [[0,1]]) (i16:Intss w (.slice (some ⟨b16,0,none⟩) 2 2) [[0,1],[1,0]])
  (hfin:∀ (y16 y17 y42 y43 y44 y45:Value) (W:World),(Below w.heap.size w W)→(∃ g,y16 = .slice (some ⟨g,0,none⟩) 2 2∧W.heap[g]? = some (.cells #[.int .i64 1,.int .i64 3,.int .i64 3,.int .i64 3] 93))→(∃ a c,y17 = .agg #[.int .i64 2,.slice a 1 c]∧OwAdv W (.agg #[.int .i64 2,.slice a 1 c]) 2 awS3)→(∃ g,y42 = .slice (some ⟨g,0,none⟩) 2 2∧Ints W (.slice (some ⟨g,0,none⟩) 2 2) [0,1])→(∃ g,y43 = .slice (some ⟨g,0,none⟩) 1 1∧Ints W (.slice (some ⟨g,0,none⟩) 1 1) [2])→(∃ g,y44 = .slice (some ⟨g,0,none⟩) 1 1∧Ints W (.slice (some ⟨g,0,none⟩) 1 1) [3])→(∃ g,y45 = .slice (some ⟨g,0,none⟩) 3 3∧Intss W (.slice (some ⟨g,0,none⟩) 3 3) [[0,1],[2],[3]])→Q .normal ⟨List.toArray (.bool true::x1::x2::.pointer (some ⟨b3,0,none⟩)::.int .i64 0::.slice s5 1 m5::.int .i64 0::.slice s7 2 m7::.int .i64 0::.slice s9 2 m9::.int .i64 0::.slice s11 1 m11::.int .i64 0::.slice s13 3 m13::.int .i64 0::.slice (some ⟨b15,0,none⟩) 1 1::.slice (some ⟨b16,0,none⟩) 2 2::x17::x18::x19::x20::x21::x22::x23::x24::x25::x26::x27::x28::x29::x30::x31::x32::x33::x34::x35::x36::x37::x38::x39::x40::x41::x42::x43::x44::x45::x46::x47::x48::x49::x50::x51::x52::x53::x54::x55::x56::x57::x58::x59::x60::x61::x62::x63::x64::x65::x66::.int .i64 0::.int .i64 0::.int .i64 0::.int .i64 0::.int .i64 0::.int .i64 0::.int .i64 0::.int .i64 0::.int .i64 0::.int .i64 0::.int .i64 0::.bool true::.bool true::.agg #[.int .i64 2,.slice a3 1 c3]::.agg #[.int .i64 1,.int .i64 3]::.agg #[.int .i64 3,.int .i64 3]::y16::y17::.bool true::.bool true::.bool true::.slice s5 1 m5::.slice (some ⟨b15,0,none⟩) 1 1::.bool true::.bool true::.bool true::.slice s7 2 m7::.slice (some ⟨b16,0,none⟩) 2 2::.bool true::.bool true::.bool true::.slice s9 2 m9::.slice (some ⟨b16,0,none⟩) 2 2::.bool true::.bool true::.bool true::.slice s11 1 m11::.slice (some ⟨b15,0,none⟩) 1 1::.bool true::.bool true::.bool true::.slice s13 3 m13::y42::y43::y44::y45::.bool true::.bool true::[]),[]⟩ W) :
  (Code.region 9 opsAwake9.toArray true).wp Tryz.prog Q ⟨List.toArray (x0::x1::x2::.pointer (some ⟨b3,0,none⟩)::.int .i64 0::.slice s5 1 m5::.int .i64 0::.slice s7 2 m7::.int .i64 0::.slice s9 2 m9::.int .i64 0::.slice s11 1 m11::.int .i64 0::.slice s13 3 m13::.int .i64 0::.slice (some ⟨b15,0,none⟩) 1 1::.slice (some ⟨b16,0,none⟩) 2 2::x17::x18::x19::x20::x21::x22::x23::x24::x25::x26::x27::x28::x29::x30::x31::x32::x33::x34::x35::x36::x37::x38::x39::x40::x41::x42::x43::x44::x45::x46::x47::x48::x49::x50::x51::x52::x53::x54::x55::x56::x57::x58::x59::x60::x61::x62::x63::x64::x65::x66::x67::x68::x69::x70::x71::x72::x73::x74::x75::x76::x77::x78::x79::x80::x81::x82::x83::x84::x85::x86::x87::x88::x89::x90::x91::x92::x93::x94::x95::x96::x97::x98::x99::x100::x101::x102::x103::x104::x105::x106::x107::x108::x109::x110::x111::x112::x113::x114::[]),[]⟩ w:=by
 obtain ⟨fr,hfr⟩:∃ fr:Value→Value→Value→Value→Value→Value→Value→Value→Value→Value→Value→Value→Value→Value→Value→Value→Value→Value→Value→Value→Value→Value→Value→Value→Value→Value→Value→Value→Value→Value→Value→Value→Value→Value→Value→Value→Value→Value→Value→Value→Value→Value→Value→Value→Value→Value→Value→Value→Value→Act,fr=fun y0 y1 y2 y3 y4 y5 y6 y7 y8 y9 y10 y11 y12 y13 y14 y15 y16 y17 y18 y19 y20 y21 y22 y23 y24 y25 y26 y27 y28 y29 y30 y31 y32 y33 y34 y35 y36 y37 y38 y39 y40 y41 y42 y43 y44 y45 y46 y47 y48=>⟨List.toArray (y48::x1::x2::.pointer (some ⟨b3,0,none⟩)::.int .i64 0::.slice s5 1 m5::.int .i64 0::.slice s7 2 m7::.int .i64 0::.slice s9 2 m9::.int .i64 0::.slice s11 1 m11::.int .i64 0::.slice s13 3 m13::.int .i64 0::.slice (some ⟨b15,0,none⟩) 1 1::.slice (some ⟨b16,0,none⟩) 2 2::x17::x18::x19::x20::x21::x22::x23::x24::x25::x26::x27::x28::x29::x30::x31::x32::x33::x34::x35::x36::x37::x38::x39::x40::x41::x42::x43::x44::x45::x46::x47::x48::x49::x50::x51::x52::x53::x54::x55::x56::x57::x58::x59::x60::x61::x62::x63::x64::x65::x66::y0::y1::y2::y3::y4::y5::y6::y7::y8::y9::y10::y11::y12::y13::y14::y15::y16::y17::y18::y19::y20::y21::y22::y23::y24::y25::y26::y27::y28::y29::y30::y31::y32::y33::y34::y35::y36::y37::y38::y39::y40::y41::y42::y43::y44::y45::y46::y47::[]),[]⟩:=⟨_,rfl⟩
 obtain ⟨GG,hGG⟩:∃ GG:(Nat→Bool)→World→Prop,GG=fun D W=>Below w.heap.size w W:=⟨_,rfl⟩
 have st0 {D:Nat→Bool} {y0 y1 y2 y3 y4 y5 y6 y7 y8 y9 y10 y11 y12 y13 y14 y15 y16 y17 y18 y19 y20 y21 y22 y23 y24 y25 y26 y27 y28 y29 y30 y31 y32 y33 y34 y35 y36 y37 y38 y39 y40 y41 y42 y43 y44 y45 y46 y47 y48:Value} {W:World} {K:Act→World→Prop} (hD:D 0=false) (hcl:ClG opsAwake9.toArray D) (hd:True) (hG:GG D W) (hK:∀ (v:Value) (W':World),(Below W.heap.size W W')→GG (addG D 0) W'→(v = .int .i64 0)→K (fr v y1 y2 y3 y4 y5 y6 y7 y8 y9 y10 y11 y12 y13 y14 y15 y16 y17 y18 y19 y20 y21 y22 y23 y24 y25 y26 y27 y28 y29 y30 y31 y32 y33 y34 y35 y36 y37 y38 y39 y40 y41 y42 y43 y44 y45 y46 y47 y48) W'):Oper.wp Tryz.prog oAwake9_0 (fr y0 y1 y2 y3 y4 y5 y6 y7 y8 y9 y10 y11 y12 y13 y14 y15 y16 y17 y18 y19 y20 y21 y22 y23 y24 y25 y26 y27 y28 y29 y30 y31 y32 y33 y34 y35 y36 y37 y38 y39 y40 y41 y42 y43 y44 y45 y46 y47 y48) W K Q:=by
  subst hfr hGG
  unfold oAwake9_0
  go_simp
  exact hK _ _ (Below.refl _ _) hG rfl
 have st1 {D:Nat→Bool} {y0 y1 y2 y3 y4 y5 y6 y7 y8 y9 y10 y11 y12 y13 y14 y15 y16 y17 y18 y19 y20 y21 y22 y23 y24 y25 y26 y27 y28 y29 y30 y31 y32 y33 y34 y35 y36 y37 y38 y39 y40 y41 y42 y43 y44 y45 y46 y47 y48:Value} {W:World} {K:Act→World→Prop} (hD:D 1=false) (hcl:ClG opsAwake9.toArray D) (hd:True) (hG:GG D W) (hK:∀ (v:Value) (W':World),(Below W.heap.size W W')→GG (addG D 1) W'→(v = .int .i64 0)→K (fr y0 v y2 y3 y4 y5 y6 y7 y8 y9 y10 y11 y12 y13 y14 y15 y16 y17 y18 y19 y20 y21 y22 y23 y24 y25 y26 y27 y28 y29 y30 y31 y32 y33 y34 y35 y36 y37 y38 y39 y40 y41 y42 y43 y44 y45 y46 y47 y48) W'):Oper.wp Tryz.prog oAwake9_1 (fr y0 y1 y2 y3 y4 y5 y6 y7 y8 y9 y10 y11 y12 y13 y14 y15 y16 y17 y18 y19 y20 y21 y22 y23 y24 y25 y26 y27 y28 y29 y30 y31 y32 y33 y34 y35 y36 y37 y38 y39 y40 y41 y42 y43 y44 y45 y46 y47 y48) W K Q:=by
  subst hfr hGG
  unfold oAwake9_1
  go_simp
  exact hK _ _ (Below.refl _ _) hG rfl
 have st2 {D:Nat→Bool} {y0 y1 y2 y3 y4 y5 y6 y7 y8 y9 y10 y11 y12 y13 y14 y15 y16 y17 y18 y19 y20 y21 y22 y23 y24 y25 y26 y27 y28 y29 y30 y31 y32 y33 y34 y35 y36 y37 y38 y39 y40 y41 y42 y43 y44 y45 y46 y47 y48:Value} {W:World} {K:Act→World→Prop} (hD:D 2=false) (hcl:ClG opsAwake9.toArray D) (hd:(D 0=true∧y0 = .int .i64 0)∧(D 1=true∧y1 = .int .i64 0)∧True) (hG:GG D W) (hK:∀ (v:Value) (W':World),(Below W.heap.size W W')→GG (addG D 2) W'→(v = .int .i64 0)→K (fr y0 y1 v y3 y4 y5 y6 y7 y8 y9 y10 y11 y12 y13 y14 y15 y16 y17 y18 y19 y20 y21 y22 y23 y24 y25 y26 y27 y28 y29 y30 y31 y32 y33 y34 y35 y36 y37 y38 y39 y40 y41 y42 y43 y44 y45 y46 y47 y48) W'):Oper.wp Tryz.prog oAwake9_2 (fr y0 y1 y2 y3 y4 y5 y6 y7 y8 y9 y10 y11 y12 y13 y14 y15 y16 y17 y18 y19 y20 y21 y22 y23 y24 y25 y26 y27 y28 y29 y30 y31 y32 y33 y34 y35 y36 y37 y38 y39 y40 y41 y42 y43 y44 y45 y46 y47 y48) W K Q:=by
  subst hfr hGG
  unfold oAwake9_2
  obtain ⟨⟨_,rfl⟩,⟨_,rfl⟩,-⟩:=hd
  go_simp
  exact hK _ _ (Below.refl _ _) hG rfl
 have st3 {D:Nat→Bool} {y0 y1 y2 y3 y4 y5 y6 y7 y8 y9 y10 y11 y12 y13 y14 y15 y16 y17 y18 y19 y20 y21 y22 y23 y24 y25 y26 y27 y28 y29 y30 y31 y32 y33 y34 y35 y36 y37 y38 y39 y40 y41 y42 y43 y44 y45 y46 y47 y48:Value} {W:World} {K:Act→World→Prop} (hD:D 3=false) (hcl:ClG opsAwake9.toArray D) (hd:True) (hG:GG D W) (hK:∀ (v:Value) (W':World),(Below W.heap.size W W')→GG (addG D 3) W'→(v = .int .i64 0)→K (fr y0 y1 y2 v y4 y5 y6 y7 y8 y9 y10 y11 y12 y13 y14 y15 y16 y17 y18 y19 y20 y21 y22 y23 y24 y25 y26 y27 y28 y29 y30 y31 y32 y33 y34 y35 y36 y37 y38 y39 y40 y41 y42 y43 y44 y45 y46 y47 y48) W'):Oper.wp Tryz.prog oAwake9_3 (fr y0 y1 y2 y3 y4 y5 y6 y7 y8 y9 y10 y11 y12 y13 y14 y15 y16 y17 y18 y19 y20 y21 y22 y23 y24 y25 y26 y27 y28 y29 y30 y31 y32 y33 y34 y35 y36 y37 y38 y39 y40 y41 y42 y43 y44 y45 y46 y47 y48) W K Q:=by
  subst hfr hGG
  unfold oAwake9_3
  go_simp
  exact hK _ _ (Below.refl _ _) hG rfl
 have st4 {D:Nat→Bool} {y0 y1 y2 y3 y4 y5 y6 y7 y8 y9 y10 y11 y12 y13 y14 y15 y16 y17 y18 y19 y20 y21 y22 y23 y24 y25 y26 y27 y28 y29 y30 y31 y32 y33 y34 y35 y36 y37 y38 y39 y40 y41 y42 y43 y44 y45 y46 y47 y48:Value} {W:World} {K:Act→World→Prop} (hD:D 4=false) (hcl:ClG opsAwake9.toArray D) (hd:(D 2=true∧y2 = .int .i64 0)∧(D 3=true∧y3 = .int .i64 0)∧True) (hG:GG D W) (hK:∀ (v:Value) (W':World),(Below W.heap.size W W')→GG (addG D 4) W'→(v = .int .i64 0)→K (fr y0 y1 y2 y3 v y5 y6 y7 y8 y9 y10 y11 y12 y13 y14 y15 y16 y17 y18 y19 y20 y21 y22 y23 y24 y25 y26 y27 y28 y29 y30 y31 y32 y33 y34 y35 y36 y37 y38 y39 y40 y41 y42 y43 y44 y45 y46 y47 y48) W'):Oper.wp Tryz.prog oAwake9_4 (fr y0 y1 y2 y3 y4 y5 y6 y7 y8 y9 y10 y11 y12 y13 y14 y15 y16 y17 y18 y19 y20 y21 y22 y23 y24 y25 y26 y27 y28 y29 y30 y31 y32 y33 y34 y35 y36 y37 y38 y39 y40 y41 y42 y43 y44 y45 y46 y47 y48) W K Q:=by
  subst hfr hGG
  unfold oAwake9_4
  obtain ⟨⟨_,rfl⟩,⟨_,rfl⟩,-⟩:=hd
  go_simp
  exact hK _ _ (Below.refl _ _) hG rfl
 have st5 {D:Nat→Bool} {y0 y1 y2 y3 y4 y5 y6 y7 y8 y9 y10 y11 y12 y13 y14 y15 y16 y17 y18 y19 y20 y21 y22 y23 y24 y25 y26 y27 y28 y29 y30 y31 y32 y33 y34 y35 y36 y37 y38 y39 y40 y41 y42 y43 y44 y45 y46 y47 y48:Value} {W:World} {K:Act→World→Prop} (hD:D 5=false) (hcl:ClG opsAwake9.toArray D) (hd:True) (hG:GG D W) (hK:∀ (v:Value) (W':World),(Below W.heap.size W W')→GG (addG D 5) W'→(v = .int .i64 0)→K (fr y0 y1 y2 y3 y4 v y6 y7 y8 y9 y10 y11 y12 y13 y14 y15 y16 y17 y18 y19 y20 y21 y22 y23 y24 y25 y26 y27 y28 y29 y30 y31 y32 y33 y34 y35 y36 y37 y38 y39 y40 y41 y42 y43 y44 y45 y46 y47 y48) W'):Oper.wp Tryz.prog oAwake9_5 (fr y0 y1 y2 y3 y4 y5 y6 y7 y8 y9 y10 y11 y12 y13 y14 y15 y16 y17 y18 y19 y20 y21 y22 y23 y24 y25 y26 y27 y28 y29 y30 y31 y32 y33 y34 y35 y36 y37 y38 y39 y40 y41 y42 y43 y44 y45 y46 y47 y48) W K Q:=by
  subst hfr hGG
  unfold oAwake9_5
  go_simp
  exact hK _ _ (Below.refl _ _) hG rfl
 have st6 {D:Nat→Bool} {y0 y1 y2 y3 y4 y5 y6 y7 y8 y9 y10 y11 y12 y13 y14 y15 y16 y17 y18 y19 y20 y21 y22 y23 y24 y25 y26 y27 y28 y29 y30 y31 y32 y33 y34 y35 y36 y37 y38 y39 y40 y41 y42 y43 y44 y45 y46 y47 y48:Value} {W:World} {K:Act→World→Prop} (hD:D 6=false) (hcl:ClG opsAwake9.toArray D) (hd:(D 4=true∧y4 = .int .i64 0)∧(D 5=true∧y5 = .int .i64 0)∧True) (hG:GG D W) (hK:∀ (v:Value) (W':World),(Below W.heap.size W W')→GG (addG D 6) W'→(v = .int .i64 0)→K (fr y0 y1 y2 y3 y4 y5 v y7 y8 y9 y10 y11 y12 y13 y14 y15 y16 y17 y18 y19 y20 y21 y22 y23 y24 y25 y26 y27 y28 y29 y30 y31 y32 y33 y34 y35 y36 y37 y38 y39 y40 y41 y42 y43 y44 y45 y46 y47 y48) W'):Oper.wp Tryz.prog oAwake9_6 (fr y0 y1 y2 y3 y4 y5 y6 y7 y8 y9 y10 y11 y12 y13 y14 y15 y16 y17 y18 y19 y20 y21 y22 y23 y24 y25 y26 y27 y28 y29 y30 y31 y32 y33 y34 y35 y36 y37 y38 y39 y40 y41 y42 y43 y44 y45 y46 y47 y48) W K Q:=by
  subst hfr hGG
  unfold oAwake9_6
  obtain ⟨⟨_,rfl⟩,⟨_,rfl⟩,-⟩:=hd
  go_simp
  exact hK _ _ (Below.refl _ _) hG rfl
 have st7 {D:Nat→Bool} {y0 y1 y2 y3 y4 y5 y6 y7 y8 y9 y10 y11 y12 y13 y14 y15 y16 y17 y18 y19 y20 y21 y22 y23 y24 y25 y26 y27 y28 y29 y30 y31 y32 y33 y34 y35 y36 y37 y38 y39 y40 y41 y42 y43 y44 y45 y46 y47 y48:Value} {W:World} {K:Act→World→Prop} (hD:D 7=false) (hcl:ClG opsAwake9.toArray D) (hd:True) (hG:GG D W) (hK:∀ (v:Value) (W':World),(Below W.heap.size W W')→GG (addG D 7) W'→(v = .int .i64 0)→K (fr y0 y1 y2 y3 y4 y5 y6 v y8 y9 y10 y11 y12 y13 y14 y15 y16 y17 y18 y19 y20 y21 y22 y23 y24 y25 y26 y27 y28 y29 y30 y31 y32 y33 y34 y35 y36 y37 y38 y39 y40 y41 y42 y43 y44 y45 y46 y47 y48) W'):Oper.wp Tryz.prog oAwake9_7 (fr y0 y1 y2 y3 y4 y5 y6 y7 y8 y9 y10 y11 y12 y13 y14 y15 y16 y17 y18 y19 y20 y21 y22 y23 y24 y25 y26 y27 y28 y29 y30 y31 y32 y33 y34 y35 y36 y37 y38 y39 y40 y41 y42 y43 y44 y45 y46 y47 y48) W K Q:=by
  subst hfr hGG
  unfold oAwake9_7
  go_simp
  exact hK _ _ (Below.refl _ _) hG rfl
 have st8 {D:Nat→Bool} {y0 y1 y2 y3 y4 y5 y6 y7 y8 y9 y10 y11 y12 y13 y14 y15 y16 y17 y18 y19 y20 y21 y22 y23 y24 y25 y26 y27 y28 y29 y30 y31 y32 y33 y34 y35 y36 y37 y38 y39 y40 y41 y42 y43 y44 y45 y46 y47 y48:Value} {W:World} {K:Act→World→Prop} (hD:D 8=false) (hcl:ClG opsAwake9.toArray D) (hd:(D 6=true∧y6 = .int .i64 0)∧(D 7=true∧y7 = .int .i64 0)∧True) (hG:GG D W) (hK:∀ (v:Value) (W':World),(Below W.heap.size W W')→GG (addG D 8) W'→(v = .int .i64 0)→K (fr y0 y1 y2 y3 y4 y5 y6 y7 v y9 y10 y11 y12 y13 y14 y15 y16 y17 y18 y19 y20 y21 y22 y23 y24 y25 y26 y27 y28 y29 y30 y31 y32 y33 y34 y35 y36 y37 y38 y39 y40 y41 y42 y43 y44 y45 y46 y47 y48) W'):Oper.wp Tryz.prog oAwake9_8 (fr y0 y1 y2 y3 y4 y5 y6 y7 y8 y9 y10 y11 y12 y13 y14 y15 y16 y17 y18 y19 y20 y21 y22 y23 y24 y25 y26 y27 y28 y29 y30 y31 y32 y33 y34 y35 y36 y37 y38 y39 y40 y41 y42 y43 y44 y45 y46 y47 y48) W K Q:=by
  subst hfr hGG
  unfold oAwake9_8
  obtain ⟨⟨_,rfl⟩,⟨_,rfl⟩,-⟩:=hd
  go_simp
  exact hK _ _ (Below.refl _ _) hG rfl
 have st9 {D:Nat→Bool} {y0 y1 y2 y3 y4 y5 y6 y7 y8 y9 y10 y11 y12 y13 y14 y15 y16 y17 y18 y19 y20 y21 y22 y23 y24 y25 y26 y27 y28 y29 y30 y31 y32 y33 y34 y35 y36 y37 y38 y39 y40 y41 y42 y43 y44 y45 y46 y47 y48:Value} {W:World} {K:Act→World→Prop} (hD:D 9=false) (hcl:ClG opsAwake9.toArray D) (hd:True) (hG:GG D W) (hK:∀ (v:Value) (W':World),(Below W.heap.size W W')→GG (addG D 9) W'→(v = .int .i64 0)→K (fr y0 y1 y2 y3 y4 y5 y6 y7 y8 v y10 y11 y12 y13 y14 y15 y16 y17 y18 y19 y20 y21 y22 y23 y24 y25 y26 y27 y28 y29 y30 y31 y32 y33 y34 y35 y36 y37 y38 y39 y40 y41 y42 y43 y44 y45 y46 y47 y48) W'):Oper.wp Tryz.prog oAwake9_9 (fr y0 y1 y2 y3 y4 y5 y6 y7 y8 y9 y10 y11 y12 y13 y14 y15 y16 y17 y18 y19 y20 y21 y22 y23 y24 y25 y26 y27 y28 y29 y30 y31 y32 y33 y34 y35 y36 y37 y38 y39 y40 y41 y42 y43 y44 y45 y46 y47 y48) W K Q:=by
  subst hfr hGG
  unfold oAwake9_9
  go_simp
  exact hK _ _ (Below.refl _ _) hG rfl
 have st10 {D:Nat→Bool} {y0 y1 y2 y3 y4 y5 y6 y7 y8 y9 y10 y11 y12 y13 y14 y15 y16 y17 y18 y19 y20 y21 y22 y23 y24 y25 y26 y27 y28 y29 y30 y31 y32 y33 y34 y35 y36 y37 y38 y39 y40 y41 y42 y43 y44 y45 y46 y47 y48:Value} {W:World} {K:Act→World→Prop} (hD:D 10=false) (hcl:ClG opsAwake9.toArray D) (hd:(D 8=true∧y8 = .int .i64 0)∧(D 9=true∧y9 = .int .i64 0)∧True) (hG:GG D W) (hK:∀ (v:Value) (W':World),(Below W.heap.size W W')→GG (addG D 10) W'→(v = .int .i64 0)→K (fr y0 y1 y2 y3 y4 y5 y6 y7 y8 y9 v y11 y12 y13 y14 y15 y16 y17 y18 y19 y20 y21 y22 y23 y24 y25 y26 y27 y28 y29 y30 y31 y32 y33 y34 y35 y36 y37 y38 y39 y40 y41 y42 y43 y44 y45 y46 y47 y48) W'):Oper.wp Tryz.prog oAwake9_10 (fr y0 y1 y2 y3 y4 y5 y6 y7 y8 y9 y10 y11 y12 y13 y14 y15 y16 y17 y18 y19 y20 y21 y22 y23 y24 y25 y26 y27 y28 y29 y30 y31 y32 y33 y34 y35 y36 y37 y38 y39 y40 y41 y42 y43 y44 y45 y46 y47 y48) W K Q:=by
  subst hfr hGG
  unfold oAwake9_10
  obtain ⟨⟨_,rfl⟩,⟨_,rfl⟩,-⟩:=hd
  go_simp
  exact hK _ _ (Below.refl _ _) hG rfl
 have st11 {D:Nat→Bool} {y0 y1 y2 y3 y4 y5 y6 y7 y8 y9 y10 y11 y12 y13 y14 y15 y16 y17 y18 y19 y20 y21 y22 y23 y24 y25 y26 y27 y28 y29 y30 y31 y32 y33 y34 y35 y36 y37 y38 y39 y40 y41 y42 y43 y44 y45 y46 y47 y48:Value} {W:World} {K:Act→World→Prop} (hD:D 11=false) (hcl:ClG opsAwake9.toArray D) (hd:(D 10=true∧y10 = .int .i64 0)∧True) (hG:GG D W) (hK:∀ (v:Value) (W':World),(Below W.heap.size W W')→GG (addG D 11) W'→(v = .bool true)→K (fr y0 y1 y2 y3 y4 y5 y6 y7 y8 y9 y10 v y12 y13 y14 y15 y16 y17 y18 y19 y20 y21 y22 y23 y24 y25 y26 y27 y28 y29 y30 y31 y32 y33 y34 y35 y36 y37 y38 y39 y40 y41 y42 y43 y44 y45 y46 y47 y48) W'):Oper.wp Tryz.prog oAwake9_11 (fr y0 y1 y2 y3 y4 y5 y6 y7 y8 y9 y10 y11 y12 y13 y14 y15 y16 y17 y18 y19 y20 y21 y22 y23 y24 y25 y26 y27 y28 y29 y30 y31 y32 y33 y34 y35 y36 y37 y38 y39 y40 y41 y42 y43 y44 y45 y46 y47 y48) W K Q:=by
  subst hfr hGG
  unfold oAwake9_11
  obtain ⟨⟨_,rfl⟩,-⟩:=hd
  go_simp
  exact hK _ _ (Below.refl _ _) hG rfl
 have st12 {D:Nat→Bool} {y0 y1 y2 y3 y4 y5 y6 y7 y8 y9 y10 y11 y12 y13 y14 y15 y16 y17 y18 y19 y20 y21 y22 y23 y24 y25 y26 y27 y28 y29 y30 y31 y32 y33 y34 y35 y36 y37 y38 y39 y40 y41 y42 y43 y44 y45 y46 y47 y48:Value} {W:World} {K:Act→World→Prop} (hD:D 12=false) (hcl:ClG opsAwake9.toArray D) (hd:(D 11=true∧y11 = .bool true)∧True) (hG:GG D W) (hK:∀ (v:Value) (W':World),(Below W.heap.size W W')→GG (addG D 12) W'→(v = .bool true)→K (fr y0 y1 y2 y3 y4 y5 y6 y7 y8 y9 y10 y11 v y13 y14 y15 y16 y17 y18 y19 y20 y21 y22 y23 y24 y25 y26 y27 y28 y29 y30 y31 y32 y33 y34 y35 y36 y37 y38 y39 y40 y41 y42 y43 y44 y45 y46 y47 y48) W'):Oper.wp Tryz.prog oAwake9_12 (fr y0 y1 y2 y3 y4 y5 y6 y7 y8 y9 y10 y11 y12 y13 y14 y15 y16 y17 y18 y19 y20 y21 y22 y23 y24 y25 y26 y27 y28 y29 y30 y31 y32 y33 y34 y35 y36 y37 y38 y39 y40 y41 y42 y43 y44 y45 y46 y47 y48) W K Q:=by
  subst hfr hGG
  unfold oAwake9_12
  obtain ⟨⟨_,rfl⟩,-⟩:=hd
  go_simp
  exact hK _ _ (Below.refl _ _) hG rfl
 have st13 {D:Nat→Bool} {y0 y1 y2 y3 y4 y5 y6 y7 y8 y9 y10 y11 y12 y13 y14 y15 y16 y17 y18 y19 y20 y21 y22 y23 y24 y25 y26 y27 y28 y29 y30 y31 y32 y33 y34 y35 y36 y37 y38 y39 y40 y41 y42 y43 y44 y45 y46 y47 y48:Value} {W:World} {K:Act→World→Prop} (hD:D 13=false) (hcl:ClG opsAwake9.toArray D) (hd:(D 12=true∧y12 = .bool true)∧True) (hG:GG D W) (hK:∀ (v:Value) (W':World),(Below W.heap.size W W')→GG (addG D 13) W'→(v = .agg #[.int .i64 2,.slice a3 1 c3])→K (fr y0 y1 y2 y3 y4 y5 y6 y7 y8 y9 y10 y11 y12 v y14 y15 y16 y17 y18 y19 y20 y21 y22 y23 y24 y25 y26 y27 y28 y29 y30 y31 y32 y33 y34 y35 y36 y37 y38 y39 y40 y41 y42 y43 y44 y45 y46 y47 y48) W'):Oper.wp Tryz.prog oAwake9_13 (fr y0 y1 y2 y3 y4 y5 y6 y7 y8 y9 y10 y11 y12 y13 y14 y15 y16 y17 y18 y19 y20 y21 y22 y23 y24 y25 y26 y27 y28 y29 y30 y31 y32 y33 y34 y35 y36 y37 y38 y39 y40 y41 y42 y43 y44 y45 y46 y47 y48) W K Q:=by
  subst hfr hGG
  unfold oAwake9_13
  obtain ⟨⟨_,rfl⟩,-⟩:=hd
  have k3:=(hG.block b3 (Array.getElem?_eq_some_iff.1 q3).1).trans q3
  obtain ⟨p0,p1⟩:=boxL2 k3
  go_simp
  exact hK _ _ (Below.refl _ _) hG rfl
 have st14 {D:Nat→Bool} {y0 y1 y2 y3 y4 y5 y6 y7 y8 y9 y10 y11 y12 y13 y14 y15 y16 y17 y18 y19 y20 y21 y22 y23 y24 y25 y26 y27 y28 y29 y30 y31 y32 y33 y34 y35 y36 y37 y38 y39 y40 y41 y42 y43 y44 y45 y46 y47 y48:Value} {W:World} {K:Act→World→Prop} (hD:D 14=false) (hcl:ClG opsAwake9.toArray D) (hd:(D 12=true∧y12 = .bool true)∧True) (hG:GG D W) (hK:∀ (v:Value) (W':World),(Below W.heap.size W W')→GG (addG D 14) W'→(v = .agg #[.int .i64 1,.int .i64 3])→K (fr y0 y1 y2 y3 y4 y5 y6 y7 y8 y9 y10 y11 y12 y13 v y15 y16 y17 y18 y19 y20 y21 y22 y23 y24 y25 y26 y27 y28 y29 y30 y31 y32 y33 y34 y35 y36 y37 y38 y39 y40 y41 y42 y43 y44 y45 y46 y47 y48) W'):Oper.wp Tryz.prog oAwake9_14 (fr y0 y1 y2 y3 y4 y5 y6 y7 y8 y9 y10 y11 y12 y13 y14 y15 y16 y17 y18 y19 y20 y21 y22 y23 y24 y25 y26 y27 y28 y29 y30 y31 y32 y33 y34 y35 y36 y37 y38 y39 y40 y41 y42 y43 y44 y45 y46 y47 y48) W K Q:=by
  subst hfr hGG
  unfold oAwake9_14
  obtain ⟨⟨_,rfl⟩,-⟩:=hd
  go_simp
  exact hK _ _ (Below.refl _ _) hG rfl
 have st15 {D:Nat→Bool} {y0 y1 y2 y3 y4 y5 y6 y7 y8 y9 y10 y11 y12 y13 y14 y15 y16 y17 y18 y19 y20 y21 y22 y23 y24 y25 y26 y27 y28 y29 y30 y31 y32 y33 y34 y35 y36 y37 y38 y39 y40 y41 y42 y43 y44 y45 y46 y47 y48:Value} {W:World} {K:Act→World→Prop} (hD:D 15=false) (hcl:ClG opsAwake9.toArray D) (hd:(D 12=true∧y12 = .bool true)∧True) (hG:GG D W) (hK:∀ (v:Value) (W':World),(Below W.heap.size W W')→GG (addG D 15) W'→(v = .agg #[.int .i64 3,.int .i64 3])→K (fr y0 y1 y2 y3 y4 y5 y6 y7 y8 y9 y10 y11 y12 y13 y14 v y16 y17 y18 y19 y20 y21 y22 y23 y24 y25 y26 y27 y28 y29 y30 y31 y32 y33 y34 y35 y36 y37 y38 y39 y40 y41 y42 y43 y44 y45 y46 y47 y48) W'):Oper.wp Tryz.prog oAwake9_15 (fr y0 y1 y2 y3 y4 y5 y6 y7 y8 y9 y10 y11 y12 y13 y14 y15 y16 y17 y18 y19 y20 y21 y22 y23 y24 y25 y26 y27 y28 y29 y30 y31 y32 y33 y34 y35 y36 y37 y38 y39 y40 y41 y42 y43 y44 y45 y46 y47 y48) W K Q:=by
  subst hfr hGG
  unfold oAwake9_15
  obtain ⟨⟨_,rfl⟩,-⟩:=hd
  go_simp
  exact hK _ _ (Below.refl _ _) hG rfl
 have st16 {D:Nat→Bool} {y0 y1 y2 y3 y4 y5 y6 y7 y8 y9 y10 y11 y12 y13 y14 y15 y16 y17 y18 y19 y20 y21 y22 y23 y24 y25 y26 y27 y28 y29 y30 y31 y32 y33 y34 y35 y36 y37 y38 y39 y40 y41 y42 y43 y44 y45 y46 y47 y48:Value} {W:World} {K:Act→World→Prop} (hD:D 16=false) (hcl:ClG opsAwake9.toArray D) (hd:(D 14=true∧y14 = .agg #[.int .i64 1,.int .i64 3])∧(D 15=true∧y15 = .agg #[.int .i64 3,.int .i64 3])∧(D 12=true∧y12 = .bool true)∧True) (hG:GG D W) (hK:∀ (v:Value) (W':World),(Below W.heap.size W W')→GG (addG D 16) W'→(∃ g,v = .slice (some ⟨g,0,none⟩) 2 2∧W'.heap[g]? = some (.cells #[.int .i64 1,.int .i64 3,.int .i64 3,.int .i64 3] 93))→K (fr y0 y1 y2 y3 y4 y5 y6 y7 y8 y9 y10 y11 y12 y13 y14 y15 v y17 y18 y19 y20 y21 y22 y23 y24 y25 y26 y27 y28 y29 y30 y31 y32 y33 y34 y35 y36 y37 y38 y39 y40 y41 y42 y43 y44 y45 y46 y47 y48) W'):Oper.wp Tryz.prog oAwake9_16 (fr y0 y1 y2 y3 y4 y5 y6 y7 y8 y9 y10 y11 y12 y13 y14 y15 y16 y17 y18 y19 y20 y21 y22 y23 y24 y25 y26 y27 y28 y29 y30 y31 y32 y33 y34 y35 y36 y37 y38 y39 y40 y41 y42 y43 y44 y45 y46 y47 y48) W K Q:=by
  subst hfr hGG
  unfold oAwake9_16
  obtain ⟨⟨_,rfl⟩,⟨_,rfl⟩,⟨_,rfl⟩,-⟩:=hd
  have hba:=(Below.refl W.heap.size W).alloc (Nat.le_refl _) (.cells #[.int .i64 1,.int .i64 3,.int .i64 3,.int .i64 3] 93)
  go_simp
  exact hK _ _ hba (btt hG hba) ⟨_,rfl,heap_alloc_new _ _⟩
 have st17 {D:Nat→Bool} {y0 y1 y2 y3 y4 y5 y6 y7 y8 y9 y10 y11 y12 y13 y14 y15 y16 y17 y18 y19 y20 y21 y22 y23 y24 y25 y26 y27 y28 y29 y30 y31 y32 y33 y34 y35 y36 y37 y38 y39 y40 y41 y42 y43 y44 y45 y46 y47 y48:Value} {W:World} {K:Act→World→Prop} (hD:D 17=false) (hcl:ClG opsAwake9.toArray D) (hd:(D 16=true∧∃ g,y16 = .slice (some ⟨g,0,none⟩) 2 2∧W.heap[g]? = some (.cells #[.int .i64 1,.int .i64 3,.int .i64 3,.int .i64 3] 93))∧(D 12=true∧y12 = .bool true)∧True) (hG:GG D W) (hK:∀ (v:Value) (W':World),(Below W.heap.size W W')→GG (addG D 17) W'→(∃ a c,v = .agg #[.int .i64 2,.slice a 1 c]∧OwAdv W' (.agg #[.int .i64 2,.slice a 1 c]) 2 awS3)→K (fr y0 y1 y2 y3 y4 y5 y6 y7 y8 y9 y10 y11 y12 y13 y14 y15 y16 v y18 y19 y20 y21 y22 y23 y24 y25 y26 y27 y28 y29 y30 y31 y32 y33 y34 y35 y36 y37 y38 y39 y40 y41 y42 y43 y44 y45 y46 y47 y48) W'):Oper.wp Tryz.prog oAwake9_17 (fr y0 y1 y2 y3 y4 y5 y6 y7 y8 y9 y10 y11 y12 y13 y14 y15 y16 y17 y18 y19 y20 y21 y22 y23 y24 y25 y26 y27 y28 y29 y30 y31 y32 y33 y34 y35 y36 y37 y38 y39 y40 y41 y42 y43 y44 y45 y46 y47 y48) W K Q:=by
  subst hfr hGG
  unfold oAwake9_17
  obtain ⟨⟨d16,e16⟩,⟨_,rfl⟩,-⟩:=hd
  obtain ⟨g,rfl,hg⟩:=e16
  have HM:=gr4 (S:=awS3) rfl W g hg
  go_simp
  refine HM.mono ?_
  rintro e W9 ⟨a,c,rfl,hr,hb9⟩
  exact hK _ _ hb9 (btt hG hb9) ⟨a,c,rfl,hr⟩
 have st18 {D:Nat→Bool} {y0 y1 y2 y3 y4 y5 y6 y7 y8 y9 y10 y11 y12 y13 y14 y15 y16 y17 y18 y19 y20 y21 y22 y23 y24 y25 y26 y27 y28 y29 y30 y31 y32 y33 y34 y35 y36 y37 y38 y39 y40 y41 y42 y43 y44 y45 y46 y47 y48:Value} {W:World} {K:Act→World→Prop} (hD:D 18=false) (hcl:ClG opsAwake9.toArray D) (hd:(D 13=true∧y13 = .agg #[.int .i64 2,.slice a3 1 c3])∧(D 17=true∧∃ a c,y17 = .agg #[.int .i64 2,.slice a 1 c]∧OwAdv W (.agg #[.int .i64 2,.slice a 1 c]) 2 awS3)∧(D 12=true∧y12 = .bool true)∧True) (hG:GG D W) (hK:∀ (v:Value) (W':World),(Below W.heap.size W W')→GG (addG D 18) W'→(v = .bool true)→K (fr y0 y1 y2 y3 y4 y5 y6 y7 y8 y9 y10 y11 y12 y13 y14 y15 y16 y17 v y19 y20 y21 y22 y23 y24 y25 y26 y27 y28 y29 y30 y31 y32 y33 y34 y35 y36 y37 y38 y39 y40 y41 y42 y43 y44 y45 y46 y47 y48) W'):Oper.wp Tryz.prog oAwake9_18 (fr y0 y1 y2 y3 y4 y5 y6 y7 y8 y9 y10 y11 y12 y13 y14 y15 y16 y17 y18 y19 y20 y21 y22 y23 y24 y25 y26 y27 y28 y29 y30 y31 y32 y33 y34 y35 y36 y37 y38 y39 y40 y41 y42 y43 y44 y45 y46 y47 y48) W K Q:=by
  subst hfr hGG
  unfold oAwake9_18
  obtain ⟨⟨_,rfl⟩,⟨d17,e17⟩,⟨_,rfl⟩,-⟩:=hd
  obtain ⟨a,c,rfl,hr⟩:=e17
  have HM:=sameRef (h3.keep hG).adv hr.adv
  go_simp
  refine HM.mono ?_
  rintro e W9 ⟨rfl,hb9⟩
  exact hK _ _ hb9 (btt hG hb9) rfl
 have st19 {D:Nat→Bool} {y0 y1 y2 y3 y4 y5 y6 y7 y8 y9 y10 y11 y12 y13 y14 y15 y16 y17 y18 y19 y20 y21 y22 y23 y24 y25 y26 y27 y28 y29 y30 y31 y32 y33 y34 y35 y36 y37 y38 y39 y40 y41 y42 y43 y44 y45 y46 y47 y48:Value} {W:World} {K:Act→World→Prop} (hD:D 19=false) (hcl:ClG opsAwake9.toArray D) (hd:(D 12=true∧y12 = .bool true)∧(D 18=true∧y18 = .bool true)∧True) (hG:GG D W) (hK:∀ (v:Value) (W':World),(Below W.heap.size W W')→GG (addG D 19) W'→(v = .bool true)→K (fr y0 y1 y2 y3 y4 y5 y6 y7 y8 y9 y10 y11 y12 y13 y14 y15 y16 y17 y18 v y20 y21 y22 y23 y24 y25 y26 y27 y28 y29 y30 y31 y32 y33 y34 y35 y36 y37 y38 y39 y40 y41 y42 y43 y44 y45 y46 y47 y48) W'):Oper.wp Tryz.prog oAwake9_19 (fr y0 y1 y2 y3 y4 y5 y6 y7 y8 y9 y10 y11 y12 y13 y14 y15 y16 y17 y18 y19 y20 y21 y22 y23 y24 y25 y26 y27 y28 y29 y30 y31 y32 y33 y34 y35 y36 y37 y38 y39 y40 y41 y42 y43 y44 y45 y46 y47 y48) W K Q:=by
  subst hfr hGG
  unfold oAwake9_19
  obtain ⟨⟨_,rfl⟩,⟨_,rfl⟩,-⟩:=hd
  go_simp
  exact hK _ _ (Below.refl _ _) hG rfl
 have st20 {D:Nat→Bool} {y0 y1 y2 y3 y4 y5 y6 y7 y8 y9 y10 y11 y12 y13 y14 y15 y16 y17 y18 y19 y20 y21 y22 y23 y24 y25 y26 y27 y28 y29 y30 y31 y32 y33 y34 y35 y36 y37 y38 y39 y40 y41 y42 y43 y44 y45 y46 y47 y48:Value} {W:World} {K:Act→World→Prop} (hD:D 20=false) (hcl:ClG opsAwake9.toArray D) (hd:(D 19=true∧y19 = .bool true)∧True) (hG:GG D W) (hK:∀ (v:Value) (W':World),(Below W.heap.size W W')→GG (addG D 20) W'→(v = .bool true)→K (fr y0 y1 y2 y3 y4 y5 y6 y7 y8 y9 y10 y11 y12 y13 y14 y15 y16 y17 y18 y19 v y21 y22 y23 y24 y25 y26 y27 y28 y29 y30 y31 y32 y33 y34 y35 y36 y37 y38 y39 y40 y41 y42 y43 y44 y45 y46 y47 y48) W'):Oper.wp Tryz.prog oAwake9_20 (fr y0 y1 y2 y3 y4 y5 y6 y7 y8 y9 y10 y11 y12 y13 y14 y15 y16 y17 y18 y19 y20 y21 y22 y23 y24 y25 y26 y27 y28 y29 y30 y31 y32 y33 y34 y35 y36 y37 y38 y39 y40 y41 y42 y43 y44 y45 y46 y47 y48) W K Q:=by
  subst hfr hGG
  unfold oAwake9_20
  obtain ⟨⟨_,rfl⟩,-⟩:=hd
  go_simp
  exact hK _ _ (Below.refl _ _) hG rfl
 have st21 {D:Nat→Bool} {y0 y1 y2 y3 y4 y5 y6 y7 y8 y9 y10 y11 y12 y13 y14 y15 y16 y17 y18 y19 y20 y21 y22 y23 y24 y25 y26 y27 y28 y29 y30 y31 y32 y33 y34 y35 y36 y37 y38 y39 y40 y41 y42 y43 y44 y45 y46 y47 y48:Value} {W:World} {K:Act→World→Prop} (hD:D 21=false) (hcl:ClG opsAwake9.toArray D) (hd:(D 20=true∧y20 = .bool true)∧True) (hG:GG D W) (hK:∀ (v:Value) (W':World),(Below W.heap.size W W')→GG (addG D 21) W'→(v = .slice s5 1 m5)→K (fr y0 y1 y2 y3 y4 y5 y6 y7 y8 y9 y10 y11 y12 y13 y14 y15 y16 y17 y18 y19 y20 v y22 y23 y24 y25 y26 y27 y28 y29 y30 y31 y32 y33 y34 y35 y36 y37 y38 y39 y40 y41 y42 y43 y44 y45 y46 y47 y48) W'):Oper.wp Tryz.prog oAwake9_21 (fr y0 y1 y2 y3 y4 y5 y6 y7 y8 y9 y10 y11 y12 y13 y14 y15 y16 y17 y18 y19 y20 y21 y22 y23 y24 y25 y26 y27 y28 y29 y30 y31 y32 y33 y34 y35 y36 y37 y38 y39 y40 y41 y42 y43 y44 y45 y46 y47 y48) W K Q:=by
  subst hfr hGG
  unfold oAwake9_21
  obtain ⟨⟨_,rfl⟩,-⟩:=hd
  go_simp
  exact hK _ _ (Below.refl _ _) hG rfl
 have st22 {D:Nat→Bool} {y0 y1 y2 y3 y4 y5 y6 y7 y8 y9 y10 y11 y12 y13 y14 y15 y16 y17 y18 y19 y20 y21 y22 y23 y24 y25 y26 y27 y28 y29 y30 y31 y32 y33 y34 y35 y36 y37 y38 y39 y40 y41 y42 y43 y44 y45 y46 y47 y48:Value} {W:World} {K:Act→World→Prop} (hD:D 22=false) (hcl:ClG opsAwake9.toArray D) (hd:(D 20=true∧y20 = .bool true)∧True) (hG:GG D W) (hK:∀ (v:Value) (W':World),(Below W.heap.size W W')→GG (addG D 22) W'→(v = .slice (some ⟨b15,0,none⟩) 1 1)→K (fr y0 y1 y2 y3 y4 y5 y6 y7 y8 y9 y10 y11 y12 y13 y14 y15 y16 y17 y18 y19 y20 y21 v y23 y24 y25 y26 y27 y28 y29 y30 y31 y32 y33 y34 y35 y36 y37 y38 y39 y40 y41 y42 y43 y44 y45 y46 y47 y48) W'):Oper.wp Tryz.prog oAwake9_22 (fr y0 y1 y2 y3 y4 y5 y6 y7 y8 y9 y10 y11 y12 y13 y14 y15 y16 y17 y18 y19 y20 y21 y22 y23 y24 y25 y26 y27 y28 y29 y30 y31 y32 y33 y34 y35 y36 y37 y38 y39 y40 y41 y42 y43 y44 y45 y46 y47 y48) W K Q:=by
  subst hfr hGG
  unfold oAwake9_22
  obtain ⟨⟨_,rfl⟩,-⟩:=hd
  go_simp
  exact hK _ _ (Below.refl _ _) hG rfl
 have st23 {D:Nat→Bool} {y0 y1 y2 y3 y4 y5 y6 y7 y8 y9 y10 y11 y12 y13 y14 y15 y16 y17 y18 y19 y20 y21 y22 y23 y24 y25 y26 y27 y28 y29 y30 y31 y32 y33 y34 y35 y36 y37 y38 y39 y40 y41 y42 y43 y44 y45 y46 y47 y48:Value} {W:World} {K:Act→World→Prop} (hD:D 23=false) (hcl:ClG opsAwake9.toArray D) (hd:(D 21=true∧y21 = .slice s5 1 m5)∧(D 22=true∧y22 = .slice (some ⟨b15,0,none⟩) 1 1)∧(D 20=true∧y20 = .bool true)∧True) (hG:GG D W) (hK:∀ (v:Value) (W':World),(Below W.heap.size W W')→GG (addG D 23) W'→(v = .bool true)→K (fr y0 y1 y2 y3 y4 y5 y6 y7 y8 y9 y10 y11 y12 y13 y14 y15 y16 y17 y18 y19 y20 y21 y22 v y24 y25 y26 y27 y28 y29 y30 y31 y32 y33 y34 y35 y36 y37 y38 y39 y40 y41 y42 y43 y44 y45 y46 y47 y48) W'):Oper.wp Tryz.prog oAwake9_23 (fr y0 y1 y2 y3 y4 y5 y6 y7 y8 y9 y10 y11 y12 y13 y14 y15 y16 y17 y18 y19 y20 y21 y22 y23 y24 y25 y26 y27 y28 y29 y30 y31 y32 y33 y34 y35 y36 y37 y38 y39 y40 y41 y42 y43 y44 y45 y46 y47 y48) W K Q:=by
  subst hfr hGG
  unfold oAwake9_23
  obtain ⟨⟨_,rfl⟩,⟨_,rfl⟩,⟨_,rfl⟩,-⟩:=hd
  have HM:=sAll (i5.keep hG) (i15.keep hG)
  go_simp
  refine HM.mono ?_
  rintro e W9 ⟨rfl,hq9⟩
  exact hK _ _ hq9.below (btt hG hq9.below) rfl
 have st24 {D:Nat→Bool} {y0 y1 y2 y3 y4 y5 y6 y7 y8 y9 y10 y11 y12 y13 y14 y15 y16 y17 y18 y19 y20 y21 y22 y23 y24 y25 y26 y27 y28 y29 y30 y31 y32 y33 y34 y35 y36 y37 y38 y39 y40 y41 y42 y43 y44 y45 y46 y47 y48:Value} {W:World} {K:Act→World→Prop} (hD:D 24=false) (hcl:ClG opsAwake9.toArray D) (hd:(D 20=true∧y20 = .bool true)∧(D 23=true∧y23 = .bool true)∧True) (hG:GG D W) (hK:∀ (v:Value) (W':World),(Below W.heap.size W W')→GG (addG D 24) W'→(v = .bool true)→K (fr y0 y1 y2 y3 y4 y5 y6 y7 y8 y9 y10 y11 y12 y13 y14 y15 y16 y17 y18 y19 y20 y21 y22 y23 v y25 y26 y27 y28 y29 y30 y31 y32 y33 y34 y35 y36 y37 y38 y39 y40 y41 y42 y43 y44 y45 y46 y47 y48) W'):Oper.wp Tryz.prog oAwake9_24 (fr y0 y1 y2 y3 y4 y5 y6 y7 y8 y9 y10 y11 y12 y13 y14 y15 y16 y17 y18 y19 y20 y21 y22 y23 y24 y25 y26 y27 y28 y29 y30 y31 y32 y33 y34 y35 y36 y37 y38 y39 y40 y41 y42 y43 y44 y45 y46 y47 y48) W K Q:=by
  subst hfr hGG
  unfold oAwake9_24
  obtain ⟨⟨_,rfl⟩,⟨_,rfl⟩,-⟩:=hd
  go_simp
  exact hK _ _ (Below.refl _ _) hG rfl
 have st25 {D:Nat→Bool} {y0 y1 y2 y3 y4 y5 y6 y7 y8 y9 y10 y11 y12 y13 y14 y15 y16 y17 y18 y19 y20 y21 y22 y23 y24 y25 y26 y27 y28 y29 y30 y31 y32 y33 y34 y35 y36 y37 y38 y39 y40 y41 y42 y43 y44 y45 y46 y47 y48:Value} {W:World} {K:Act→World→Prop} (hD:D 25=false) (hcl:ClG opsAwake9.toArray D) (hd:(D 24=true∧y24 = .bool true)∧True) (hG:GG D W) (hK:∀ (v:Value) (W':World),(Below W.heap.size W W')→GG (addG D 25) W'→(v = .bool true)→K (fr y0 y1 y2 y3 y4 y5 y6 y7 y8 y9 y10 y11 y12 y13 y14 y15 y16 y17 y18 y19 y20 y21 y22 y23 y24 v y26 y27 y28 y29 y30 y31 y32 y33 y34 y35 y36 y37 y38 y39 y40 y41 y42 y43 y44 y45 y46 y47 y48) W'):Oper.wp Tryz.prog oAwake9_25 (fr y0 y1 y2 y3 y4 y5 y6 y7 y8 y9 y10 y11 y12 y13 y14 y15 y16 y17 y18 y19 y20 y21 y22 y23 y24 y25 y26 y27 y28 y29 y30 y31 y32 y33 y34 y35 y36 y37 y38 y39 y40 y41 y42 y43 y44 y45 y46 y47 y48) W K Q:=by
  subst hfr hGG
  unfold oAwake9_25
  obtain ⟨⟨_,rfl⟩,-⟩:=hd
  go_simp
  exact hK _ _ (Below.refl _ _) hG rfl
 have st26 {D:Nat→Bool} {y0 y1 y2 y3 y4 y5 y6 y7 y8 y9 y10 y11 y12 y13 y14 y15 y16 y17 y18 y19 y20 y21 y22 y23 y24 y25 y26 y27 y28 y29 y30 y31 y32 y33 y34 y35 y36 y37 y38 y39 y40 y41 y42 y43 y44 y45 y46 y47 y48:Value} {W:World} {K:Act→World→Prop} (hD:D 26=false) (hcl:ClG opsAwake9.toArray D) (hd:(D 25=true∧y25 = .bool true)∧True) (hG:GG D W) (hK:∀ (v:Value) (W':World),(Below W.heap.size W W')→GG (addG D 26) W'→(v = .slice s7 2 m7)→K (fr y0 y1 y2 y3 y4 y5 y6 y7 y8 y9 y10 y11 y12 y13 y14 y15 y16 y17 y18 y19 y20 y21 y22 y23 y24 y25 v y27 y28 y29 y30 y31 y32 y33 y34 y35 y36 y37 y38 y39 y40 y41 y42 y43 y44 y45 y46 y47 y48) W'):Oper.wp Tryz.prog oAwake9_26 (fr y0 y1 y2 y3 y4 y5 y6 y7 y8 y9 y10 y11 y12 y13 y14 y15 y16 y17 y18 y19 y20 y21 y22 y23 y24 y25 y26 y27 y28 y29 y30 y31 y32 y33 y34 y35 y36 y37 y38 y39 y40 y41 y42 y43 y44 y45 y46 y47 y48) W K Q:=by
  subst hfr hGG
  unfold oAwake9_26
  obtain ⟨⟨_,rfl⟩,-⟩:=hd
  go_simp
  exact hK _ _ (Below.refl _ _) hG rfl
 have st27 {D:Nat→Bool} {y0 y1 y2 y3 y4 y5 y6 y7 y8 y9 y10 y11 y12 y13 y14 y15 y16 y17 y18 y19 y20 y21 y22 y23 y24 y25 y26 y27 y28 y29 y30 y31 y32 y33 y34 y35 y36 y37 y38 y39 y40 y41 y42 y43 y44 y45 y46 y47 y48:Value} {W:World} {K:Act→World→Prop} (hD:D 27=false) (hcl:ClG opsAwake9.toArray D) (hd:(D 25=true∧y25 = .bool true)∧True) (hG:GG D W) (hK:∀ (v:Value) (W':World),(Below W.heap.size W W')→GG (addG D 27) W'→(v = .slice (some ⟨b16,0,none⟩) 2 2)→K (fr y0 y1 y2 y3 y4 y5 y6 y7 y8 y9 y10 y11 y12 y13 y14 y15 y16 y17 y18 y19 y20 y21 y22 y23 y24 y25 y26 v y28 y29 y30 y31 y32 y33 y34 y35 y36 y37 y38 y39 y40 y41 y42 y43 y44 y45 y46 y47 y48) W'):Oper.wp Tryz.prog oAwake9_27 (fr y0 y1 y2 y3 y4 y5 y6 y7 y8 y9 y10 y11 y12 y13 y14 y15 y16 y17 y18 y19 y20 y21 y22 y23 y24 y25 y26 y27 y28 y29 y30 y31 y32 y33 y34 y35 y36 y37 y38 y39 y40 y41 y42 y43 y44 y45 y46 y47 y48) W K Q:=by
  subst hfr hGG
  unfold oAwake9_27
  obtain ⟨⟨_,rfl⟩,-⟩:=hd
  go_simp
  exact hK _ _ (Below.refl _ _) hG rfl
 have st28 {D:Nat→Bool} {y0 y1 y2 y3 y4 y5 y6 y7 y8 y9 y10 y11 y12 y13 y14 y15 y16 y17 y18 y19 y20 y21 y22 y23 y24 y25 y26 y27 y28 y29 y30 y31 y32 y33 y34 y35 y36 y37 y38 y39 y40 y41 y42 y43 y44 y45 y46 y47 y48:Value} {W:World} {K:Act→World→Prop} (hD:D 28=false) (hcl:ClG opsAwake9.toArray D) (hd:(D 26=true∧y26 = .slice s7 2 m7)∧(D 27=true∧y27 = .slice (some ⟨b16,0,none⟩) 2 2)∧(D 25=true∧y25 = .bool true)∧True) (hG:GG D W) (hK:∀ (v:Value) (W':World),(Below W.heap.size W W')→GG (addG D 28) W'→(v = .bool true)→K (fr y0 y1 y2 y3 y4 y5 y6 y7 y8 y9 y10 y11 y12 y13 y14 y15 y16 y17 y18 y19 y20 y21 y22 y23 y24 y25 y26 y27 v y29 y30 y31 y32 y33 y34 y35 y36 y37 y38 y39 y40 y41 y42 y43 y44 y45 y46 y47 y48) W'):Oper.wp Tryz.prog oAwake9_28 (fr y0 y1 y2 y3 y4 y5 y6 y7 y8 y9 y10 y11 y12 y13 y14 y15 y16 y17 y18 y19 y20 y21 y22 y23 y24 y25 y26 y27 y28 y29 y30 y31 y32 y33 y34 y35 y36 y37 y38 y39 y40 y41 y42 y43 y44 y45 y46 y47 y48) W K Q:=by
  subst hfr hGG
  unfold oAwake9_28
  obtain ⟨⟨_,rfl⟩,⟨_,rfl⟩,⟨_,rfl⟩,-⟩:=hd
  have HM:=sAll (i7.keep hG) (i16.keep hG)
  go_simp
  refine HM.mono ?_
  rintro e W9 ⟨rfl,hq9⟩
  exact hK _ _ hq9.below (btt hG hq9.below) rfl
 have st29 {D:Nat→Bool} {y0 y1 y2 y3 y4 y5 y6 y7 y8 y9 y10 y11 y12 y13 y14 y15 y16 y17 y18 y19 y20 y21 y22 y23 y24 y25 y26 y27 y28 y29 y30 y31 y32 y33 y34 y35 y36 y37 y38 y39 y40 y41 y42 y43 y44 y45 y46 y47 y48:Value} {W:World} {K:Act→World→Prop} (hD:D 29=false) (hcl:ClG opsAwake9.toArray D) (hd:(D 25=true∧y25 = .bool true)∧(D 28=true∧y28 = .bool true)∧True) (hG:GG D W) (hK:∀ (v:Value) (W':World),(Below W.heap.size W W')→GG (addG D 29) W'→(v = .bool true)→K (fr y0 y1 y2 y3 y4 y5 y6 y7 y8 y9 y10 y11 y12 y13 y14 y15 y16 y17 y18 y19 y20 y21 y22 y23 y24 y25 y26 y27 y28 v y30 y31 y32 y33 y34 y35 y36 y37 y38 y39 y40 y41 y42 y43 y44 y45 y46 y47 y48) W'):Oper.wp Tryz.prog oAwake9_29 (fr y0 y1 y2 y3 y4 y5 y6 y7 y8 y9 y10 y11 y12 y13 y14 y15 y16 y17 y18 y19 y20 y21 y22 y23 y24 y25 y26 y27 y28 y29 y30 y31 y32 y33 y34 y35 y36 y37 y38 y39 y40 y41 y42 y43 y44 y45 y46 y47 y48) W K Q:=by
  subst hfr hGG
  unfold oAwake9_29
  obtain ⟨⟨_,rfl⟩,⟨_,rfl⟩,-⟩:=hd
  go_simp
  exact hK _ _ (Below.refl _ _) hG rfl
 have st30 {D:Nat→Bool} {y0 y1 y2 y3 y4 y5 y6 y7 y8 y9 y10 y11 y12 y13 y14 y15 y16 y17 y18 y19 y20 y21 y22 y23 y24 y25 y26 y27 y28 y29 y30 y31 y32 y33 y34 y35 y36 y37 y38 y39 y40 y41 y42 y43 y44 y45 y46 y47 y48:Value} {W:World} {K:Act→World→Prop} (hD:D 30=false) (hcl:ClG opsAwake9.toArray D) (hd:(D 29=true∧y29 = .bool true)∧True) (hG:GG D W) (hK:∀ (v:Value) (W':World),(Below W.heap.size W W')→GG (addG D 30) W'→(v = .bool true)→K (fr y0 y1 y2 y3 y4 y5 y6 y7 y8 y9 y10 y11 y12 y13 y14 y15 y16 y17 y18 y19 y20 y21 y22 y23 y24 y25 y26 y27 y28 y29 v y31 y32 y33 y34 y35 y36 y37 y38 y39 y40 y41 y42 y43 y44 y45 y46 y47 y48) W'):Oper.wp Tryz.prog oAwake9_30 (fr y0 y1 y2 y3 y4 y5 y6 y7 y8 y9 y10 y11 y12 y13 y14 y15 y16 y17 y18 y19 y20 y21 y22 y23 y24 y25 y26 y27 y28 y29 y30 y31 y32 y33 y34 y35 y36 y37 y38 y39 y40 y41 y42 y43 y44 y45 y46 y47 y48) W K Q:=by
  subst hfr hGG
  unfold oAwake9_30
  obtain ⟨⟨_,rfl⟩,-⟩:=hd
  go_simp
  exact hK _ _ (Below.refl _ _) hG rfl
 have st31 {D:Nat→Bool} {y0 y1 y2 y3 y4 y5 y6 y7 y8 y9 y10 y11 y12 y13 y14 y15 y16 y17 y18 y19 y20 y21 y22 y23 y24 y25 y26 y27 y28 y29 y30 y31 y32 y33 y34 y35 y36 y37 y38 y39 y40 y41 y42 y43 y44 y45 y46 y47 y48:Value} {W:World} {K:Act→World→Prop} (hD:D 31=false) (hcl:ClG opsAwake9.toArray D) (hd:(D 30=true∧y30 = .bool true)∧True) (hG:GG D W) (hK:∀ (v:Value) (W':World),(Below W.heap.size W W')→GG (addG D 31) W'→(v = .slice s9 2 m9)→K (fr y0 y1 y2 y3 y4 y5 y6 y7 y8 y9 y10 y11 y12 y13 y14 y15 y16 y17 y18 y19 y20 y21 y22 y23 y24 y25 y26 y27 y28 y29 y30 v y32 y33 y34 y35 y36 y37 y38 y39 y40 y41 y42 y43 y44 y45 y46 y47 y48) W'):Oper.wp Tryz.prog oAwake9_31 (fr y0 y1 y2 y3 y4 y5 y6 y7 y8 y9 y10 y11 y12 y13 y14 y15 y16 y17 y18 y19 y20 y21 y22 y23 y24 y25 y26 y27 y28 y29 y30 y31 y32 y33 y34 y35 y36 y37 y38 y39 y40 y41 y42 y43 y44 y45 y46 y47 y48) W K Q:=by
  subst hfr hGG
  unfold oAwake9_31
  obtain ⟨⟨_,rfl⟩,-⟩:=hd
  go_simp
  exact hK _ _ (Below.refl _ _) hG rfl
 have st32 {D:Nat→Bool} {y0 y1 y2 y3 y4 y5 y6 y7 y8 y9 y10 y11 y12 y13 y14 y15 y16 y17 y18 y19 y20 y21 y22 y23 y24 y25 y26 y27 y28 y29 y30 y31 y32 y33 y34 y35 y36 y37 y38 y39 y40 y41 y42 y43 y44 y45 y46 y47 y48:Value} {W:World} {K:Act→World→Prop} (hD:D 32=false) (hcl:ClG opsAwake9.toArray D) (hd:(D 30=true∧y30 = .bool true)∧True) (hG:GG D W) (hK:∀ (v:Value) (W':World),(Below W.heap.size W W')→GG (addG D 32) W'→(v = .slice (some ⟨b16,0,none⟩) 2 2)→K (fr y0 y1 y2 y3 y4 y5 y6 y7 y8 y9 y10 y11 y12 y13 y14 y15 y16 y17 y18 y19 y20 y21 y22 y23 y24 y25 y26 y27 y28 y29 y30 y31 v y33 y34 y35 y36 y37 y38 y39 y40 y41 y42 y43 y44 y45 y46 y47 y48) W'):Oper.wp Tryz.prog oAwake9_32 (fr y0 y1 y2 y3 y4 y5 y6 y7 y8 y9 y10 y11 y12 y13 y14 y15 y16 y17 y18 y19 y20 y21 y22 y23 y24 y25 y26 y27 y28 y29 y30 y31 y32 y33 y34 y35 y36 y37 y38 y39 y40 y41 y42 y43 y44 y45 y46 y47 y48) W K Q:=by
  subst hfr hGG
  unfold oAwake9_32
  obtain ⟨⟨_,rfl⟩,-⟩:=hd
  go_simp
  exact hK _ _ (Below.refl _ _) hG rfl
 have st33 {D:Nat→Bool} {y0 y1 y2 y3 y4 y5 y6 y7 y8 y9 y10 y11 y12 y13 y14 y15 y16 y17 y18 y19 y20 y21 y22 y23 y24 y25 y26 y27 y28 y29 y30 y31 y32 y33 y34 y35 y36 y37 y38 y39 y40 y41 y42 y43 y44 y45 y46 y47 y48:Value} {W:World} {K:Act→World→Prop} (hD:D 33=false) (hcl:ClG opsAwake9.toArray D) (hd:(D 31=true∧y31 = .slice s9 2 m9)∧(D 32=true∧y32 = .slice (some ⟨b16,0,none⟩) 2 2)∧(D 30=true∧y30 = .bool true)∧True) (hG:GG D W) (hK:∀ (v:Value) (W':World),(Below W.heap.size W W')→GG (addG D 33) W'→(v = .bool true)→K (fr y0 y1 y2 y3 y4 y5 y6 y7 y8 y9 y10 y11 y12 y13 y14 y15 y16 y17 y18 y19 y20 y21 y22 y23 y24 y25 y26 y27 y28 y29 y30 y31 y32 v y34 y35 y36 y37 y38 y39 y40 y41 y42 y43 y44 y45 y46 y47 y48) W'):Oper.wp Tryz.prog oAwake9_33 (fr y0 y1 y2 y3 y4 y5 y6 y7 y8 y9 y10 y11 y12 y13 y14 y15 y16 y17 y18 y19 y20 y21 y22 y23 y24 y25 y26 y27 y28 y29 y30 y31 y32 y33 y34 y35 y36 y37 y38 y39 y40 y41 y42 y43 y44 y45 y46 y47 y48) W K Q:=by
  subst hfr hGG
  unfold oAwake9_33
  obtain ⟨⟨_,rfl⟩,⟨_,rfl⟩,⟨_,rfl⟩,-⟩:=hd
  have HM:=sAll (i9.keep hG) (i16.keep hG)
  go_simp
  refine HM.mono ?_
  rintro e W9 ⟨rfl,hq9⟩
  exact hK _ _ hq9.below (btt hG hq9.below) rfl
 have st34 {D:Nat→Bool} {y0 y1 y2 y3 y4 y5 y6 y7 y8 y9 y10 y11 y12 y13 y14 y15 y16 y17 y18 y19 y20 y21 y22 y23 y24 y25 y26 y27 y28 y29 y30 y31 y32 y33 y34 y35 y36 y37 y38 y39 y40 y41 y42 y43 y44 y45 y46 y47 y48:Value} {W:World} {K:Act→World→Prop} (hD:D 34=false) (hcl:ClG opsAwake9.toArray D) (hd:(D 30=true∧y30 = .bool true)∧(D 33=true∧y33 = .bool true)∧True) (hG:GG D W) (hK:∀ (v:Value) (W':World),(Below W.heap.size W W')→GG (addG D 34) W'→(v = .bool true)→K (fr y0 y1 y2 y3 y4 y5 y6 y7 y8 y9 y10 y11 y12 y13 y14 y15 y16 y17 y18 y19 y20 y21 y22 y23 y24 y25 y26 y27 y28 y29 y30 y31 y32 y33 v y35 y36 y37 y38 y39 y40 y41 y42 y43 y44 y45 y46 y47 y48) W'):Oper.wp Tryz.prog oAwake9_34 (fr y0 y1 y2 y3 y4 y5 y6 y7 y8 y9 y10 y11 y12 y13 y14 y15 y16 y17 y18 y19 y20 y21 y22 y23 y24 y25 y26 y27 y28 y29 y30 y31 y32 y33 y34 y35 y36 y37 y38 y39 y40 y41 y42 y43 y44 y45 y46 y47 y48) W K Q:=by
  subst hfr hGG
  unfold oAwake9_34
  obtain ⟨⟨_,rfl⟩,⟨_,rfl⟩,-⟩:=hd
  go_simp
  exact hK _ _ (Below.refl _ _) hG rfl
 have st35 {D:Nat→Bool} {y0 y1 y2 y3 y4 y5 y6 y7 y8 y9 y10 y11 y12 y13 y14 y15 y16 y17 y18 y19 y20 y21 y22 y23 y24 y25 y26 y27 y28 y29 y30 y31 y32 y33 y34 y35 y36 y37 y38 y39 y40 y41 y42 y43 y44 y45 y46 y47 y48:Value} {W:World} {K:Act→World→Prop} (hD:D 35=false) (hcl:ClG opsAwake9.toArray D) (hd:(D 34=true∧y34 = .bool true)∧True) (hG:GG D W) (hK:∀ (v:Value) (W':World),(Below W.heap.size W W')→GG (addG D 35) W'→(v = .bool true)→K (fr y0 y1 y2 y3 y4 y5 y6 y7 y8 y9 y10 y11 y12 y13 y14 y15 y16 y17 y18 y19 y20 y21 y22 y23 y24 y25 y26 y27 y28 y29 y30 y31 y32 y33 y34 v y36 y37 y38 y39 y40 y41 y42 y43 y44 y45 y46 y47 y48) W'):Oper.wp Tryz.prog oAwake9_35 (fr y0 y1 y2 y3 y4 y5 y6 y7 y8 y9 y10 y11 y12 y13 y14 y15 y16 y17 y18 y19 y20 y21 y22 y23 y24 y25 y26 y27 y28 y29 y30 y31 y32 y33 y34 y35 y36 y37 y38 y39 y40 y41 y42 y43 y44 y45 y46 y47 y48) W K Q:=by
  subst hfr hGG
  unfold oAwake9_35
  obtain ⟨⟨_,rfl⟩,-⟩:=hd
  go_simp
  exact hK _ _ (Below.refl _ _) hG rfl
 have st36 {D:Nat→Bool} {y0 y1 y2 y3 y4 y5 y6 y7 y8 y9 y10 y11 y12 y13 y14 y15 y16 y17 y18 y19 y20 y21 y22 y23 y24 y25 y26 y27 y28 y29 y30 y31 y32 y33 y34 y35 y36 y37 y38 y39 y40 y41 y42 y43 y44 y45 y46 y47 y48:Value} {W:World} {K:Act→World→Prop} (hD:D 36=false) (hcl:ClG opsAwake9.toArray D) (hd:(D 35=true∧y35 = .bool true)∧True) (hG:GG D W) (hK:∀ (v:Value) (W':World),(Below W.heap.size W W')→GG (addG D 36) W'→(v = .slice s11 1 m11)→K (fr y0 y1 y2 y3 y4 y5 y6 y7 y8 y9 y10 y11 y12 y13 y14 y15 y16 y17 y18 y19 y20 y21 y22 y23 y24 y25 y26 y27 y28 y29 y30 y31 y32 y33 y34 y35 v y37 y38 y39 y40 y41 y42 y43 y44 y45 y46 y47 y48) W'):Oper.wp Tryz.prog oAwake9_36 (fr y0 y1 y2 y3 y4 y5 y6 y7 y8 y9 y10 y11 y12 y13 y14 y15 y16 y17 y18 y19 y20 y21 y22 y23 y24 y25 y26 y27 y28 y29 y30 y31 y32 y33 y34 y35 y36 y37 y38 y39 y40 y41 y42 y43 y44 y45 y46 y47 y48) W K Q:=by
  subst hfr hGG
  unfold oAwake9_36
  obtain ⟨⟨_,rfl⟩,-⟩:=hd
  go_simp
  exact hK _ _ (Below.refl _ _) hG rfl
 have st37 {D:Nat→Bool} {y0 y1 y2 y3 y4 y5 y6 y7 y8 y9 y10 y11 y12 y13 y14 y15 y16 y17 y18 y19 y20 y21 y22 y23 y24 y25 y26 y27 y28 y29 y30 y31 y32 y33 y34 y35 y36 y37 y38 y39 y40 y41 y42 y43 y44 y45 y46 y47 y48:Value} {W:World} {K:Act→World→Prop} (hD:D 37=false) (hcl:ClG opsAwake9.toArray D) (hd:(D 35=true∧y35 = .bool true)∧True) (hG:GG D W) (hK:∀ (v:Value) (W':World),(Below W.heap.size W W')→GG (addG D 37) W'→(v = .slice (some ⟨b15,0,none⟩) 1 1)→K (fr y0 y1 y2 y3 y4 y5 y6 y7 y8 y9 y10 y11 y12 y13 y14 y15 y16 y17 y18 y19 y20 y21 y22 y23 y24 y25 y26 y27 y28 y29 y30 y31 y32 y33 y34 y35 y36 v y38 y39 y40 y41 y42 y43 y44 y45 y46 y47 y48) W'):Oper.wp Tryz.prog oAwake9_37 (fr y0 y1 y2 y3 y4 y5 y6 y7 y8 y9 y10 y11 y12 y13 y14 y15 y16 y17 y18 y19 y20 y21 y22 y23 y24 y25 y26 y27 y28 y29 y30 y31 y32 y33 y34 y35 y36 y37 y38 y39 y40 y41 y42 y43 y44 y45 y46 y47 y48) W K Q:=by
  subst hfr hGG
  unfold oAwake9_37
  obtain ⟨⟨_,rfl⟩,-⟩:=hd
  go_simp
  exact hK _ _ (Below.refl _ _) hG rfl
 have st38 {D:Nat→Bool} {y0 y1 y2 y3 y4 y5 y6 y7 y8 y9 y10 y11 y12 y13 y14 y15 y16 y17 y18 y19 y20 y21 y22 y23 y24 y25 y26 y27 y28 y29 y30 y31 y32 y33 y34 y35 y36 y37 y38 y39 y40 y41 y42 y43 y44 y45 y46 y47 y48:Value} {W:World} {K:Act→World→Prop} (hD:D 38=false) (hcl:ClG opsAwake9.toArray D) (hd:(D 36=true∧y36 = .slice s11 1 m11)∧(D 37=true∧y37 = .slice (some ⟨b15,0,none⟩) 1 1)∧(D 35=true∧y35 = .bool true)∧True) (hG:GG D W) (hK:∀ (v:Value) (W':World),(Below W.heap.size W W')→GG (addG D 38) W'→(v = .bool true)→K (fr y0 y1 y2 y3 y4 y5 y6 y7 y8 y9 y10 y11 y12 y13 y14 y15 y16 y17 y18 y19 y20 y21 y22 y23 y24 y25 y26 y27 y28 y29 y30 y31 y32 y33 y34 y35 y36 y37 v y39 y40 y41 y42 y43 y44 y45 y46 y47 y48) W'):Oper.wp Tryz.prog oAwake9_38 (fr y0 y1 y2 y3 y4 y5 y6 y7 y8 y9 y10 y11 y12 y13 y14 y15 y16 y17 y18 y19 y20 y21 y22 y23 y24 y25 y26 y27 y28 y29 y30 y31 y32 y33 y34 y35 y36 y37 y38 y39 y40 y41 y42 y43 y44 y45 y46 y47 y48) W K Q:=by
  subst hfr hGG
  unfold oAwake9_38
  obtain ⟨⟨_,rfl⟩,⟨_,rfl⟩,⟨_,rfl⟩,-⟩:=hd
  have HM:=sAll (i11.keep hG) (i15.keep hG)
  go_simp
  refine HM.mono ?_
  rintro e W9 ⟨rfl,hq9⟩
  exact hK _ _ hq9.below (btt hG hq9.below) rfl
 have st39 {D:Nat→Bool} {y0 y1 y2 y3 y4 y5 y6 y7 y8 y9 y10 y11 y12 y13 y14 y15 y16 y17 y18 y19 y20 y21 y22 y23 y24 y25 y26 y27 y28 y29 y30 y31 y32 y33 y34 y35 y36 y37 y38 y39 y40 y41 y42 y43 y44 y45 y46 y47 y48:Value} {W:World} {K:Act→World→Prop} (hD:D 39=false) (hcl:ClG opsAwake9.toArray D) (hd:(D 35=true∧y35 = .bool true)∧(D 38=true∧y38 = .bool true)∧True) (hG:GG D W) (hK:∀ (v:Value) (W':World),(Below W.heap.size W W')→GG (addG D 39) W'→(v = .bool true)→K (fr y0 y1 y2 y3 y4 y5 y6 y7 y8 y9 y10 y11 y12 y13 y14 y15 y16 y17 y18 y19 y20 y21 y22 y23 y24 y25 y26 y27 y28 y29 y30 y31 y32 y33 y34 y35 y36 y37 y38 v y40 y41 y42 y43 y44 y45 y46 y47 y48) W'):Oper.wp Tryz.prog oAwake9_39 (fr y0 y1 y2 y3 y4 y5 y6 y7 y8 y9 y10 y11 y12 y13 y14 y15 y16 y17 y18 y19 y20 y21 y22 y23 y24 y25 y26 y27 y28 y29 y30 y31 y32 y33 y34 y35 y36 y37 y38 y39 y40 y41 y42 y43 y44 y45 y46 y47 y48) W K Q:=by
  subst hfr hGG
  unfold oAwake9_39
  obtain ⟨⟨_,rfl⟩,⟨_,rfl⟩,-⟩:=hd
  go_simp
  exact hK _ _ (Below.refl _ _) hG rfl
 have st40 {D:Nat→Bool} {y0 y1 y2 y3 y4 y5 y6 y7 y8 y9 y10 y11 y12 y13 y14 y15 y16 y17 y18 y19 y20 y21 y22 y23 y24 y25 y26 y27 y28 y29 y30 y31 y32 y33 y34 y35 y36 y37 y38 y39 y40 y41 y42 y43 y44 y45 y46 y47 y48:Value} {W:World} {K:Act→World→Prop} (hD:D 40=false) (hcl:ClG opsAwake9.toArray D) (hd:(D 39=true∧y39 = .bool true)∧True) (hG:GG D W) (hK:∀ (v:Value) (W':World),(Below W.heap.size W W')→GG (addG D 40) W'→(v = .bool true)→K (fr y0 y1 y2 y3 y4 y5 y6 y7 y8 y9 y10 y11 y12 y13 y14 y15 y16 y17 y18 y19 y20 y21 y22 y23 y24 y25 y26 y27 y28 y29 y30 y31 y32 y33 y34 y35 y36 y37 y38 y39 v y41 y42 y43 y44 y45 y46 y47 y48) W'):Oper.wp Tryz.prog oAwake9_40 (fr y0 y1 y2 y3 y4 y5 y6 y7 y8 y9 y10 y11 y12 y13 y14 y15 y16 y17 y18 y19 y20 y21 y22 y23 y24 y25 y26 y27 y28 y29 y30 y31 y32 y33 y34 y35 y36 y37 y38 y39 y40 y41 y42 y43 y44 y45 y46 y47 y48) W K Q:=by
  subst hfr hGG
  unfold oAwake9_40
  obtain ⟨⟨_,rfl⟩,-⟩:=hd
  go_simp
  exact hK _ _ (Below.refl _ _) hG rfl
 have st41 {D:Nat→Bool} {y0 y1 y2 y3 y4 y5 y6 y7 y8 y9 y10 y11 y12 y13 y14 y15 y16 y17 y18 y19 y20 y21 y22 y23 y24 y25 y26 y27 y28 y29 y30 y31 y32 y33 y34 y35 y36 y37 y38 y39 y40 y41 y42 y43 y44 y45 y46 y47 y48:Value} {W:World} {K:Act→World→Prop} (hD:D 41=false) (hcl:ClG opsAwake9.toArray D) (hd:(D 40=true∧y40 = .bool true)∧True) (hG:GG D W) (hK:∀ (v:Value) (W':World),(Below W.heap.size W W')→GG (addG D 41) W'→(v = .slice s13 3 m13)→K (fr y0 y1 y2 y3 y4 y5 y6 y7 y8 y9 y10 y11 y12 y13 y14 y15 y16 y17 y18 y19 y20 y21 y22 y23 y24 y25 y26 y27 y28 y29 y30 y31 y32 y33 y34 y35 y36 y37 y38 y39 y40 v y42 y43 y44 y45 y46 y47 y48) W'):Oper.wp Tryz.prog oAwake9_41 (fr y0 y1 y2 y3 y4 y5 y6 y7 y8 y9 y10 y11 y12 y13 y14 y15 y16 y17 y18 y19 y20 y21 y22 y23 y24 y25 y26 y27 y28 y29 y30 y31 y32 y33 y34 y35 y36 y37 y38 y39 y40 y41 y42 y43 y44 y45 y46 y47 y48) W K Q:=by
  subst hfr hGG
  unfold oAwake9_41
  obtain ⟨⟨_,rfl⟩,-⟩:=hd
  go_simp
  exact hK _ _ (Below.refl _ _) hG rfl
 have st42 {D:Nat→Bool} {y0 y1 y2 y3 y4 y5 y6 y7 y8 y9 y10 y11 y12 y13 y14 y15 y16 y17 y18 y19 y20 y21 y22 y23 y24 y25 y26 y27 y28 y29 y30 y31 y32 y33 y34 y35 y36 y37 y38 y39 y40 y41 y42 y43 y44 y45 y46 y47 y48:Value} {W:World} {K:Act→World→Prop} (hD:D 42=false) (hcl:ClG opsAwake9.toArray D) (hd:(D 40=true∧y40 = .bool true)∧True) (hG:GG D W) (hK:∀ (v:Value) (W':World),(Below W.heap.size W W')→GG (addG D 42) W'→(∃ g,v = .slice (some ⟨g,0,none⟩) 2 2∧Ints W' (.slice (some ⟨g,0,none⟩) 2 2) [0,1])→K (fr y0 y1 y2 y3 y4 y5 y6 y7 y8 y9 y10 y11 y12 y13 y14 y15 y16 y17 y18 y19 y20 y21 y22 y23 y24 y25 y26 y27 y28 y29 y30 y31 y32 y33 y34 y35 y36 y37 y38 y39 y40 y41 v y43 y44 y45 y46 y47 y48) W'):Oper.wp Tryz.prog oAwake9_42 (fr y0 y1 y2 y3 y4 y5 y6 y7 y8 y9 y10 y11 y12 y13 y14 y15 y16 y17 y18 y19 y20 y21 y22 y23 y24 y25 y26 y27 y28 y29 y30 y31 y32 y33 y34 y35 y36 y37 y38 y39 y40 y41 y42 y43 y44 y45 y46 y47 y48) W K Q:=by
  subst hfr hGG
  unfold oAwake9_42
  obtain ⟨⟨_,rfl⟩,-⟩:=hd
  have hba:=(Below.refl W.heap.size W).alloc (Nat.le_refl _) (.cells #[.int .i64 0,.int .i64 1] 3)
  go_simp
  exact hK _ _ hba (btt hG hba) ⟨_,rfl,ints2 (heap_alloc_new _ _)⟩
 have st43 {D:Nat→Bool} {y0 y1 y2 y3 y4 y5 y6 y7 y8 y9 y10 y11 y12 y13 y14 y15 y16 y17 y18 y19 y20 y21 y22 y23 y24 y25 y26 y27 y28 y29 y30 y31 y32 y33 y34 y35 y36 y37 y38 y39 y40 y41 y42 y43 y44 y45 y46 y47 y48:Value} {W:World} {K:Act→World→Prop} (hD:D 43=false) (hcl:ClG opsAwake9.toArray D) (hd:(D 40=true∧y40 = .bool true)∧True) (hG:GG D W) (hK:∀ (v:Value) (W':World),(Below W.heap.size W W')→GG (addG D 43) W'→(∃ g,v = .slice (some ⟨g,0,none⟩) 1 1∧Ints W' (.slice (some ⟨g,0,none⟩) 1 1) [2])→K (fr y0 y1 y2 y3 y4 y5 y6 y7 y8 y9 y10 y11 y12 y13 y14 y15 y16 y17 y18 y19 y20 y21 y22 y23 y24 y25 y26 y27 y28 y29 y30 y31 y32 y33 y34 y35 y36 y37 y38 y39 y40 y41 y42 v y44 y45 y46 y47 y48) W'):Oper.wp Tryz.prog oAwake9_43 (fr y0 y1 y2 y3 y4 y5 y6 y7 y8 y9 y10 y11 y12 y13 y14 y15 y16 y17 y18 y19 y20 y21 y22 y23 y24 y25 y26 y27 y28 y29 y30 y31 y32 y33 y34 y35 y36 y37 y38 y39 y40 y41 y42 y43 y44 y45 y46 y47 y48) W K Q:=by
  subst hfr hGG
  unfold oAwake9_43
  obtain ⟨⟨_,rfl⟩,-⟩:=hd
  have hba:=(Below.refl W.heap.size W).alloc (Nat.le_refl _) (.cells #[.int .i64 2] 3)
  go_simp
  exact hK _ _ hba (btt hG hba) ⟨_,rfl,ints1 (heap_alloc_new _ _)⟩
 have st44 {D:Nat→Bool} {y0 y1 y2 y3 y4 y5 y6 y7 y8 y9 y10 y11 y12 y13 y14 y15 y16 y17 y18 y19 y20 y21 y22 y23 y24 y25 y26 y27 y28 y29 y30 y31 y32 y33 y34 y35 y36 y37 y38 y39 y40 y41 y42 y43 y44 y45 y46 y47 y48:Value} {W:World} {K:Act→World→Prop} (hD:D 44=false) (hcl:ClG opsAwake9.toArray D) (hd:(D 40=true∧y40 = .bool true)∧True) (hG:GG D W) (hK:∀ (v:Value) (W':World),(Below W.heap.size W W')→GG (addG D 44) W'→(∃ g,v = .slice (some ⟨g,0,none⟩) 1 1∧Ints W' (.slice (some ⟨g,0,none⟩) 1 1) [3])→K (fr y0 y1 y2 y3 y4 y5 y6 y7 y8 y9 y10 y11 y12 y13 y14 y15 y16 y17 y18 y19 y20 y21 y22 y23 y24 y25 y26 y27 y28 y29 y30 y31 y32 y33 y34 y35 y36 y37 y38 y39 y40 y41 y42 y43 v y45 y46 y47 y48) W'):Oper.wp Tryz.prog oAwake9_44 (fr y0 y1 y2 y3 y4 y5 y6 y7 y8 y9 y10 y11 y12 y13 y14 y15 y16 y17 y18 y19 y20 y21 y22 y23 y24 y25 y26 y27 y28 y29 y30 y31 y32 y33 y34 y35 y36 y37 y38 y39 y40 y41 y42 y43 y44 y45 y46 y47 y48) W K Q:=by
  subst hfr hGG
  unfold oAwake9_44
  obtain ⟨⟨_,rfl⟩,-⟩:=hd
  have hba:=(Below.refl W.heap.size W).alloc (Nat.le_refl _) (.cells #[.int .i64 3] 3)
  go_simp
  exact hK _ _ hba (btt hG hba) ⟨_,rfl,ints1 (heap_alloc_new _ _)⟩
 have st45 {D:Nat→Bool} {y0 y1 y2 y3 y4 y5 y6 y7 y8 y9 y10 y11 y12 y13 y14 y15 y16 y17 y18 y19 y20 y21 y22 y23 y24 y25 y26 y27 y28 y29 y30 y31 y32 y33 y34 y35 y36 y37 y38 y39 y40 y41 y42 y43 y44 y45 y46 y47 y48:Value} {W:World} {K:Act→World→Prop} (hD:D 45=false) (hcl:ClG opsAwake9.toArray D) (hd:(D 42=true∧∃ g,y42 = .slice (some ⟨g,0,none⟩) 2 2∧Ints W (.slice (some ⟨g,0,none⟩) 2 2) [0,1])∧(D 43=true∧∃ g,y43 = .slice (some ⟨g,0,none⟩) 1 1∧Ints W (.slice (some ⟨g,0,none⟩) 1 1) [2])∧(D 44=true∧∃ g,y44 = .slice (some ⟨g,0,none⟩) 1 1∧Ints W (.slice (some ⟨g,0,none⟩) 1 1) [3])∧(D 40=true∧y40 = .bool true)∧True) (hG:GG D W) (hK:∀ (v:Value) (W':World),(Below W.heap.size W W')→GG (addG D 45) W'→(∃ g,v = .slice (some ⟨g,0,none⟩) 3 3∧Intss W' (.slice (some ⟨g,0,none⟩) 3 3) [[0,1],[2],[3]])→K (fr y0 y1 y2 y3 y4 y5 y6 y7 y8 y9 y10 y11 y12 y13 y14 y15 y16 y17 y18 y19 y20 y21 y22 y23 y24 y25 y26 y27 y28 y29 y30 y31 y32 y33 y34 y35 y36 y37 y38 y39 y40 y41 y42 y43 y44 v y46 y47 y48) W'):Oper.wp Tryz.prog oAwake9_45 (fr y0 y1 y2 y3 y4 y5 y6 y7 y8 y9 y10 y11 y12 y13 y14 y15 y16 y17 y18 y19 y20 y21 y22 y23 y24 y25 y26 y27 y28 y29 y30 y31 y32 y33 y34 y35 y36 y37 y38 y39 y40 y41 y42 y43 y44 y45 y46 y47 y48) W K Q:=by
  subst hfr hGG
  unfold oAwake9_45
  obtain ⟨⟨d42,e42⟩,⟨d43,e43⟩,⟨d44,e44⟩,⟨_,rfl⟩,-⟩:=hd
  obtain ⟨g0,rfl,j0⟩:=e42
  obtain ⟨g1,rfl,j1⟩:=e43
  obtain ⟨g2,rfl,j2⟩:=e44
  have hba:=(Below.refl W.heap.size W).alloc (Nat.le_refl _) (.cells #[.slice (some ⟨g0,0,none⟩) 2 2,.slice (some ⟨g1,0,none⟩) 1 1,.slice (some ⟨g2,0,none⟩) 1 1] 25)
  go_simp
  exact hK _ _ hba (btt hG hba) ⟨_,rfl,intss3 (heap_alloc_new _ _) (j0.keep hba) (j1.keep hba) (j2.keep hba)⟩
 have st46 {D:Nat→Bool} {y0 y1 y2 y3 y4 y5 y6 y7 y8 y9 y10 y11 y12 y13 y14 y15 y16 y17 y18 y19 y20 y21 y22 y23 y24 y25 y26 y27 y28 y29 y30 y31 y32 y33 y34 y35 y36 y37 y38 y39 y40 y41 y42 y43 y44 y45 y46 y47 y48:Value} {W:World} {K:Act→World→Prop} (hD:D 46=false) (hcl:ClG opsAwake9.toArray D) (hd:(D 41=true∧y41 = .slice s13 3 m13)∧(D 45=true∧∃ g,y45 = .slice (some ⟨g,0,none⟩) 3 3∧Intss W (.slice (some ⟨g,0,none⟩) 3 3) [[0,1],[2],[3]])∧(D 40=true∧y40 = .bool true)∧True) (hG:GG D W) (hK:∀ (v:Value) (W':World),(Below W.heap.size W W')→GG (addG D 46) W'→(v = .bool true)→K (fr y0 y1 y2 y3 y4 y5 y6 y7 y8 y9 y10 y11 y12 y13 y14 y15 y16 y17 y18 y19 y20 y21 y22 y23 y24 y25 y26 y27 y28 y29 y30 y31 y32 y33 y34 y35 y36 y37 y38 y39 y40 y41 y42 y43 y44 y45 v y47 y48) W'):Oper.wp Tryz.prog oAwake9_46 (fr y0 y1 y2 y3 y4 y5 y6 y7 y8 y9 y10 y11 y12 y13 y14 y15 y16 y17 y18 y19 y20 y21 y22 y23 y24 y25 y26 y27 y28 y29 y30 y31 y32 y33 y34 y35 y36 y37 y38 y39 y40 y41 y42 y43 y44 y45 y46 y47 y48) W K Q:=by
  subst hfr hGG
  unfold oAwake9_46
  obtain ⟨⟨_,rfl⟩,⟨d45,e45⟩,⟨_,rfl⟩,-⟩:=hd
  obtain ⟨g0,rfl,j0⟩:=e45
  have HM:=sAll (i13.keep hG) j0
  go_simp
  refine HM.mono ?_
  rintro e W9 ⟨rfl,hq9⟩
  exact hK _ _ hq9.below (btt hG hq9.below) rfl
 have st47 {D:Nat→Bool} {y0 y1 y2 y3 y4 y5 y6 y7 y8 y9 y10 y11 y12 y13 y14 y15 y16 y17 y18 y19 y20 y21 y22 y23 y24 y25 y26 y27 y28 y29 y30 y31 y32 y33 y34 y35 y36 y37 y38 y39 y40 y41 y42 y43 y44 y45 y46 y47 y48:Value} {W:World} {K:Act→World→Prop} (hD:D 47=false) (hcl:ClG opsAwake9.toArray D) (hd:(D 40=true∧y40 = .bool true)∧(D 46=true∧y46 = .bool true)∧True) (hG:GG D W) (hK:∀ (v:Value) (W':World),(Below W.heap.size W W')→GG (addG D 47) W'→(v = .bool true)→K (fr y0 y1 y2 y3 y4 y5 y6 y7 y8 y9 y10 y11 y12 y13 y14 y15 y16 y17 y18 y19 y20 y21 y22 y23 y24 y25 y26 y27 y28 y29 y30 y31 y32 y33 y34 y35 y36 y37 y38 y39 y40 y41 y42 y43 y44 y45 y46 v y48) W'):Oper.wp Tryz.prog oAwake9_47 (fr y0 y1 y2 y3 y4 y5 y6 y7 y8 y9 y10 y11 y12 y13 y14 y15 y16 y17 y18 y19 y20 y21 y22 y23 y24 y25 y26 y27 y28 y29 y30 y31 y32 y33 y34 y35 y36 y37 y38 y39 y40 y41 y42 y43 y44 y45 y46 y47 y48) W K Q:=by
  subst hfr hGG
  unfold oAwake9_47
  obtain ⟨⟨_,rfl⟩,⟨_,rfl⟩,-⟩:=hd
  go_simp
  exact hK _ _ (Below.refl _ _) hG rfl
 have st48 {D:Nat→Bool} {y0 y1 y2 y3 y4 y5 y6 y7 y8 y9 y10 y11 y12 y13 y14 y15 y16 y17 y18 y19 y20 y21 y22 y23 y24 y25 y26 y27 y28 y29 y30 y31 y32 y33 y34 y35 y36 y37 y38 y39 y40 y41 y42 y43 y44 y45 y46 y47 y48:Value} {W:World} {K:Act→World→Prop} (hD:D 48=false) (hcl:ClG opsAwake9.toArray D) (hd:(D 47=true∧y47 = .bool true)∧True) (hG:GG D W) (hK:∀ (v:Value) (W':World),(Below W.heap.size W W')→GG (addG D 48) W'→(v = .bool true)→K (fr y0 y1 y2 y3 y4 y5 y6 y7 y8 y9 y10 y11 y12 y13 y14 y15 y16 y17 y18 y19 y20 y21 y22 y23 y24 y25 y26 y27 y28 y29 y30 y31 y32 y33 y34 y35 y36 y37 y38 y39 y40 y41 y42 y43 y44 y45 y46 y47 v) W'):Oper.wp Tryz.prog oAwake9_48 (fr y0 y1 y2 y3 y4 y5 y6 y7 y8 y9 y10 y11 y12 y13 y14 y15 y16 y17 y18 y19 y20 y21 y22 y23 y24 y25 y26 y27 y28 y29 y30 y31 y32 y33 y34 y35 y36 y37 y38 y39 y40 y41 y42 y43 y44 y45 y46 y47 y48) W K Q:=by
  subst hfr hGG
  unfold oAwake9_48
  obtain ⟨⟨_,rfl⟩,-⟩:=hd
  go_simp
  exact hK _ _ (Below.refl _ _) hG rfl
 subst hfr hGG
 refine wp_region_rg (l:=opsAwake9) (fun ys=>⟨List.toArray (ys 48::x1::x2::.pointer (some ⟨b3,0,none⟩)::.int .i64 0::.slice s5 1 m5::.int .i64 0::.slice s7 2 m7::.int .i64 0::.slice s9 2 m9::.int .i64 0::.slice s11 1 m11::.int .i64 0::.slice s13 3 m13::.int .i64 0::.slice (some ⟨b15,0,none⟩) 1 1::.slice (some ⟨b16,0,none⟩) 2 2::x17::x18::x19::x20::x21::x22::x23::x24::x25::x26::x27::x28::x29::x30::x31::x32::x33::x34::x35::x36::x37::x38::x39::x40::x41::x42::x43::x44::x45::x46::x47::x48::x49::x50::x51::x52::x53::x54::x55::x56::x57::x58::x59::x60::x61::x62::x63::x64::x65::x66::ys 0::ys 1::ys 2::ys 3::ys 4::ys 5::ys 6::ys 7::ys 8::ys 9::ys 10::ys 11::ys 12::ys 13::ys 14::ys 15::ys 16::ys 17::ys 18::ys 19::ys 20::ys 21::ys 22::ys 23::ys 24::ys 25::ys 26::ys 27::ys 28::ys 29::ys 30::ys 31::ys 32::ys 33::ys 34::ys 35::ys 36::ys 37::ys 38::ys 39::ys 40::ys 41::ys 42::ys 43::ys 44::ys 45::ys 46::ys 47::[]),[]⟩) [fun (_:World) (v:Value)=>v = .int .i64 0,fun (_:World) (v:Value)=>v = .int .i64 0,fun (_:World) (v:Value)=>v = .int .i64 0,fun (_:World) (v:Value)=>v = .int .i64 0,fun (_:World) (v:Value)=>v = .int .i64 0,fun (_:World) (v:Value)=>v = .int .i64 0,fun (_:World) (v:Value)=>v = .int .i64 0,fun (_:World) (v:Value)=>v = .int .i64 0,fun (_:World) (v:Value)=>v = .int .i64 0,fun (_:World) (v:Value)=>v = .int .i64 0,fun (_:World) (v:Value)=>v = .int .i64 0,fun (_:World) (v:Value)=>v = .bool true,fun (_:World) (v:Value)=>v = .bool true,fun (_:World) (v:Value)=>v = .agg #[.int .i64 2,.slice a3 1 c3],fun (_:World) (v:Value)=>v = .agg #[.int .i64 1,.int .i64 3],fun (_:World) (v:Value)=>v = .agg #[.int .i64 3,.int .i64 3],fun (W:World) (v:Value)=>∃ g,v = .slice (some ⟨g,0,none⟩) 2 2∧W.heap[g]? = some (.cells #[.int .i64 1,.int .i64 3,.int .i64 3,.int .i64 3] 93),fun (W:World) (v:Value)=>∃ a c,v = .agg #[.int .i64 2,.slice a 1 c]∧OwAdv W (.agg #[.int .i64 2,.slice a 1 c]) 2 awS3,fun (_:World) (v:Value)=>v = .bool true,fun (_:World) (v:Value)=>v = .bool true,fun (_:World) (v:Value)=>v = .bool true,fun (_:World) (v:Value)=>v = .slice s5 1 m5,fun (_:World) (v:Value)=>v = .slice (some ⟨b15,0,none⟩) 1 1,fun (_:World) (v:Value)=>v = .bool true,fun (_:World) (v:Value)=>v = .bool true,fun (_:World) (v:Value)=>v = .bool true,fun (_:World) (v:Value)=>v = .slice s7 2 m7,fun (_:World) (v:Value)=>v = .slice (some ⟨b16,0,none⟩) 2 2,fun (_:World) (v:Value)=>v = .bool true,fun (_:World) (v:Value)=>v = .bool true,fun (_:World) (v:Value)=>v = .bool true,fun (_:World) (v:Value)=>v = .slice s9 2 m9,fun (_:World) (v:Value)=>v = .slice (some ⟨b16,0,none⟩) 2 2,fun (_:World) (v:Value)=>v = .bool true,fun (_:World) (v:Value)=>v = .bool true,fun (_:World) (v:Value)=>v = .bool true,fun (_:World) (v:Value)=>v = .slice s11 1 m11,fun (_:World) (v:Value)=>v = .slice (some ⟨b15,0,none⟩) 1 1,fun (_:World) (v:Value)=>v = .bool true,fun (_:World) (v:Value)=>v = .bool true,fun (_:World) (v:Value)=>v = .bool true,fun (_:World) (v:Value)=>v = .slice s13 3 m13,fun (W:World) (v:Value)=>∃ g,v = .slice (some ⟨g,0,none⟩) 2 2∧Ints W (.slice (some ⟨g,0,none⟩) 2 2) [0,1],fun (W:World) (v:Value)=>∃ g,v = .slice (some ⟨g,0,none⟩) 1 1∧Ints W (.slice (some ⟨g,0,none⟩) 1 1) [2],fun (W:World) (v:Value)=>∃ g,v = .slice (some ⟨g,0,none⟩) 1 1∧Ints W (.slice (some ⟨g,0,none⟩) 1 1) [3],fun (W:World) (v:Value)=>∃ g,v = .slice (some ⟨g,0,none⟩) 3 3∧Intss W (.slice (some ⟨g,0,none⟩) 3 3) [[0,1],[2],[3]],fun (_:World) (v:Value)=>v = .bool true,fun (_:World) (v:Value)=>v = .bool true,fun (_:World) (v:Value)=>v = .bool true] (fun W W'=>Below W.heap.size W W') (fun D ys W=>Below w.heap.size w W) (fun i=>([x67,x68,x69,x70,x71,x72,x73,x74,x75,x76,x77,x78,x79,x80,x81,x82,x83,x84,x85,x86,x87,x88,x89,x90,x91,x92,x93,x94,x95,x96,x97,x98,x99,x100,x101,x102,x103,x104,x105,x106,x107,x108,x109,x110,x111,x112,x113,x114,x0]:List Value).getD i undef) (by kernel_rfl) (by kernel_rfl) ⟨fun _ _ _ h _=>h,fun _ _ _ h _=>h,fun _ _ _ h _=>h,fun _ _ _ h _=>h,fun _ _ _ h _=>h,fun _ _ _ h _=>h,fun _ _ _ h _=>h,fun _ _ _ h _=>h,fun _ _ _ h _=>h,fun _ _ _ h _=>h,fun _ _ _ h _=>h,fun _ _ _ h _=>h,fun _ _ _ h _=>h,fun _ _ _ h _=>h,fun _ _ _ h _=>h,fun _ _ _ h _=>h,fun W W' v ⟨g,e,h⟩ r=>⟨g,e,(r.block g (Array.getElem?_eq_some_iff.1 h).1).trans h⟩,fun W W' v ⟨a,c,e,h⟩ r=>⟨a,c,e,OwAdv.keep h r⟩,fun _ _ _ h _=>h,fun _ _ _ h _=>h,fun _ _ _ h _=>h,fun _ _ _ h _=>h,fun _ _ _ h _=>h,fun _ _ _ h _=>h,fun _ _ _ h _=>h,fun _ _ _ h _=>h,fun _ _ _ h _=>h,fun _ _ _ h _=>h,fun _ _ _ h _=>h,fun _ _ _ h _=>h,fun _ _ _ h _=>h,fun _ _ _ h _=>h,fun _ _ _ h _=>h,fun _ _ _ h _=>h,fun _ _ _ h _=>h,fun _ _ _ h _=>h,fun _ _ _ h _=>h,fun _ _ _ h _=>h,fun _ _ _ h _=>h,fun _ _ _ h _=>h,fun _ _ _ h _=>h,fun _ _ _ h _=>h,fun W W' v ⟨g,e,h⟩ r=>⟨g,e,Ints.keep h r⟩,fun W W' v ⟨g,e,h⟩ r=>⟨g,e,Ints.keep h r⟩,fun W W' v ⟨g,e,h⟩ r=>⟨g,e,Ints.keep h r⟩,fun W W' v ⟨g,e,h⟩ r=>⟨g,e,Intss.keep h r⟩,fun _ _ _ h _=>h,fun _ _ _ h _=>h,fun _ _ _ h _=>h,trivial⟩ ?g0 ?gx ⟨fun D ys W K h1 h2 h3 h4 h5=>by rw [if_pos (by rfl)]; exact st0 h1 h2 trivial h4 h5,fun D ys W K h1 h2 h3 h4 h5=>by rw [if_pos (by rfl)]; exact st1 h1 h2 trivial h4 h5,fun D ys W K h1 h2 h3 h4 h5=>by rw [if_pos (by rfl)]; exact st2 h1 h2 h3 h4 h5,fun D ys W K h1 h2 h3 h4 h5=>by rw [if_pos (by rfl)]; exact st3 h1 h2 trivial h4 h5,fun D ys W K h1 h2 h3 h4 h5=>by rw [if_pos (by rfl)]; exact st4 h1 h2 h3 h4 h5,fun D ys W K h1 h2 h3 h4 h5=>by rw [if_pos (by rfl)]; exact st5 h1 h2 trivial h4 h5,fun D ys W K h1 h2 h3 h4 h5=>by rw [if_pos (by rfl)]; exact st6 h1 h2 h3 h4 h5,fun D ys W K h1 h2 h3 h4 h5=>by rw [if_pos (by rfl)]; exact st7 h1 h2 trivial h4 h5,fun D ys W K h1 h2 h3 h4 h5=>by rw [if_pos (by rfl)]; exact st8 h1 h2 h3 h4 h5,fun D ys W K h1 h2 h3 h4 h5=>by rw [if_pos (by rfl)]; exact st9 h1 h2 trivial h4 h5,fun D ys W K h1 h2 h3 h4 h5=>by rw [if_pos (by rfl)]; exact st10 h1 h2 h3 h4 h5,fun D ys W K h1 h2 h3 h4 h5=>by rw [if_pos (by rfl)]; exact st11 h1 h2 h3 h4 h5,fun D ys W K h1 h2 h3 h4 h5=>by rw [if_pos (by rfl)]; exact st12 h1 h2 h3 h4 h5,fun D ys W K h1 h2 h3 h4 h5=>by rw [if_pos (wanted_of (j:=12) rfl (yielded_of (t:=79) rfl (congrArg some (show ys 12 = .bool true from h3.1.2))))]; exact st13 h1 h2 h3 h4 h5,fun D ys W K h1 h2 h3 h4 h5=>by rw [if_pos (wanted_of (j:=12) rfl (yielded_of (t:=79) rfl (congrArg some (show ys 12 = .bool true from h3.1.2))))]; exact st14 h1 h2 h3 h4 h5,fun D ys W K h1 h2 h3 h4 h5=>by rw [if_pos (wanted_of (j:=12) rfl (yielded_of (t:=79) rfl (congrArg some (show ys 12 = .bool true from h3.1.2))))]; exact st15 h1 h2 h3 h4 h5,fun D ys W K h1 h2 h3 h4 h5=>by rw [if_pos (wanted_of (j:=12) rfl (yielded_of (t:=79) rfl (congrArg some (show ys 12 = .bool true from h3.2.2.1.2))))]; exact st16 h1 h2 h3 h4 h5,fun D ys W K h1 h2 h3 h4 h5=>by rw [if_pos (wanted_of (j:=12) rfl (yielded_of (t:=79) rfl (congrArg some (show ys 12 = .bool true from h3.2.1.2))))]; exact st17 h1 h2 ⟨h3.1,h3.2.1,trivial⟩ h4 h5,fun D ys W K h1 h2 h3 h4 h5=>by rw [if_pos (wanted_of (j:=12) rfl (yielded_of (t:=79) rfl (congrArg some (show ys 12 = .bool true from h3.2.2.2.1.2))))]; exact st18 h1 h2 ⟨h3.1,h3.2.1,h3.2.2.2.1,trivial⟩ h4 h5,fun D ys W K h1 h2 h3 h4 h5=>by rw [if_pos (by rfl)]; exact st19 h1 h2 h3 h4 h5,fun D ys W K h1 h2 h3 h4 h5=>by rw [if_pos (by rfl)]; exact st20 h1 h2 ⟨h3.1,trivial⟩ h4 h5,fun D ys W K h1 h2 h3 h4 h5=>by rw [if_pos (wanted_of (j:=20) rfl (yielded_of (t:=87) rfl (congrArg some (show ys 20 = .bool true from h3.1.2))))]; exact st21 h1 h2 h3 h4 h5,fun D ys W K h1 h2 h3 h4 h5=>by rw [if_pos (wanted_of (j:=20) rfl (yielded_of (t:=87) rfl (congrArg some (show ys 20 = .bool true from h3.1.2))))]; exact st22 h1 h2 h3 h4 h5,fun D ys W K h1 h2 h3 h4 h5=>by rw [if_pos (wanted_of (j:=20) rfl (yielded_of (t:=87) rfl (congrArg some (show ys 20 = .bool true from h3.2.2.1.2))))]; exact st23 h1 h2 ⟨h3.1,h3.2.1,h3.2.2.1,trivial⟩ h4 h5,fun D ys W K h1 h2 h3 h4 h5=>by rw [if_pos (by rfl)]; exact st24 h1 h2 h3 h4 h5,fun D ys W K h1 h2 h3 h4 h5=>by rw [if_pos (by rfl)]; exact st25 h1 h2 ⟨h3.1,trivial⟩ h4 h5,fun D ys W K h1 h2 h3 h4 h5=>by rw [if_pos (wanted_of (j:=25) rfl (yielded_of (t:=92) rfl (congrArg some (show ys 25 = .bool true from h3.1.2))))]; exact st26 h1 h2 h3 h4 h5,fun D ys W K h1 h2 h3 h4 h5=>by rw [if_pos (wanted_of (j:=25) rfl (yielded_of (t:=92) rfl (congrArg some (show ys 25 = .bool true from h3.1.2))))]; exact st27 h1 h2 h3 h4 h5,fun D ys W K h1 h2 h3 h4 h5=>by rw [if_pos (wanted_of (j:=25) rfl (yielded_of (t:=92) rfl (congrArg some (show ys 25 = .bool true from h3.2.2.1.2))))]; exact st28 h1 h2 ⟨h3.1,h3.2.1,h3.2.2.1,trivial⟩ h4 h5,fun D ys W K h1 h2 h3 h4 h5=>by rw [if_pos (by rfl)]; exact st29 h1 h2 h3 h4 h5,fun D ys W K h1 h2 h3 h4 h5=>by rw [if_pos (by rfl)]; exact st30 h1 h2 ⟨h3.1,trivial⟩ h4 h5,fun D ys W K h1 h2 h3 h4 h5=>by rw [if_pos (wanted_of (j:=30) rfl (yielded_of (t:=97) rfl (congrArg some (show ys 30 = .bool true from h3.1.2))))]; exact st31 h1 h2 h3 h4 h5,fun D ys W K h1 h2 h3 h4 h5=>by rw [if_pos (wanted_of (j:=30) rfl (yielded_of (t:=97) rfl (congrArg some (show ys 30 = .bool true from h3.1.2))))]; exact st32 h1 h2 h3 h4 h5,fun D ys W K h1 h2 h3 h4 h5=>by rw [if_pos (wanted_of (j:=30) rfl (yielded_of (t:=97) rfl (congrArg some (show ys 30 = .bool true from h3.2.2.1.2))))]; exact st33 h1 h2 ⟨h3.1,h3.2.1,h3.2.2.1,trivial⟩ h4 h5,fun D ys W K h1 h2 h3 h4 h5=>by rw [if_pos (by rfl)]; exact st34 h1 h2 h3 h4 h5,fun D ys W K h1 h2 h3 h4 h5=>by rw [if_pos (by rfl)]; exact st35 h1 h2 ⟨h3.1,trivial⟩ h4 h5,fun D ys W K h1 h2 h3 h4 h5=>by rw [if_pos (wanted_of (j:=35) rfl (yielded_of (t:=102) rfl (congrArg some (show ys 35 = .bool true from h3.1.2))))]; exact st36 h1 h2 h3 h4 h5,fun D ys W K h1 h2 h3 h4 h5=>by rw [if_pos (wanted_of (j:=35) rfl (yielded_of (t:=102) rfl (congrArg some (show ys 35 = .bool true from h3.1.2))))]; exact st37 h1 h2 h3 h4 h5,fun D ys W K h1 h2 h3 h4 h5=>by rw [if_pos (wanted_of (j:=35) rfl (yielded_of (t:=102) rfl (congrArg some (show ys 35 = .bool true from h3.2.2.1.2))))]; exact st38 h1 h2 ⟨h3.1,h3.2.1,h3.2.2.1,trivial⟩ h4 h5,fun D ys W K h1 h2 h3 h4 h5=>by rw [if_pos (by rfl)]; exact st39 h1 h2 h3 h4 h5,fun D ys W K h1 h2 h3 h4 h5=>by rw [if_pos (by rfl)]; exact st40 h1 h2 ⟨h3.1,trivial⟩ h4 h5,fun D ys W K h1 h2 h3 h4 h5=>by rw [if_pos (wanted_of (j:=40) rfl (yielded_of (t:=107) rfl (congrArg some (show ys 40 = .bool true from h3.1.2))))]; exact st41 h1 h2 h3 h4 h5,fun D ys W K h1 h2 h3 h4 h5=>by rw [if_pos (wanted_of (j:=40) rfl (yielded_of (t:=107) rfl (congrArg some (show ys 40 = .bool true from h3.1.2))))]; exact st42 h1 h2 h3 h4 h5,fun D ys W K h1 h2 h3 h4 h5=>by rw [if_pos (wanted_of (j:=40) rfl (yielded_of (t:=107) rfl (congrArg some (show ys 40 = .bool true from h3.1.2))))]; exact st43 h1 h2 h3 h4 h5,fun D ys W K h1 h2 h3 h4 h5=>by rw [if_pos (wanted_of (j:=40) rfl (yielded_of (t:=107) rfl (congrArg some (show ys 40 = .bool true from h3.1.2))))]; exact st44 h1 h2 h3 h4 h5,fun D ys W K h1 h2 h3 h4 h5=>by rw [if_pos (wanted_of (j:=40) rfl (yielded_of (t:=107) rfl (congrArg some (show ys 40 = .bool true from h3.2.2.2.1.2))))]; exact st45 h1 h2 h3 h4 h5,fun D ys W K h1 h2 h3 h4 h5=>by rw [if_pos (wanted_of (j:=40) rfl (yielded_of (t:=107) rfl (congrArg some (show ys 40 = .bool true from h3.2.2.1.2))))]; exact st46 h1 h2 ⟨h3.1,h3.2.1,h3.2.2.1,trivial⟩ h4 h5,fun D ys W K h1 h2 h3 h4 h5=>by rw [if_pos (by rfl)]; exact st47 h1 h2 h3 h4 h5,fun D ys W K h1 h2 h3 h4 h5=>by rw [if_pos (by rfl)]; exact st48 h1 h2 ⟨h3.1,trivial⟩ h4 h5,trivial⟩ ?fin
 case g0=>exact below_drewN (Below.refl w.heap.size w) 1
 case gx=>exact fun _ _ _ _ _ h=>h
 case fin=>
  intro ys W hG hp
  have e0:ys 0 = .int .i64 0:=hp 0 (by decide)
  have e1:ys 1 = .int .i64 0:=hp 1 (by decide)
  have e2:ys 2 = .int .i64 0:=hp 2 (by decide)
  have e3:ys 3 = .int .i64 0:=hp 3 (by decide)
  have e4:ys 4 = .int .i64 0:=hp 4 (by decide)
  have e5:ys 5 = .int .i64 0:=hp 5 (by decide)
  have e6:ys 6 = .int .i64 0:=hp 6 (by decide)
  have e7:ys 7 = .int .i64 0:=hp 7 (by decide)
  have e8:ys 8 = .int .i64 0:=hp 8 (by decide)
  have e9:ys 9 = .int .i64 0:=hp 9 (by decide)
  have e10:ys 10 = .int .i64 0:=hp 10 (by decide)
  have e11:ys 11 = .bool true:=hp 11 (by decide)
  have e12:ys 12 = .bool true:=hp 12 (by decide)
  have e13:ys 13 = .agg #[.int .i64 2,.slice a3 1 c3]:=hp 13 (by decide)
  have e14:ys 14 = .agg #[.int .i64 1,.int .i64 3]:=hp 14 (by decide)
  have e15:ys 15 = .agg #[.int .i64 3,.int .i64 3]:=hp 15 (by decide)
  have e18:ys 18 = .bool true:=hp 18 (by decide)
  have e19:ys 19 = .bool true:=hp 19 (by decide)
  have e20:ys 20 = .bool true:=hp 20 (by decide)
  have e21:ys 21 = .slice s5 1 m5:=hp 21 (by decide)
  have e22:ys 22 = .slice (some ⟨b15,0,none⟩) 1 1:=hp 22 (by decide)
  have e23:ys 23 = .bool true:=hp 23 (by decide)
  have e24:ys 24 = .bool true:=hp 24 (by decide)
  have e25:ys 25 = .bool true:=hp 25 (by decide)
  have e26:ys 26 = .slice s7 2 m7:=hp 26 (by decide)
  have e27:ys 27 = .slice (some ⟨b16,0,none⟩) 2 2:=hp 27 (by decide)
  have e28:ys 28 = .bool true:=hp 28 (by decide)
  have e29:ys 29 = .bool true:=hp 29 (by decide)
  have e30:ys 30 = .bool true:=hp 30 (by decide)
  have e31:ys 31 = .slice s9 2 m9:=hp 31 (by decide)
  have e32:ys 32 = .slice (some ⟨b16,0,none⟩) 2 2:=hp 32 (by decide)
  have e33:ys 33 = .bool true:=hp 33 (by decide)
  have e34:ys 34 = .bool true:=hp 34 (by decide)
  have e35:ys 35 = .bool true:=hp 35 (by decide)
  have e36:ys 36 = .slice s11 1 m11:=hp 36 (by decide)
  have e37:ys 37 = .slice (some ⟨b15,0,none⟩) 1 1:=hp 37 (by decide)
  have e38:ys 38 = .bool true:=hp 38 (by decide)
  have e39:ys 39 = .bool true:=hp 39 (by decide)
  have e40:ys 40 = .bool true:=hp 40 (by decide)
  have e41:ys 41 = .slice s13 3 m13:=hp 41 (by decide)
  have e46:ys 46 = .bool true:=hp 46 (by decide)
  have e47:ys 47 = .bool true:=hp 47 (by decide)
  have e48:ys 48 = .bool true:=hp 48 (by decide)
  show Q .normal ⟨List.toArray ((ys 48)::x1::x2::.pointer (some ⟨b3,0,none⟩)::.int .i64 0::.slice s5 1 m5::.int .i64 0::.slice s7 2 m7::.int .i64 0::.slice s9 2 m9::.int .i64 0::.slice s11 1 m11::.int .i64 0::.slice s13 3 m13::.int .i64 0::.slice (some ⟨b15,0,none⟩) 1 1::.slice (some ⟨b16,0,none⟩) 2 2::x17::x18::x19::x20::x21::x22::x23::x24::x25::x26::x27::x28::x29::x30::x31::x32::x33::x34::x35::x36::x37::x38::x39::x40::x41::x42::x43::x44::x45::x46::x47::x48::x49::x50::x51::x52::x53::x54::x55::x56::x57::x58::x59::x60::x61::x62::x63::x64::x65::x66::(ys 0)::(ys 1)::(ys 2)::(ys 3)::(ys 4)::(ys 5)::(ys 6)::(ys 7)::(ys 8)::(ys 9)::(ys 10)::(ys 11)::(ys 12)::(ys 13)::(ys 14)::(ys 15)::(ys 16)::(ys 17)::(ys 18)::(ys 19)::(ys 20)::(ys 21)::(ys 22)::(ys 23)::(ys 24)::(ys 25)::(ys 26)::(ys 27)::(ys 28)::(ys 29)::(ys 30)::(ys 31)::(ys 32)::(ys 33)::(ys 34)::(ys 35)::(ys 36)::(ys 37)::(ys 38)::(ys 39)::(ys 40)::(ys 41)::(ys 42)::(ys 43)::(ys 44)::(ys 45)::(ys 46)::(ys 47)::[]),[]⟩ W
  rw [e0,e1,e2,e3,e4,e5,e6,e7,e8,e9,e10,e11,e12,e13,e14,e15,e18,e19,e20,e21,e22,e23,e24,e25,e26,e27,e28,e29,e30,e31,e32,e33,e34,e35,e36,e37,e38,e39,e40,e41,e46,e47,e48]
  exact hfin (ys 16) (ys 17) (ys 42) (ys 43) (ys 44) (ys 45) W hG (hp 16 (by decide)) (hp 17 (by decide)) (hp 42 (by decide)) (hp 43 (by decide)) (hp 44 (by decide)) (hp 45 (by decide))
end Go.Proofs.YtmikofeildnpdaaGreat
