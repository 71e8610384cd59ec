/- Texts of this claim, put together: L1 ZC JA JB. -/
import Derived.Test.YtmikofeildnpdaaGreatKYu
import Derived.Test.YtmikofeildnpdaaGreatKYzl
import Derived.Test.YtmikofeildnpdaaGreatKYv
import Derived.Test.YtmikofeildnpdaaGreatKYq
import Derived.Test.YtmikofeildnpdaaGreatKYo
import Derived.Test.YtmikofeildnpdaaGreatKYr
import Derived.Test.YtmikofeildnpdaaGreatKYs
import Derived.Deep.RegionHeld3
import Derived.Deep.Cut
import Derived.Test.YtmikofeildnpdaaGreatKYg
import Derived.Test.YtmikofeildnpdaaGreatKYj
import Derived.Deep.OwnRows
import Derived.Deep.DeepAppendRoom
import Derived.Test.YtmikofeildnpdaaGreatKYf

set_option maxRecDepth 100000
set_option maxHeartbeats 12800000
/- The reference: First. -/
namespace Go.Proofs.YtmikofeildnpdaaGreat
open Go.RowKit
def EItN (w:World) (cs:List Value) (x:It):Prop:=∃ u,cs = [.int .i64 (x.1.1:Int),.int .i64 (x.1.2:Int),u]∧OwX 87 7 EI w 0 u x.2.length x.2∧(x.2 = []→u = .slice none 0 0)
end Go.Proofs.YtmikofeildnpdaaGreat

/- roundtableref20.search. -/
namespace Go.Proofs.YtmikofeildnpdaaGreat
open Go.RowKit
def QB2 (A B:Nat) (Q:List It):Prop:=PqOK A B (Q.map Prod.fst)∧∀ j,(Q.getD j ((0,0),[])).2.length≤j
theorem QB2.len {A B:Nat} {Q:List It} (h:QB2 A B Q) (hA:A≤100) (hB:B≤100):Q.length≤10000:=by
 have h1:=h.1.len
 rw [List.length_map] at h1
 have:A * B≤100 * 100:=Nat.mul_le_mul hA hB
 omega
theorem QB2.snoc {A B:Nat} {Q:List It} (h:QB2 A B Q) {t:It} (hm:t.1 ∉ Q.map Prod.fst) (h1:t.1.1 < A) (h2:t.1.2 < B) (hw:t.2.length≤Q.length):QB2 A B (Q ++ [t]):=by
 constructor
 ·have:=h.1.push (y:=t.1) h1 h2
  rw [pushP,if_neg hm] at this
  rw [List.map_append]; exact this
 ·intro j
  by_cases hj:j < Q.length
  ·rw [getD_app2 hj]; exact h.2 j
  ·by_cases e:j=Q.length
   ·subst e
    rw [List.getD_eq_getElem?_getD,List.getElem?_append_right (by omega),Nat.sub_self]
    exact hw
   ·rw [List.getD_eq_getElem?_getD,List.getElem?_eq_none (by simp; omega)]; simp
theorem eitN_stab {E:TypeId} (h:87 ≠ E):Stab E EItN:=fun _ _ _ _ ⟨u,h1,h2,h3⟩ hx=>⟨u,h1,h2.other (EI.stab _) h hx,h3⟩
theorem OwX.toIt {E:TypeId} {w:World} {B:Nat} {v:Value} {n:Nat} {xs:List It} (h:OwX E 3 EItN w B v n xs):OwX E 3 EIt w B v n xs:=by
 obtain ⟨vs,h1,h2,h3,h4⟩:=h
 exact ⟨vs,h1,h2,h3,fun j x hj=>by obtain ⟨u,k1,k2,_⟩:=h4 j x hj; exact ⟨u,k1,k2⟩⟩
theorem owNode {w:World} {g B:Nat} {a b:Nat} (hg:w.heap[g]? = some (.cells #[.int .i64 (a:Int),.int .i64 (b:Int),.slice none 0 0] 248)) (hB:B≤g):OwX 248 3 EItN w B (.slice (some ⟨g,0,none⟩) 1 1) 1 [((a,b),[])]:=by
 refine ⟨[.int .i64 (a:Int),.int .i64 (b:Int),.slice none 0 0],⟨rfl,.inr ⟨g,1,_,rfl,hB,hg,Nat.le_refl _,by unfold maxLen; omega,rfl,rfl⟩⟩,rfl,?_,?_⟩
 ·intro u hu
  simp only [List.mem_cons,List.not_mem_nil,or_false] at hu
  rcases hu with rfl | rfl | rfl <;> rfl
 ·intro j x hj
  match j,hj with
  | 0,hj=>
   simp only [List.getElem?_cons_zero,Option.some.injEq] at hj
   subst hj
   exact ⟨_,rfl,OwX.nil _ _,fun _=>rfl⟩
  | _+1,hj=>simp at hj
def FsOut (w:World) (aa bb:List (List (List Int))) (e:Ending) (w':World):Prop:=∃ r R l wd,e = .returned (.tuple #[r,.bool R,l])∧(R=false↔inW aa bb)∧OwX 87 7 EI w' w.heap.size r wd.length wd∧wd.length≤10001∧Below w.heap.size w w'
theorem fsearchC {w:World} {u v:Value} {m n:Int} {aa bb:List (List (List Int))} (ha:AdvC w u m aa) (hb:AdvC w v n bb) (wa:WfS aa) (wb:WfS bb) (la:aa.length≤100) (lb:bb.length≤100) (mb:∀ s∈bb,s.length≤50000) :
  Calls Tryz.prog 190 #[u,v] w (FsOut w aa bb):=by
 obtain ⟨R,hR⟩:=fsGo_some wa wb (bb.length * aa.length+1) 0 [(0,0)] ⟨by simp,fun p hp=>by rw [List.mem_singleton] at hp; subst hp; exact ⟨wb.pos,wa.pos⟩⟩ (by omega) (by simp)
 have hRe:=Lib.hid (fs_iff wb wa hR)
 obtain ⟨F,hF⟩:=exE (bb.length * aa.length+1)
 rw [hF] at hR
 have hlen:∀ j,(bb.getD j []).length≤50000:=fun j=>by
  by_cases hj:j < bb.length
  ·rw [getD_eq hj]; exact mb _ (List.getElem_mem hj)
  ·rw [List.getD_eq_getElem?_getD,List.getElem?_eq_none (by omega)]; simp
 have HT:=Lib.hid (fun W (h:Below w.heap.size w W) j (hj:j < aa.length) r0 r1 r2 r3 r4 r5 r6=>refTo (ha.keep h).adv hj r0 r1 r2 r3 r4 r5 r6)
 have hTo:=Lib.hid (fun j (hj:j < aa.length) r=>toI_st wa.lead hj r)
 have hLd:Hid (∀ p,p < bb.length→∀ x∈bb.getD p [],0≤x.getD 7 0∧x.getD 7 0 < (bb.length:Int)):=fun p hp x hx=>wb.lead _ (getD_mem hp) x hx
 obtain ⟨xa,xc,xb,xo,rfl,hxa,hxs,_⟩:=ha
 obtain ⟨ya,yc,yb,yo,rfl,hya,hys,_⟩:=hb
 obtain rfl:=hya wb.pos
 obtain ⟨W1,hW1⟩:=exF ((w.alloc (.cells #[.int .i64 m,.slice xa aa.length xc] 24)).alloc (.cells #[.int .i64 n,.slice (some ⟨yb,yo,none⟩) bb.length yc] 24))
 obtain ⟨hb1,⟨p0,p1⟩,⟨q0,q1⟩,_,hs1⟩:=boxAdv2 hW1
 obtain ⟨W2,hW2⟩:=exF (W1.alloc (.cells #[.int .i64 0,.int .i64 0,.slice none 0 0] 248))
 have hb2:Below W1.heap.size W1 W2:=by rw [hW2]; exact (Below.refl _ _).alloc (Nat.le_refl _) _
 have hit:W2.heap[W1.heap.size]? = some (.cells #[.int .i64 ((0:Nat):Int),.int .i64 ((0:Nat):Int),.slice none 0 0] 248):=by rw [hW2]; exact heap_alloc_new _ _
 have hOw2:OwX 248 3 EItN W2 W1.heap.size (.slice (some ⟨W1.heap.size,0,none⟩) 1 1) ([((0,0),[])]:List It).length [((0,0),[])]:=owNode hit (Nat.le_refl _)
 have hQ0:Hid (QB2 bb.length aa.length [((0,0),[])]):=⟨⟨by simp,fun p hp=>by simp only [List.map_cons,List.map_nil,List.mem_singleton] at hp; subst hp; exact ⟨wb.pos,wa.pos⟩⟩,fun j=>by
  match j with
  | 0=>simp
  | _+1=>simp⟩
 have hD0:Hid (fsGo aa bb F 0 (([((0,0),[])]:List It).map Prod.fst)=some R):=hR
 have hmx : Tryz.prog.follows .mixedOrders=true:=by kernel_rfl
 have hKA:Hid (∀ W,Below W1.heap.size W1 W→W.cell? ⟨w.heap.size,0,none⟩=some (.int .i64 m)∧W.cell? ⟨w.heap.size,1,none⟩=some (.slice xa aa.length xc)∧W.cell? ⟨w.heap.size+1,0,none⟩=some (.int .i64 n)∧W.cell? ⟨w.heap.size+1,1,none⟩=some (.slice (some ⟨yb,yo,none⟩) bb.length yc)):=fun W hW=>⟨cell_kept hW p0,cell_kept hW p1,cell_kept hW q0,cell_kept hW q1⟩
 have hys':Hid (∀ W,Below W1.heap.size W1 W→∀ p,p < bb.length→∃ uy,W.cell? ⟨yb,yo+p,none⟩=some uy∧KSC 8 W uy (bb.getD p [])):=fun W hW p hp=>by
  obtain ⟨uy,h1,h2⟩:=hys p hp
  have hbw:=bt hb1 hW hb1.size
  exact ⟨uy,cell_kept hbw h1,h2.keep hbw⟩
 replace hlen:=Lib.hid hlen
 replace hF:=Lib.hid hF
 rw [hW1] at hW2
 rw [hs1] at hOw2
 replace hs1:=Lib.hid hs1
 replace hW1:=Lib.hid hW1
 clear hR hit p0 p1 q0 q1 hys hxs hxa hya mb wa wb
 go_enter Tryz.func190, Tryz.ntmps190
 go_wp2_with fail
 rw [← hW2]
 replace hW2:=Lib.hid hW2
 go_loopg [7,8] F (fun f lv iv wr=>∃ (i:Nat) (Q:List It),iv = .int .i64 (i:Int)∧i≤Q.length∧OwX 248 3 EItN wr (w.heap.size+2) lv Q.length Q∧Below W1.heap.size W1 wr∧Hid (fsGo aa bb f i (Q.map Prod.fst)=some R)∧Hid (QB2 bb.length aa.length Q))
 case atStart=>exact ⟨0,_,rfl,by simp,hOw2,hb2,hD0,hQ0⟩
 case round=>
  clear hOw2 hb2 hD0 hQ0
  obtain ⟨i,Q,rfl,hiQ,hwt,hbr,hg,hQB⟩:=hrel
  obtain ⟨lva,lvc,hlv⟩:=hwt.shape
  subst hlv
  have hQl:=hQB.out.len lb la
  by_cases hlt:i < Q.length
  ·obtain ⟨f,rfl⟩:∃ f,gk=f+1:=by
    cases gk with
    | zero=>exact absurd hg (by intro h; simp [Hid,fsGo] at h)
    | succ f=>exact ⟨f,rfl⟩
   obtain ⟨gw,cw,hwe,hgw⟩:=hwt.form (by omega)
   obtain ⟨rfl,rfl⟩:lva=some ⟨gw,0,none⟩∧lvc=cw:=by injection hwe with h1 h2 h3; exact ⟨h1,h3⟩
   obtain ⟨⟨⟨p,q⟩,wd⟩,hx⟩:∃ x,Q.getD i ((0,0),[])=x:=⟨_,rfl⟩
   have hxm:((p,q),wd)∈Q:=by rw [← hx]; exact getD_mem hlt
   have hxq:(Q.map Prod.fst).getD i (0,0)=(p,q):=by rw [getD_eq (by rw [List.length_map]; exact hlt),List.getElem_map,← getD_eq hlt ((0,0),[]),hx]
   obtain ⟨hpB,hqA⟩:=hQB.out.1.2 (p,q) (List.mem_map_of_mem (f:=Prod.fst) hxm)
   simp only at hpB hqA
   obtain ⟨ms,hms⟩:=exE (bb.getD p [])
   have hgi:Hid (fsIn aa q (fsGo aa bb f (i+1)) (ms.drop 0) (Q.map Prod.fst)=some R):=by
    have h1:=hg.out
    rw [fsGo,if_pos (by rw [List.length_map]; exact hlt),hxq,hms] at h1
    exact h1
   have hm9:ms.length≤50000:=by rw [← hms]; exact hlen.out p
   have hLm:=hLd.out p hpB
   rw [hms] at hLm
   replace hLm:=Lib.hid hLm
   obtain ⟨uy,hcy,hky⟩:=hys'.out W1 (Below.refl _ _) p hpB
   rw [hms] at hky
   obtain ⟨ya',yc',mb,mo,rfl,hyb,hyc,_⟩:=hky
   replace hcy:=cell_kept hbr hcy
   obtain ⟨cs,hcl,⟨xu,hcs,hxu,hxn⟩,hcc⟩:=hwt.cells (j:=i) (x:=((p,q),wd)) (by
    rw [← hx,getD_eq hlt]; exact List.getElem?_eq_some_iff.2 ⟨hlt,rfl⟩)
   subst hcs
   have cx0:wr.cell? ⟨gw,i * 3,none⟩=some (.int .i64 (p:Int)):=hcc 0 _ rfl
   obtain ⟨a0,a1,b0,b1⟩:=hKA.out wr hbr
   have hii:(i:Int) < (Q.length:Int):=by omega
   have hpi:(p:Int) < (bb.length:Int):=by omega
   have hp0:(0:Int)≤(p:Int):=by omega
   obtain ⟨wo,hwo⟩:=exF (wr)
   subst hwo
   replace hyc:Hid (∀ j,j < ms.length→(ms.getD j []).length=8∧CI W1 mb (mo+j * 8) (ms.getD j [])):=hyc
   replace hx:=Lib.hid hx
   replace hyb:=Lib.hid hyb
   clear hg hwe hcc hxu hxn hcl hxm hxq
   go_wp2_with fail
   go_quiet (fail)
   go_wp2_with fail
   obtain ⟨wa,hwa⟩:=exF (wo.drewN nq)
   have hbwa:Below wo.heap.size wo wa:=by rw [hwa]; exact below_drewN (Below.refl _ _) _
   have hwta:=OwX.keep (eitN_stab (by decide)) hwt hbwa
   have hbra:=bt hbr hbwa hbr.size
   rw [← hwa]
   clear hwt cx0 a0 a1 b0 b1 hwa
   go_loopg [7,10] ms.length (fun gg lv kv wr=>∃ (k:Nat) (Qk:List It),kv = .int .i64 (k:Int)∧gg+k=ms.length∧OwX 248 3 EItN wr (w.heap.size+2) lv Qk.length Qk∧Below W1.heap.size W1 wr∧Hid (fsIn aa q (fsGo aa bb f (i+1)) (ms.drop k) (Qk.map Prod.fst)=some R)∧Hid (QB2 bb.length aa.length Qk)∧i < Qk.length∧Hid (Qk.getD i ((0,0),[])=((p,q),wd)))
   case atStart=>exact ⟨0,Q,rfl,by omega,hwta,hbra,hgi,hQB,hlt,hx⟩
   case round=>
    clear hwta hbra hgi hbwa hcy
    obtain ⟨k,Qk,rfl,hgk,hwt,hbr2,hg,hQB2,hik,hxk⟩:=hrel
    obtain ⟨na,nc,hnv⟩:=hwt.shape
    subst hnv
    have hQkl:=hQB2.out.len lb la
    by_cases hltk:k < ms.length
    ·obtain ⟨gg,rfl⟩:∃ gg,gk=gg+1:=⟨gk - 1,by omega⟩
     obtain ⟨gn,cn,hne,hgn⟩:=hwt.form (by omega)
     obtain ⟨rfl,rfl⟩:na=some ⟨gn,0,none⟩∧nc=cn:=by injection hne with h1 h2 h3; exact ⟨h1,h3⟩
     obtain rfl:=hyb.out (by omega)
     obtain ⟨hy8,hyi⟩:=hyc.out k hltk
     obtain ⟨y,hy⟩:=exE (ms.getD k [])
     have hyL:=hLm.out y (by rw [← hy]; exact getD_mem hltk)
     have hg2:=hg.out
     rw [drop_cons hltk ([]:List Int),hy,fsIn] at hg2
     rw [hy] at hy8 hyi
     obtain ⟨y0,y1,y2,y3,y4,y5,y6,y7,rfl⟩:=eight hy8
     replace hyL:0≤y7∧y7 < (bb.length:Int):=hyL
     obtain ⟨pm,rfl⟩:∃ pm:Nat,y7=(pm:Int):=⟨y7.toNat,by omega⟩
     have hpmB:pm < bb.length:=by omega
     have hTq:=hTo.out q hqA (rdOf [y0,y1,y2,y3,y4,y5,y6,(pm:Int)])
     have hrd:rdOf [y0,y1,y2,y3,y4,y5,y6,(pm:Int)] = [y0,y1,y2,y3,y4,y5,y6]:=rfl
     have hmt:mvTo [y0,y1,y2,y3,y4,y5,y6,(pm:Int)]=pm:=by show ((pm:Int)).toNat=pm; omega
     rw [hrd,hmt] at hg2
     rw [hrd] at hTq
     have HTq:=fun W (hW:Below wr.heap.size wr W)=>HT.out W (bt (bt hb1 hbr2 hb1.size) hW (bt hb1 hbr2 hb1.size).size) q hqA y0 y1 y2 y3 y4 y5 y6
     obtain ⟨P,hP⟩:=exE (toI [y0,y1,y2,y3,y4,y5,y6] (aa.getD q []))
     rw [hP] at hg2 hTq
     simp only [hP] at HTq
     obtain ⟨cs,hcl,⟨xu,hcs,hxu,hxn⟩,hcc⟩:=hwt.cells (j:=i) (x:=((p,q),wd)) (by
      rw [← hxk.out,getD_eq hik]; exact List.getElem?_eq_some_iff.2 ⟨hik,rfl⟩)
     subst hcs
     obtain ⟨xua,xuc,hxus⟩:=hxu.shape
     subst hxus
     have hxu:OwX 87 7 EI wr 0 (.slice xua wd.length xuc) wd.length wd:=hxu
     have hxn:wd = []→Value.slice xua wd.length xuc = .slice none 0 0:=hxn
     have cx1:wr.cell? ⟨gn,i * 3+1,none⟩=some (.int .i64 (q:Int)):=hcc 1 _ rfl
     have cx2:wr.cell? ⟨gn,i * 3+2,none⟩=some (.slice xua wd.length xuc):=hcc 2 _ rfl
     obtain ⟨c0,c1,c2,c3,c4,c5,c6,c7⟩:=(hyi.keep hbr2).all8
     obtain ⟨a0,a1,b0,b1⟩:=hKA.out wr hbr2
     have hki:(k:Int) < (ms.length:Int):=by omega
     have hikI:(i:Int) < (Qk.length:Int):=by omega
     have hwdl:wd.length≤i:=by have:=hQB2.out.2 i; rw [hxk.out] at this; exact this
     have hq0:(0:Int)≤(q:Int):=by omega
     have HW:=longerC ((OwX.keep (EI.stab _) hxu ((Below.refl wr.heap.size wr).drew)).ks (by omega)) hxn (by omega) y0 y1 y2 y3 y4 y5 y6
     replace HW:=Lib.hid HW
     replace HTq:=Lib.hid HTq
     replace hg2:=Lib.hid hg2
     clear hy hyi hy8 hP hrd hmt hne hcc hxu hcl hxn
     go_wp2_with fail
     go_region_held3 (fun w'=>w'.cell? ⟨gn,i * 3+2,none⟩=some (.slice xua wd.length xuc)∧w'.cell? ⟨mb,mo+k * 8,none⟩=some (.int .i64 y0)∧w'.cell? ⟨mb,mo+k * 8+1,none⟩=some (.int .i64 y1)∧w'.cell? ⟨mb,mo+k * 8+2,none⟩=some (.int .i64 y2)∧w'.cell? ⟨mb,mo+k * 8+3,none⟩=some (.int .i64 y3)∧w'.cell? ⟨mb,mo+k * 8+4,none⟩=some (.int .i64 y4)∧w'.cell? ⟨mb,mo+k * 8+5,none⟩=some (.int .i64 y5)∧w'.cell? ⟨mb,mo+k * 8+6,none⟩=some (.int .i64 y6))
      (first
       | go_keep
       | (exact ⟨cell_kept hbd6 cx2,cell_kept hbd6 c0,cell_kept hbd6 c1,cell_kept hbd6 c2,cell_kept hbd6 c3,cell_kept hbd6 c4,cell_kept hbd6 c5,cell_kept hbd6 c6⟩))
      (first
       | (go_at_call 214; (with_reducible refine HW.out.mono ?_); rintro e w6 ⟨u6,rfl,ho6,hb6⟩; obtain ⟨a6,c6',rfl⟩:=ho6.shape; have hbd6:Below wr.heap.size wr w6:=below_of_drew hb6))
     have hwt6:=OwX.keep (eitN_stab (by decide)) hwt hbd6
     have hbr6:=bt hbr2 hbd6 hbr2.size
     have hbw6:=bt hb1 hbr6 hb1.size
     have ho6w:OwX 87 7 EI w6 w.heap.size (.slice a6 (wd.length+1) c6') (wd.length+1) (wd ++ [[y0,y1,y2,y3,y4,y5,y6]]):=ho6.base (Nat.le_trans (bt hb1 hbr2 hb1.size).size (by simp))
     have hf:=Lib.hid (fun wq (hC:Below w6.heap.size w6 wq)=>And.intro (cell_kept hC (cell_kept hbd6 a0)) (And.intro (cell_kept hC (cell_kept hbd6 a1)) (And.intro (cell_kept hC (cell_kept hbd6 cx1)) (And.intro (cell_kept hC (cell_kept hbd6 c0)) (And.intro (cell_kept hC (cell_kept hbd6 c1)) (And.intro (cell_kept hC (cell_kept hbd6 c2)) (And.intro (cell_kept hC (cell_kept hbd6 c3)) (And.intro (cell_kept hC (cell_kept hbd6 c4)) (And.intro (cell_kept hC (cell_kept hbd6 c5)) (And.intro (cell_kept hC (cell_kept hbd6 c6)) (cell_kept hC (cell_kept hbd6 c7))))))))))))
     have HTq6:=Lib.hid (fun wq (hC:Below w6.heap.size w6 wq)=>HTq.out wq (bt hbd6 hC hbd6.size))
     clear hwt a0 a1 b0 b1 cx1 cx2 c0 c1 c2 c3 c4 c5 c6 c7 HW HTq ho6 hbr2
     go_wp2_with fail
     refine wp_region_bw hmx (by kernel_rfl) ?_
     repeat (refine WQ.step (fun K hK => ?_)
             go_simp
             first
               | (refine hK _ ?_; clear hK K)
               | (apply Exists.intro
                  refine ⟨fun wq hC => ?_, hK _ ?_⟩
                  · (first | with_reducible rfl | (obtain ⟨f0,f1,f2,f3,f4,f5,f6,f7,f8,f9,f10⟩:=hf.out wq hC; go_simp; first | done | with_reducible rfl | with_reducible exact ⟨rfl,rfl⟩) | (refine (HTq6.out wq hC).mono ?_; rintro e w' ⟨rfl,hb⟩; exact ⟨rfl,bt hC hb hC.size⟩))
                  clear hK K))
     refine WQ.nil ?_
     intro w7 hb7
     have hbr7:=bt hbr6 hb7 hbr6.size
     have hbw7:=bt hb1 hbr7 hb1.size
     have hwt7:=OwX.keep (eitN_stab (by decide)) hwt6 hb7
     have ho7:=ho6w.keep (EI.stab _) hb7
     obtain ⟨-,-,-,-,-,-,-,-,-,-,x7⟩:=hf.out w7 hb7
     clear hf HTq6 hwt6 ho6w
     by_cases hPn:P < 0
     ·have hd1:decide (P < 0)=true:=decide_eq_true hPn
      have hRt:R=true:=by have:=hg2.out; rw [if_pos hPn] at this; injection this with this; exact this.symm
      have hfin:(true=false↔inW aa bb):=by rw [← hRt]; exact hRe.out
      have hlw:(wd ++ [[y0,y1,y2,y3,y4,y5,y6]]).length=wd.length+1:=by simp
      replace hRt:=Lib.hid hRt
      replace hfin:=Lib.hid hfin
      clear hg2 hwt7
      go_wp2_with fail
      go_ret3
      exact ⟨_,true,_,wd ++ [[y0,y1,y2,y3,y4,y5,y6]],rfl,hfin.out,by rw [hlw]; exact ho7,by rw [hlw]; omega,hbw7⟩
     ·have hd1:decide (P < 0)=false:=decide_eq_false hPn
      obtain ⟨pq,rfl⟩:∃ a:Nat,P=(a:Int):=⟨P.toNat,by omega⟩
      have hpqA:pq < aa.length:=by omega
      have hg3:=hg2.out
      rw [if_neg (by omega),Int.toNat_natCast] at hg3
      obtain ⟨W8,hW8⟩:=exF (w7.alloc (.cells #[.int .i64 (pm:Int),.int .i64 (pq:Int)] 93))
      have hb8:Below w7.heap.size w7 W8:=by rw [hW8]; exact (Below.refl _ _).alloc (Nat.le_refl _) _
      have m8:W8.heap[w7.heap.size]? = some (.cells #[.int .i64 (pm:Int),.int .i64 (pq:Int)] 93):=by rw [hW8]; exact heap_alloc_new _ _
      obtain ⟨z0,z1⟩:=boxL2 m8
      have hwt8:=OwX.keep (eitN_stab (by decide)) hwt7 hb8
      have HN:=hasNd hwt8.toIt (by omega) pm pq
      have hpm0:(0:Int)≤(pm:Int):=by omega
      clear hg2 hwt7 hPn m8
      go_upto_region 14 with fail
      rw [← hW8]
      replace hW8:=Lib.hid hW8
      by_cases hin:(pm,pq)∈Qk.map Prod.fst
      ·rw [decide_eq_true hin] at HN
       rw [pushP,if_pos hin] at hg3
       replace HN:=Lib.hid HN
       replace hg3:=Lib.hid hg3
       go_wp2_with fail
       refine HN.out.mono ?_
       rintro e w9 ⟨rfl,hb9⟩
       have hwt9:=OwX.keep (eitN_stab (by decide)) hwt8 hb9
       have hbr9:=bt hbr7 (btt hb8 hb9) hbr7.size
       clear hwt8 ho7
       go_wp2_with fail
       go_roundg gg
       case measure=>omega
       case rel=>exact ⟨k+1,Qk,by go_num,by omega,hwt9,hbr9,hg3,hQB2,hik,hxk⟩
      ·rw [decide_eq_false hin] at HN
       rw [pushP,if_neg hin] at hg3
       have hQB':Hid (QB2 bb.length aa.length (Qk ++ [((pm,pq),wd ++ [[y0,y1,y2,y3,y4,y5,y6]])])):=hQB2.out.snoc (t:=((pm,pq),wd ++ [[y0,y1,y2,y3,y4,y5,y6]])) hin hpmB hpqA (by simp only [List.length_append,List.length_cons,List.length_nil]; omega)
       have hg4:Hid (fsIn aa q (fsGo aa bb f (i+1)) (ms.drop (k+1)) ((Qk ++ [((pm,pq),wd ++ [[y0,y1,y2,y3,y4,y5,y6]])]).map Prod.fst)=some R):=by rw [List.map_append]; exact hg3
       have hxk':Hid ((Qk ++ [((pm,pq),wd ++ [[y0,y1,y2,y3,y4,y5,y6]])]).getD i ((0,0),[])=((p,q),wd)):=by rw [getD_app2 hik]; exact hxk
       have hik':i < (Qk ++ [((pm,pq),wd ++ [[y0,y1,y2,y3,y4,y5,y6]])]).length:=by rw [List.length_append]; omega
       replace HN:=Lib.hid HN
       go_wp2_with fail
       refine HN.out.mono ?_
       rintro e w9 ⟨rfl,hb9⟩
       have hwt9:=OwX.keep (eitN_stab (by decide)) hwt8 hb9
       have hbr9:=bt hbr7 (btt hb8 hb9) hbr7.size
       have hbw9:=bt hb1 hbr9 hb1.size
       have ho9:=ho7.keep (EI.stab _) (btt hb8 hb9)
       have x0:=cell_kept hb9 z0
       have x1:=cell_kept hb9 z1
       have hlw:wd.length+1=(wd ++ [[y0,y1,y2,y3,y4,y5,y6]]).length:=by simp
       have hEl:EItN w9 [.int .i64 (pm:Int),.int .i64 (pq:Int),.slice a6 (wd.length+1) c6'] ((pm,pq),wd ++ [[y0,y1,y2,y3,y4,y5,y6]]):=⟨_,rfl,by rw [← hlw]; exact ho9.base (Nat.zero_le _),fun h=>by simp at h⟩
       have hc3:∀ u∈(#[.int .i64 (pm:Int),.int .i64 (pq:Int),.slice a6 (wd.length+1) c6']:Array Value).toList,u.oneCell'=true:=fun u hu=>by
        simp only [List.mem_cons,List.not_mem_nil,or_false] at hu
        rcases hu with rfl | rfl | rfl <;> rfl
       have hBb:w.heap.size+2≤w9.heap.size:=by have:=hbr9.size; have:=hs1.out; omega
       clear hwt8 ho7 z0 z1 hg3 hin ho9 hlw
       go_wp2_with (at_builtin; refine wpAppX elemNd20 (by decide) (by decide) (eitN_stab (by decide)) rfl _ _ rfl rfl hwt9 rfl rfl rfl hc3 hEl (by omega) hBb ?_)
       intro v' w10 ho10 _ hb10 _
       have ho11:OwX 248 3 EItN w10 (w.heap.size+2) v' (Qk ++ [((pm,pq),wd ++ [[y0,y1,y2,y3,y4,y5,y6]])]).length (Qk ++ [((pm,pq),wd ++ [[y0,y1,y2,y3,y4,y5,y6]])]):=by rw [List.length_append]; exact ho10
       have hbr10:Below W1.heap.size W1 w10:=hbr9.trans (hb10.mono (by have:=hs1.out; omega))
       clear hwt9 ho10 x0 x1
       go_wp2_with fail
       go_roundg gg
       case measure=>omega
       case rel=>exact ⟨k+1,_,by go_num,by omega,ho11,hbr10,hg4,hQB',hik',hxk'⟩
    ·obtain rfl:k=ms.length:=by omega
     have hg2:=hg.out
     rw [List.drop_eq_nil_of_le (Nat.le_refl _),fsIn] at hg2
     have hg3:Hid (fsGo aa bb f (i+1) (Qk.map Prod.fst)=some R):=hg2
     clear hg hg2
     go_wp2_with fail
     go_roundg f
     case measure=>omega
     case rel=>exact ⟨i+1,Qk,by go_num,by omega,hwt,hbr2,hg3,hQB2⟩
  ·have hRf:R=false:=by
    have h1:=hg.out
    cases gk with
    | zero=>simp [fsGo] at h1
    | succ f=>rw [fsGo,if_neg (by rw [List.length_map]; exact hlt)] at h1; injection h1 with h1; exact h1.symm
   have hfin:inW aa bb:=hRe.out.1 hRf
   have hbw:=bt hb1 hbr hb1.size
   have hge : ¬ ((i:Int) < (Q.length:Int)):=by omega
   replace hRf:=Lib.hid hRf
   replace hfin:=Lib.hid hfin
   clear hg hQB hwt
   go_wp2_with fail
   go_ret3
   exact ⟨_,false,_,[],rfl,⟨fun _=>hfin.out,fun _=>rfl⟩,OwX.nil _ _,by simp,hbw⟩
end Go.Proofs.YtmikofeildnpdaaGreat

/- Words in order. Plain lists. -/
namespace Go.Proofs.YtmikofeildnpdaaGreat
def W7 (w:List (List Int)):Prop:=∀ r∈w,r.length=7
theorem cmpL_app:∀ {a b:List Int},a.length=b.length→∀ xs ys:List Int,cmpL (a++xs) (b++ys)=if cmpL a b=0 then cmpL xs ys else cmpL a b
 | [],[],_,_,_=>by simp [cmpL]
 | [],_::_,h,_,_=>by cases h
 | _::_,[],h,_,_=>by cases h
 | a::x,b::y,h,xs,ys=>by
  rw [List.cons_append,List.cons_append]
  by_cases e:cmpI a b=0
  ·rw [cmpL_hd e,cmpL_hd e,cmpL_app (by simpa using h)]
  ·rw [cmpL_ne e,cmpL_ne e,if_neg e]
section
variable {ss:List (List (List Int))}
end
end Go.Proofs.YtmikofeildnpdaaGreat

/- ref15.Order: words in order. -/
namespace Go.Proofs.YtmikofeildnpdaaGreat
open Go.RowKit
theorem refGraphCompareG (n h0 h1 h2 h3 h4 m g0 g1 g2 g3 g4:Int) (w:World):Calls Tryz.prog 138 #[.agg #[.int .i64 n,.int .i64 h0,.int .i64 h1,.int .i64 h2,.int .i64 h3,.int .i64 h4],.agg #[.int .i64 m,.int .i64 g0,.int .i64 g1,.int .i64 g2,.int .i64 g3,.int .i64 g4]] w fun e w'=>e = .returned (.int .i64 (cmpL [n,h0,h1,h2,h3,h4] [m,g0,g1,g2,g3,g4]))∧Below w.heap.size w w'∧w.drawn≤w'.drawn:=by
 obtain ⟨E,hE⟩:=exE (cmpL [n,h0,h1,h2,h3,h4] [m,g0,g1,g2,g3,g4])
 rw [hE]
 by_cases l1:n < m
 ·have hE0:=Lib.hid (show E = -1 by rw [← hE,cmpL_ne (by rw [cmpI_lt l1]; decide),cmpI_lt l1])
  have l1':decide (n < m)=true:=decide_eq_true l1
  clear hE
  go_enter Tryz.func138, Tryz.ntmps138
  go_wp2
  go_ret
  exact ⟨ret_int hE0.out.symm,(((Below.refl w.heap.size w).alloc (Nat.le_refl _) _).alloc (by simp) _),(by first | exact Nat.le_refl _ | exact hd1 | exact Nat.le_add_right _ _ | exact Nat.le_trans (Nat.le_add_right _ _) (Nat.le_add_right _ _) | exact Nat.le_trans (Nat.le_trans (Nat.le_add_right _ _) (Nat.le_add_right _ _)) (Nat.le_add_right _ _))⟩
 ·have l1':decide (n < m)=false:=decide_eq_false l1
  by_cases l2:m < n
  ·have hE0:=Lib.hid (show E=1 by rw [← hE,cmpL_ne (by rw [cmpI_gt l2]; decide),cmpI_gt l2])
   have l2':decide (m < n)=true:=decide_eq_true l2
   clear hE
   go_enter Tryz.func138, Tryz.ntmps138
   go_wp2
   go_ret
   exact ⟨ret_int hE0.out.symm,(((Below.refl w.heap.size w).alloc (Nat.le_refl _) _).alloc (by simp) _),(by first | exact Nat.le_refl _ | exact hd1 | exact Nat.le_add_right _ _ | exact Nat.le_trans (Nat.le_add_right _ _) (Nat.le_add_right _ _) | exact Nat.le_trans (Nat.le_trans (Nat.le_add_right _ _) (Nat.le_add_right _ _)) (Nat.le_add_right _ _))⟩
  ·have l2':decide (m < n)=false:=decide_eq_false l2
   have hE0:=Lib.hid (show cmpL [h0,h1,h2,h3,h4] [g0,g1,g2,g3,g4]=E by rw [← hE]; exact (cmpL_hd (cmpI_zero.2 (show n=m by omega))).symm)
   clear hE l1 l2
   go_enter Tryz.func138, Tryz.ntmps138
   go_wp2
   go_loopw [5] (fun iv wr=>∃ (k:Int) (dn:Nat),wr=((w.alloc (.cells #[.int .i64 n,.int .i64 h0,.int .i64 h1,.int .i64 h2,.int .i64 h3,.int .i64 h4] 85)).alloc (.cells #[.int .i64 m,.int .i64 g0,.int .i64 g1,.int .i64 g2,.int .i64 g3,.int .i64 g4] 85)).drewN dn∧iv = .int .i64 k∧((k=0∧Hid (cmpL [h0,h1,h2,h3,h4] [g0,g1,g2,g3,g4]=E))∨(k=1∧Hid (cmpL [h1,h2,h3,h4] [g1,g2,g3,g4]=E))∨(k=2∧Hid (cmpL [h2,h3,h4] [g2,g3,g4]=E))∨(k=3∧Hid (cmpL [h3,h4] [g3,g4]=E))∨(k=4∧Hid (cmpL [h4] [g4]=E))∨(k=5∧Hid (cmpL [] []=E)))) (fun iv _=>5 - (intOf iv).toNat)
   case atStart=>exact ⟨0,0,(by first | rfl | simp),rfl,.inl ⟨rfl,hE0⟩⟩
   case round=>
    clear hE0
    obtain ⟨k,dn,rfl,rfl,hk⟩:=hrel
    rcases hk with ⟨rfl,hg⟩ | ⟨rfl,hg⟩ | ⟨rfl,hg⟩ | ⟨rfl,hg⟩ | ⟨rfl,hg⟩ | ⟨rfl,hg⟩
    ·by_cases l1:h0 < g0
     ·have l1':decide (h0 < g0)=true:=decide_eq_true l1
      have hz:=Lib.hid (cmpI_lt l1)
      clear l1
      go_wp2
      go_quiet (fail)
      go_wp2
      go_ret
      exact ⟨ret_int (by rw [← hg.out,cmpL_ne (by rw [hz.out]; decide),hz.out]),(by first | exact below_drewN (((Below.refl w.heap.size w).alloc (Nat.le_refl _) _).alloc (by simp) _) _ | exact below_drewN (below_drewN (((Below.refl w.heap.size w).alloc (Nat.le_refl _) _).alloc (by simp) _) _) _ | exact below_drewN (below_drewN (below_drewN (((Below.refl w.heap.size w).alloc (Nat.le_refl _) _).alloc (by simp) _) _) _) _),(by first | exact Nat.le_refl _ | exact hd1 | exact Nat.le_add_right _ _ | exact Nat.le_trans (Nat.le_add_right _ _) (Nat.le_add_right _ _) | exact Nat.le_trans (Nat.le_trans (Nat.le_add_right _ _) (Nat.le_add_right _ _)) (Nat.le_add_right _ _))⟩
     ·have l1':decide (h0 < g0)=false:=decide_eq_false l1
      by_cases l2:g0 < h0
      ·have l2':decide (g0 < h0)=true:=decide_eq_true l2
       have hz:=Lib.hid (cmpI_gt l2)
       clear l1 l2
       go_wp2
       go_quiet (fail)
       go_wp2
       go_quiet (fail)
       go_wp2
       go_ret
       exact ⟨ret_int (by rw [← hg.out,cmpL_ne (by rw [hz.out]; decide),hz.out]),(by first | exact below_drewN (((Below.refl w.heap.size w).alloc (Nat.le_refl _) _).alloc (by simp) _) _ | exact below_drewN (below_drewN (((Below.refl w.heap.size w).alloc (Nat.le_refl _) _).alloc (by simp) _) _) _ | exact below_drewN (below_drewN (below_drewN (((Below.refl w.heap.size w).alloc (Nat.le_refl _) _).alloc (by simp) _) _) _) _),(by first | exact Nat.le_refl _ | exact hd1 | exact Nat.le_add_right _ _ | exact Nat.le_trans (Nat.le_add_right _ _) (Nat.le_add_right _ _) | exact Nat.le_trans (Nat.le_trans (Nat.le_add_right _ _) (Nat.le_add_right _ _)) (Nat.le_add_right _ _))⟩
      ·have l2':decide (g0 < h0)=false:=decide_eq_false l2
       have hz:=Lib.hid (cmpI_zero.2 (show h0=g0 by omega))
       clear l1 l2
       go_wp2
       go_quiet (fail)
       go_wp2
       go_quiet (fail)
       go_wp2
       go_roundw
       case rel=>exact ⟨1,_,(by first | exact rfl | exact World.drewN_drewN _ _ _),rfl,.inr (.inl ⟨rfl,by show _=_; rw [← hg.out,cmpL_hd hz.out]⟩)⟩
       case measure=>simp [intOf]
    ·by_cases l1:h1 < g1
     ·have l1':decide (h1 < g1)=true:=decide_eq_true l1
      have hz:=Lib.hid (cmpI_lt l1)
      clear l1
      go_wp2
      go_quiet (fail)
      go_wp2
      go_ret
      exact ⟨ret_int (by rw [← hg.out,cmpL_ne (by rw [hz.out]; decide),hz.out]),(by first | exact below_drewN (((Below.refl w.heap.size w).alloc (Nat.le_refl _) _).alloc (by simp) _) _ | exact below_drewN (below_drewN (((Below.refl w.heap.size w).alloc (Nat.le_refl _) _).alloc (by simp) _) _) _ | exact below_drewN (below_drewN (below_drewN (((Below.refl w.heap.size w).alloc (Nat.le_refl _) _).alloc (by simp) _) _) _) _),(by first | exact Nat.le_refl _ | exact hd1 | exact Nat.le_add_right _ _ | exact Nat.le_trans (Nat.le_add_right _ _) (Nat.le_add_right _ _) | exact Nat.le_trans (Nat.le_trans (Nat.le_add_right _ _) (Nat.le_add_right _ _)) (Nat.le_add_right _ _))⟩
     ·have l1':decide (h1 < g1)=false:=decide_eq_false l1
      by_cases l2:g1 < h1
      ·have l2':decide (g1 < h1)=true:=decide_eq_true l2
       have hz:=Lib.hid (cmpI_gt l2)
       clear l1 l2
       go_wp2
       go_quiet (fail)
       go_wp2
       go_quiet (fail)
       go_wp2
       go_ret
       exact ⟨ret_int (by rw [← hg.out,cmpL_ne (by rw [hz.out]; decide),hz.out]),(by first | exact below_drewN (((Below.refl w.heap.size w).alloc (Nat.le_refl _) _).alloc (by simp) _) _ | exact below_drewN (below_drewN (((Below.refl w.heap.size w).alloc (Nat.le_refl _) _).alloc (by simp) _) _) _ | exact below_drewN (below_drewN (below_drewN (((Below.refl w.heap.size w).alloc (Nat.le_refl _) _).alloc (by simp) _) _) _) _),(by first | exact Nat.le_refl _ | exact hd1 | exact Nat.le_add_right _ _ | exact Nat.le_trans (Nat.le_add_right _ _) (Nat.le_add_right _ _) | exact Nat.le_trans (Nat.le_trans (Nat.le_add_right _ _) (Nat.le_add_right _ _)) (Nat.le_add_right _ _))⟩
      ·have l2':decide (g1 < h1)=false:=decide_eq_false l2
       have hz:=Lib.hid (cmpI_zero.2 (show h1=g1 by omega))
       clear l1 l2
       go_wp2
       go_quiet (fail)
       go_wp2
       go_quiet (fail)
       go_wp2
       go_roundw
       case rel=>exact ⟨2,_,(by first | exact rfl | exact World.drewN_drewN _ _ _),rfl,.inr (.inr (.inl ⟨rfl,by show _=_; rw [← hg.out,cmpL_hd hz.out]⟩))⟩
       case measure=>simp [intOf]
    ·by_cases l1:h2 < g2
     ·have l1':decide (h2 < g2)=true:=decide_eq_true l1
      have hz:=Lib.hid (cmpI_lt l1)
      clear l1
      go_wp2
      go_quiet (fail)
      go_wp2
      go_ret
      exact ⟨ret_int (by rw [← hg.out,cmpL_ne (by rw [hz.out]; decide),hz.out]),(by first | exact below_drewN (((Below.refl w.heap.size w).alloc (Nat.le_refl _) _).alloc (by simp) _) _ | exact below_drewN (below_drewN (((Below.refl w.heap.size w).alloc (Nat.le_refl _) _).alloc (by simp) _) _) _ | exact below_drewN (below_drewN (below_drewN (((Below.refl w.heap.size w).alloc (Nat.le_refl _) _).alloc (by simp) _) _) _) _),(by first | exact Nat.le_refl _ | exact hd1 | exact Nat.le_add_right _ _ | exact Nat.le_trans (Nat.le_add_right _ _) (Nat.le_add_right _ _) | exact Nat.le_trans (Nat.le_trans (Nat.le_add_right _ _) (Nat.le_add_right _ _)) (Nat.le_add_right _ _))⟩
     ·have l1':decide (h2 < g2)=false:=decide_eq_false l1
      by_cases l2:g2 < h2
      ·have l2':decide (g2 < h2)=true:=decide_eq_true l2
       have hz:=Lib.hid (cmpI_gt l2)
       clear l1 l2
       go_wp2
       go_quiet (fail)
       go_wp2
       go_quiet (fail)
       go_wp2
       go_ret
       exact ⟨ret_int (by rw [← hg.out,cmpL_ne (by rw [hz.out]; decide),hz.out]),(by first | exact below_drewN (((Below.refl w.heap.size w).alloc (Nat.le_refl _) _).alloc (by simp) _) _ | exact below_drewN (below_drewN (((Below.refl w.heap.size w).alloc (Nat.le_refl _) _).alloc (by simp) _) _) _ | exact below_drewN (below_drewN (below_drewN (((Below.refl w.heap.size w).alloc (Nat.le_refl _) _).alloc (by simp) _) _) _) _),(by first | exact Nat.le_refl _ | exact hd1 | exact Nat.le_add_right _ _ | exact Nat.le_trans (Nat.le_add_right _ _) (Nat.le_add_right _ _) | exact Nat.le_trans (Nat.le_trans (Nat.le_add_right _ _) (Nat.le_add_right _ _)) (Nat.le_add_right _ _))⟩
      ·have l2':decide (g2 < h2)=false:=decide_eq_false l2
       have hz:=Lib.hid (cmpI_zero.2 (show h2=g2 by omega))
       clear l1 l2
       go_wp2
       go_quiet (fail)
       go_wp2
       go_quiet (fail)
       go_wp2
       go_roundw
       case rel=>exact ⟨3,_,(by first | exact rfl | exact World.drewN_drewN _ _ _),rfl,.inr (.inr (.inr (.inl ⟨rfl,by show _=_; rw [← hg.out,cmpL_hd hz.out]⟩)))⟩
       case measure=>simp [intOf]
    ·by_cases l1:h3 < g3
     ·have l1':decide (h3 < g3)=true:=decide_eq_true l1
      have hz:=Lib.hid (cmpI_lt l1)
      clear l1
      go_wp2
      go_quiet (fail)
      go_wp2
      go_ret
      exact ⟨ret_int (by rw [← hg.out,cmpL_ne (by rw [hz.out]; decide),hz.out]),(by first | exact below_drewN (((Below.refl w.heap.size w).alloc (Nat.le_refl _) _).alloc (by simp) _) _ | exact below_drewN (below_drewN (((Below.refl w.heap.size w).alloc (Nat.le_refl _) _).alloc (by simp) _) _) _ | exact below_drewN (below_drewN (below_drewN (((Below.refl w.heap.size w).alloc (Nat.le_refl _) _).alloc (by simp) _) _) _) _),(by first | exact Nat.le_refl _ | exact hd1 | exact Nat.le_add_right _ _ | exact Nat.le_trans (Nat.le_add_right _ _) (Nat.le_add_right _ _) | exact Nat.le_trans (Nat.le_trans (Nat.le_add_right _ _) (Nat.le_add_right _ _)) (Nat.le_add_right _ _))⟩
     ·have l1':decide (h3 < g3)=false:=decide_eq_false l1
      by_cases l2:g3 < h3
      ·have l2':decide (g3 < h3)=true:=decide_eq_true l2
       have hz:=Lib.hid (cmpI_gt l2)
       clear l1 l2
       go_wp2
       go_quiet (fail)
       go_wp2
       go_quiet (fail)
       go_wp2
       go_ret
       exact ⟨ret_int (by rw [← hg.out,cmpL_ne (by rw [hz.out]; decide),hz.out]),(by first | exact below_drewN (((Below.refl w.heap.size w).alloc (Nat.le_refl _) _).alloc (by simp) _) _ | exact below_drewN (below_drewN (((Below.refl w.heap.size w).alloc (Nat.le_refl _) _).alloc (by simp) _) _) _ | exact below_drewN (below_drewN (below_drewN (((Below.refl w.heap.size w).alloc (Nat.le_refl _) _).alloc (by simp) _) _) _) _),(by first | exact Nat.le_refl _ | exact hd1 | exact Nat.le_add_right _ _ | exact Nat.le_trans (Nat.le_add_right _ _) (Nat.le_add_right _ _) | exact Nat.le_trans (Nat.le_trans (Nat.le_add_right _ _) (Nat.le_add_right _ _)) (Nat.le_add_right _ _))⟩
      ·have l2':decide (g3 < h3)=false:=decide_eq_false l2
       have hz:=Lib.hid (cmpI_zero.2 (show h3=g3 by omega))
       clear l1 l2
       go_wp2
       go_quiet (fail)
       go_wp2
       go_quiet (fail)
       go_wp2
       go_roundw
       case rel=>exact ⟨4,_,(by first | exact rfl | exact World.drewN_drewN _ _ _),rfl,.inr (.inr (.inr (.inr (.inl ⟨rfl,by show _=_; rw [← hg.out,cmpL_hd hz.out]⟩))))⟩
       case measure=>simp [intOf]
    ·by_cases l1:h4 < g4
     ·have l1':decide (h4 < g4)=true:=decide_eq_true l1
      have hz:=Lib.hid (cmpI_lt l1)
      clear l1
      go_wp2
      go_quiet (fail)
      go_wp2
      go_ret
      exact ⟨ret_int (by rw [← hg.out,cmpL_ne (by rw [hz.out]; decide),hz.out]),(by first | exact below_drewN (((Below.refl w.heap.size w).alloc (Nat.le_refl _) _).alloc (by simp) _) _ | exact below_drewN (below_drewN (((Below.refl w.heap.size w).alloc (Nat.le_refl _) _).alloc (by simp) _) _) _ | exact below_drewN (below_drewN (below_drewN (((Below.refl w.heap.size w).alloc (Nat.le_refl _) _).alloc (by simp) _) _) _) _),(by first | exact Nat.le_refl _ | exact hd1 | exact Nat.le_add_right _ _ | exact Nat.le_trans (Nat.le_add_right _ _) (Nat.le_add_right _ _) | exact Nat.le_trans (Nat.le_trans (Nat.le_add_right _ _) (Nat.le_add_right _ _)) (Nat.le_add_right _ _))⟩
     ·have l1':decide (h4 < g4)=false:=decide_eq_false l1
      by_cases l2:g4 < h4
      ·have l2':decide (g4 < h4)=true:=decide_eq_true l2
       have hz:=Lib.hid (cmpI_gt l2)
       clear l1 l2
       go_wp2
       go_quiet (fail)
       go_wp2
       go_quiet (fail)
       go_wp2
       go_ret
       exact ⟨ret_int (by rw [← hg.out,cmpL_ne (by rw [hz.out]; decide),hz.out]),(by first | exact below_drewN (((Below.refl w.heap.size w).alloc (Nat.le_refl _) _).alloc (by simp) _) _ | exact below_drewN (below_drewN (((Below.refl w.heap.size w).alloc (Nat.le_refl _) _).alloc (by simp) _) _) _ | exact below_drewN (below_drewN (below_drewN (((Below.refl w.heap.size w).alloc (Nat.le_refl _) _).alloc (by simp) _) _) _) _),(by first | exact Nat.le_refl _ | exact hd1 | exact Nat.le_add_right _ _ | exact Nat.le_trans (Nat.le_add_right _ _) (Nat.le_add_right _ _) | exact Nat.le_trans (Nat.le_trans (Nat.le_add_right _ _) (Nat.le_add_right _ _)) (Nat.le_add_right _ _))⟩
      ·have l2':decide (g4 < h4)=false:=decide_eq_false l2
       have hz:=Lib.hid (cmpI_zero.2 (show h4=g4 by omega))
       clear l1 l2
       go_wp2
       go_quiet (fail)
       go_wp2
       go_quiet (fail)
       go_wp2
       go_roundw
       case rel=>exact ⟨5,_,(by first | exact rfl | exact World.drewN_drewN _ _ _),rfl,.inr (.inr (.inr (.inr (.inr (⟨rfl,by show _=_; rw [← hg.out,cmpL_hd hz.out]⟩)))))⟩
       case measure=>simp [intOf]
    ·go_wp2
     go_ret
     exact ⟨ret_int hg.out,(by first | exact below_drewN (((Below.refl w.heap.size w).alloc (Nat.le_refl _) _).alloc (by simp) _) _ | exact below_drewN (below_drewN (((Below.refl w.heap.size w).alloc (Nat.le_refl _) _).alloc (by simp) _) _) _ | exact below_drewN (below_drewN (below_drewN (((Below.refl w.heap.size w).alloc (Nat.le_refl _) _).alloc (by simp) _) _) _) _),(by first | exact Nat.le_refl _ | exact hd1 | exact Nat.le_add_right _ _ | exact Nat.le_trans (Nat.le_add_right _ _) (Nat.le_add_right _ _) | exact Nat.le_trans (Nat.le_trans (Nat.le_add_right _ _) (Nat.le_add_right _ _)) (Nat.le_add_right _ _))⟩
theorem refRoundCompareG (n h0 h1 h2 h3 h4 f m g0 g1 g2 g3 g4 g:Int) (w:World):Calls Tryz.prog 103 #[.agg #[.int .i64 n,.int .i64 h0,.int .i64 h1,.int .i64 h2,.int .i64 h3,.int .i64 h4,.int .i64 f],.agg #[.int .i64 m,.int .i64 g0,.int .i64 g1,.int .i64 g2,.int .i64 g3,.int .i64 g4,.int .i64 g]] w fun e w'=>e = .returned (.int .i64 (cmpL [n,h0,h1,h2,h3,h4,f] [m,g0,g1,g2,g3,g4,g]))∧Below w.heap.size w w'∧w.drawn≤w'.drawn:=by
 have hb:Below w.heap.size w ((w.alloc (.cells #[.int .i64 n,.int .i64 h0,.int .i64 h1,.int .i64 h2,.int .i64 h3,.int .i64 h4,.int .i64 f] 87)).alloc (.cells #[.int .i64 m,.int .i64 g0,.int .i64 g1,.int .i64 g2,.int .i64 g3,.int .i64 g4,.int .i64 g] 87)):=((Below.refl _ _).alloc (Nat.le_refl _) _).alloc (by simp) _
 have HG:=fun W=>refGraphCompareG n h0 h1 h2 h3 h4 m g0 g1 g2 g3 g4 W
 have hs0:((w.alloc (.cells #[.int .i64 n,.int .i64 h0,.int .i64 h1,.int .i64 h2,.int .i64 h3,.int .i64 h4,.int .i64 f] 87)).alloc (.cells #[.int .i64 m,.int .i64 g0,.int .i64 g1,.int .i64 g2,.int .i64 g3,.int .i64 g4,.int .i64 g] 87)).heap[w.heap.size]? = some (.cells #[.int .i64 n,.int .i64 h0,.int .i64 h1,.int .i64 h2,.int .i64 h3,.int .i64 h4,.int .i64 f] 87):=(Below.heap_alloc _ _ _ (by simp)).trans (heap_alloc_new w _)
 have hs1:((w.alloc (.cells #[.int .i64 n,.int .i64 h0,.int .i64 h1,.int .i64 h2,.int .i64 h3,.int .i64 h4,.int .i64 f] 87)).alloc (.cells #[.int .i64 m,.int .i64 g0,.int .i64 g1,.int .i64 g2,.int .i64 g3,.int .i64 g4,.int .i64 g] 87)).heap[w.heap.size+1]? = some (.cells #[.int .i64 m,.int .i64 g0,.int .i64 g1,.int .i64 g2,.int .i64 g3,.int .i64 g4,.int .i64 g] 87):=by have:=heap_alloc_new (w.alloc (.cells #[.int .i64 n,.int .i64 h0,.int .i64 h1,.int .i64 h2,.int .i64 h3,.int .i64 h4,.int .i64 f] 87)) (.cells #[.int .i64 m,.int .i64 g0,.int .i64 g1,.int .i64 g2,.int .i64 g3,.int .i64 g4,.int .i64 g] 87); rwa [World.size_alloc] at this
 by_cases hg : [n,h0,h1,h2,h3,h4] = [m,g0,g1,g2,g3,g4]
 ·have hE:=Lib.hid (cmp7_2 (f:=f) (g:=g) hg)
  simp only [cmpL_zero.2 hg] at HG
  replace HG:=Lib.hid HG
  clear hg
  replace hs0:=Lib.hid hs0; replace hs1:=Lib.hid hs1
  by_cases l1:f < g
  ·have l1':decide (f < g)=true:=decide_eq_true l1
   have hc:=Lib.hid (cmpI_lt l1)
   clear l1
   go_enter Tryz.func103, Tryz.ntmps103
   go_wp2_with fail
   refine (HG.out _).mono ?_; rintro e w1 ⟨rfl,hb1,hd1⟩
   have k0:=(hb1.block _ (by simp; omega)).trans hs0.out
   have k1:=(hb1.block _ (by simp)).trans hs1.out
   have c0:w1.cell? ⟨w.heap.size,6,none⟩=some (.int .i64 f):=by rw [cell_of_row _ _ 6 _ _ _ k0]; rfl
   have c1:w1.cell? ⟨w.heap.size+1,6,none⟩=some (.int .i64 g):=by rw [cell_of_row _ _ 6 _ _ _ k1]; rfl
   go_wp2
   go_ret
   exact ⟨ret_int (by rw [hE.out,hc.out]),bt hb hb1 hb.size,(by first | exact Nat.le_refl _ | exact hd1 | exact Nat.le_add_right _ _ | exact Nat.le_trans (Nat.le_add_right _ _) (Nat.le_add_right _ _) | exact Nat.le_trans (Nat.le_trans (Nat.le_add_right _ _) (Nat.le_add_right _ _)) (Nat.le_add_right _ _))⟩
  ·have l1':decide (f < g)=false:=decide_eq_false l1
   by_cases l2:g < f
   ·have l2':decide (g < f)=true:=decide_eq_true l2
    have hc:=Lib.hid (cmpI_gt l2)
    clear l1 l2
    go_enter Tryz.func103, Tryz.ntmps103
    go_wp2_with fail
    refine (HG.out _).mono ?_; rintro e w1 ⟨rfl,hb1,hd1⟩
    have k0:=(hb1.block _ (by simp; omega)).trans hs0.out
    have k1:=(hb1.block _ (by simp)).trans hs1.out
    have c0:w1.cell? ⟨w.heap.size,6,none⟩=some (.int .i64 f):=by rw [cell_of_row _ _ 6 _ _ _ k0]; rfl
    have c1:w1.cell? ⟨w.heap.size+1,6,none⟩=some (.int .i64 g):=by rw [cell_of_row _ _ 6 _ _ _ k1]; rfl
    go_wp2
    go_ret
    exact ⟨ret_int (by rw [hE.out,hc.out]),bt hb hb1 hb.size,(by first | exact Nat.le_refl _ | exact hd1 | exact Nat.le_add_right _ _ | exact Nat.le_trans (Nat.le_add_right _ _) (Nat.le_add_right _ _) | exact Nat.le_trans (Nat.le_trans (Nat.le_add_right _ _) (Nat.le_add_right _ _)) (Nat.le_add_right _ _))⟩
   ·have l2':decide (g < f)=false:=decide_eq_false l2
    have hc:=Lib.hid (cmpI_zero.2 (show f=g by omega))
    clear l1 l2
    go_enter Tryz.func103, Tryz.ntmps103
    go_wp2_with fail
    refine (HG.out _).mono ?_; rintro e w1 ⟨rfl,hb1,hd1⟩
    have k0:=(hb1.block _ (by simp; omega)).trans hs0.out
    have k1:=(hb1.block _ (by simp)).trans hs1.out
    have c0:w1.cell? ⟨w.heap.size,6,none⟩=some (.int .i64 f):=by rw [cell_of_row _ _ 6 _ _ _ k0]; rfl
    have c1:w1.cell? ⟨w.heap.size+1,6,none⟩=some (.int .i64 g):=by rw [cell_of_row _ _ 6 _ _ _ k1]; rfl
    go_wp2
    go_ret
    exact ⟨ret_int (by rw [hE.out,hc.out]),bt hb hb1 hb.size,(by first | exact Nat.le_refl _ | exact hd1 | exact Nat.le_add_right _ _ | exact Nat.le_trans (Nat.le_add_right _ _) (Nat.le_add_right _ _) | exact Nat.le_trans (Nat.le_trans (Nat.le_add_right _ _) (Nat.le_add_right _ _)) (Nat.le_add_right _ _))⟩
 ·have hE:=Lib.hid (cmp7_1 (f:=f) (g:=g) hg)
  obtain ⟨c,hc⟩:=exE (cmpL [n,h0,h1,h2,h3,h4] [m,g0,g1,g2,g3,g4])
  rw [hc] at hE
  have hz:c ≠ 0:=fun k=>hg (cmpL_zero.1 (by rw [hc]; exact k))
  simp only [hc] at HG
  replace HG:=Lib.hid HG
  have hz':(c != 0)=true:=by simpa using hz
  clear hg hc hz hs0 hs1
  go_enter Tryz.func103, Tryz.ntmps103
  go_wp2_with fail
  refine (HG.out _).mono ?_; rintro e w1 ⟨rfl,hb1,hd1⟩
  go_wp2
  go_ret
  exact ⟨ret_int hE.out.symm,bt hb hb1 hb.size,(by first | exact Nat.le_refl _ | exact hd1 | exact Nat.le_add_right _ _ | exact Nat.le_trans (Nat.le_add_right _ _) (Nat.le_add_right _ _) | exact Nat.le_trans (Nat.le_trans (Nat.le_add_right _ _) (Nat.le_add_right _ _)) (Nat.le_add_right _ _))⟩
def GrW (w w':World):Prop:=Below w.heap.size w w'∧w.drawn≤w'.drawn
theorem GrW.refl (w:World):GrW w w:=⟨Below.refl _ _,Nat.le_refl _⟩
theorem GrW.trans {a b c:World} (h:GrW a b) (g:GrW b c):GrW a c:=⟨btt h.1 g.1,Nat.le_trans h.2 g.2⟩
theorem wp_region_gw {P:Program} {id:Nat} {Q:Exit→Act→World→Prop} {a:Act} {w:World} {l:List Oper} (hm:P.follows .mixedOrders=true) (hB:Region.lexB .any l.toArray=true)
  (h:WQ P l.toArray (GrW w) (fun a'=>∀ w',GrW w w'→Q .normal a' w') l a) :
  (Code.region id l.toArray true).wp P Q a w:=
 wp_region_quiet (C:=GrW w) hm hB ⟨below_drewN (Below.refl _ w) 1,Nat.le_add_right _ _⟩ (by simpa using h.out)
theorem drop_flat {xs:List (List Int)} {i:Nat} {x:List Int} (h:i < xs.length) (hx:xs.getD i []=x):(xs.drop i).flatten=x++(xs.drop (i+1)).flatten:=by
 rw [List.drop_eq_getElem_cons h,List.flatten_cons,← hx,getD_eq h]
theorem drop_end {xs:List (List Int)} {i:Nat} (h:xs.length≤i):(xs.drop i).flatten = []:=by rw [List.drop_eq_nil_of_le h]; rfl
theorem orderC {w:World} {u v:Value} {xs ys:List (List Int)} (hx:KS 7 w u xs) (hy:KS 7 w v ys) :
  Calls Tryz.prog 141 #[u,v] w fun e w'=>e = .returned (.int .i64 (cmpL xs.flatten ys.flatten))∧GrW w w':=by
 have hmx : Tryz.prog.follows .mixedOrders=true:=by kernel_rfl
 obtain ⟨xa,xc,xb,xo,rfl,hxa,hxc,hxl⟩:=hx
 obtain ⟨ya,yc,yb,yo,rfl,hya,hyc,hyl⟩:=hy
 obtain ⟨E,hE⟩:=exE (cmpL xs.flatten ys.flatten)
 rw [hE]
 have h0:Hid (cmpL (xs.drop 0).flatten (ys.drop 0).flatten=E):=hE
 replace hxc:=Lib.hid hxc
 replace hyc:=Lib.hid hyc
 clear hE
 go_enter Tryz.func141, Tryz.ntmps141
 go_wp2_with fail
 go_loopw [5] (fun iv wr=>∃ i:Nat,iv = .int .i64 i∧i≤xs.length∧i≤ys.length∧Hid (cmpL (xs.drop i).flatten (ys.drop i).flatten=E)∧GrW w wr) (fun iv _=>xs.length - (intOf iv).toNat)
 case atStart=>exact ⟨0,rfl,by omega,by omega,h0,GrW.refl w⟩
 case round=>
  clear h0
  obtain ⟨i,rfl,hi,hj,ht,hgr⟩:=hrel
  by_cases hlt:i < xs.length
  ·have d1:decide ((i:Int) < (xs.length:Int))=true:=decide_eq_true (by omega)
   by_cases hlu:i < ys.length
   ·have d2:decide ((i:Int) < (ys.length:Int))=true:=decide_eq_true (by omega)
    obtain rfl:=hxa (by omega)
    obtain rfl:=hya (by omega)
    obtain ⟨hx8,hxi⟩:=hxc.out i hlt
    obtain ⟨hy8,hyi⟩:=hyc.out i hlu
    obtain ⟨x,hx⟩:=exE (xs.getD i [])
    obtain ⟨y,hy⟩:=exE (ys.getD i [])
    rw [hx] at hx8 hxi
    rw [hy] at hy8 hyi
    have ht2:=ht.out
    rw [drop_flat hlt hx,drop_flat hlu hy,cmpL_app (by rw [hx8,hy8])] at ht2
    replace ht2:=Lib.hid ht2
    obtain ⟨x0,x1,x2,x3,x4,x5,x6,rfl⟩:=seven hx8
    obtain ⟨y0,y1,y2,y3,y4,y5,y6,rfl⟩:=seven hy8
    have HC:=Lib.hid (fun W=>refRoundCompareG x0 x1 x2 x3 x4 x5 x6 y0 y1 y2 y3 y4 y5 y6 W)
    obtain ⟨z,hz⟩:=exE (cmpL [x0,x1,x2,x3,x4,x5,x6] [y0,y1,y2,y3,y4,y5,y6])
    rw [hz] at HC ht2
    have hf:=Lib.hid (fun wq (hC:GrW wr wq)=>And.intro (hxi.keep (btt hgr.1 hC.1)).all7 (hyi.keep (btt hgr.1 hC.1)).all7)
    clear hxi hyi hx8 hy8 hx hy hz ht
    by_cases hz0:z=0
    ·have hn:Hid (cmpL (xs.drop (i+1)).flatten (ys.drop (i+1)).flatten=E):=by
      have:=ht2.out
      rwa [if_pos hz0] at this
     subst hz0
     clear ht2
     go_wp2_with fail
     refine wp_region_gw hmx (by kernel_rfl) ?_
     repeat (refine WQ.step (fun K hK => ?_)
             go_simp
             first
               | (refine hK _ ?_; clear hK K)
               | (apply Exists.intro
                  refine ⟨fun wq hC => ?_, hK _ ?_⟩
                  · (first | with_reducible rfl | (obtain ⟨⟨e0,e1,e2,e3,e4,e5,e6⟩,f0,f1,f2,f3,f4,f5,f6⟩:=hf.out wq hC; go_simp; first | done | with_reducible rfl | with_reducible exact ⟨rfl,rfl⟩))
                  clear hK K))
     (refine WQ.step (fun K hK => ?_)
      go_simp
      first
        | (refine hK _ ?_; clear hK K)
        | (apply Exists.intro
           refine ⟨fun wq hC => ?_, hK _ ?_⟩
           · (refine (HC.out wq).mono ?_; rintro e w' ⟨rfl,hb,hd⟩; exact ⟨rfl,hC.trans ⟨hb,hd⟩⟩)
           clear hK K))
     repeat (refine WQ.step (fun K hK => ?_)
             go_simp
             first
               | (refine hK _ ?_; clear hK K)
               | (apply Exists.intro
                  refine ⟨fun wq hC => ?_, hK _ ?_⟩
                  · (first | with_reducible rfl | (go_simp; first | done | with_reducible rfl | with_reducible exact ⟨rfl,rfl⟩))
                  clear hK K))
     refine WQ.nil ?_
     intro w4 hb4
     have hbf:=hgr.trans hb4
     go_wp2_with fail
     go_roundw
     case rel=>exact ⟨i+1,by go_num,hlt,hlu,hn,hbf⟩
     case measure=>simp [intOf]; omega
    ·have hn:Hid (z=E):=by
      have:=ht2.out
      rwa [if_neg hz0] at this
     have hz1:(z != 0)=true:=by simpa using hz0
     clear ht2
     go_wp2_with fail
     refine wp_region_gw hmx (by kernel_rfl) ?_
     repeat (refine WQ.step (fun K hK => ?_)
             go_simp
             first
               | (refine hK _ ?_; clear hK K)
               | (apply Exists.intro
                  refine ⟨fun wq hC => ?_, hK _ ?_⟩
                  · (first | with_reducible rfl | (obtain ⟨⟨e0,e1,e2,e3,e4,e5,e6⟩,f0,f1,f2,f3,f4,f5,f6⟩:=hf.out wq hC; go_simp; first | done | with_reducible rfl | with_reducible exact ⟨rfl,rfl⟩))
                  clear hK K))
     (refine WQ.step (fun K hK => ?_)
      go_simp
      first
        | (refine hK _ ?_; clear hK K)
        | (apply Exists.intro
           refine ⟨fun wq hC => ?_, hK _ ?_⟩
           · (refine (HC.out wq).mono ?_; rintro e w' ⟨rfl,hb,hd⟩; exact ⟨rfl,hC.trans ⟨hb,hd⟩⟩)
           clear hK K))
     repeat (refine WQ.step (fun K hK => ?_)
             go_simp
             first
               | (refine hK _ ?_; clear hK K)
               | (apply Exists.intro
                  refine ⟨fun wq hC => ?_, hK _ ?_⟩
                  · (first | with_reducible rfl | (go_simp; first | done | with_reducible rfl | with_reducible exact ⟨rfl,rfl⟩))
                  clear hK K))
     refine WQ.nil ?_
     intro w4 hb4
     have hbf:=hgr.trans hb4
     go_wp2_with fail
     go_ret
     exact ⟨ret_int hn.out,hbf⟩
   ·have d2:decide ((i:Int) < (ys.length:Int))=false:=decide_eq_false (by omega)
    have hn:Hid ((1:Int)=E):=by
     have:=ht.out
     obtain ⟨hx8,_⟩:=hxc.out i hlt
     obtain ⟨x,hx⟩:=exE (xs.getD i [])
     rw [hx] at hx8
     obtain ⟨x0,x1,x2,x3,x4,x5,x6,rfl⟩:=seven hx8
     rw [drop_flat hlt hx,drop_end (xs:=ys) (by omega)] at this
     exact this
    have n3 : ¬ xs.length < ys.length:=by omega
    have n4:ys.length < xs.length:=by omega
    clear ht
    go_wp2_with fail
    go_ret
    exact ⟨ret_int hn.out,hgr⟩
  ·have d1:decide ((i:Int) < (xs.length:Int))=false:=decide_eq_false (by omega)
   by_cases hlu:xs.length < ys.length
   ·have hn:Hid ((-1:Int)=E):=by
     have:=ht.out
     obtain ⟨hy8,_⟩:=hyc.out i (by omega)
     obtain ⟨y,hy⟩:=exE (ys.getD i [])
     rw [hy] at hy8
     obtain ⟨y0,y1,y2,y3,y4,y5,y6,rfl⟩:=seven hy8
     rw [drop_flat (xs:=ys) (by omega) hy,drop_end (xs:=xs) (by omega)] at this
     exact this
    clear ht
    go_wp2_with fail
    go_ret
    exact ⟨ret_int hn.out,hgr⟩
   ·have hn:Hid ((0:Int)=E):=by
     have:=ht.out
     rw [drop_end (xs:=ys) (by omega),drop_end (xs:=xs) (by omega)] at this
     exact this
    have n4 : ¬ ys.length < xs.length:=by omega
    clear ht
    go_wp2_with fail
    go_ret
    exact ⟨ret_int hn.out,hgr⟩
end Go.Proofs.YtmikofeildnpdaaGreat
