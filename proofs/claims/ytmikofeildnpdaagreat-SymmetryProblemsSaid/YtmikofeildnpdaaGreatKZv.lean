/- Texts of this claim, put together: JA JB. -/
import Derived.Test.YtmikofeildnpdaaGreatKZp
import Derived.Test.YtmikofeildnpdaaGreatKZq
import Derived.Deep.DeepAppendRoom

set_option maxRecDepth 100000
set_option maxHeartbeats 12800000
namespace Go.Proofs.YtmikofeildnpdaaGreat
def W7 (w:List (List Int)):Prop:=∀r∈w,r.length=7
theorem cmpL_app:∀ {a b:List Int},a.length=b.length→∀xs ys:List Int,cmpL (a++xs) (b++ys)=if cmpL a b=0 then cmpL xs ys else cmpL a b
 | [],[],_,_,_=>by simp[cmpL]
 | [],_::_,h,_,_=>by cases h
 | _::_,[],h,_,_=>by cases h
 | a::x,b::y,h,xs,ys=>by
  rw[List.cons_append,List.cons_append];by_cases e:cmpI a b=0
  ·rw[cmpL_hd e,cmpL_hd e,cmpL_app (by simpa using h)]
  ·rw[cmpL_ne e,cmpL_ne e,if_neg e]
section
variable {ss:List (List (List Int))}
end
end Go.Proofs.YtmikofeildnpdaaGreat
namespace Go.Proofs.YtmikofeildnpdaaGreat
open Go.RowKit
theorem jb1 {w:World}{o1 o2:Obj}:Below w.heap.size w ((w.alloc o1).alloc o2):=((Below.refl w.heap.size w).alloc (Nat.le_refl _) _).alloc (by simp) _
theorem jb2 {a b c:Nat}:a≤a+b+c:=Nat.le_trans (Nat.le_add_right _ _) (Nat.le_add_right _ _)
theorem jb3 {a b c d:Nat}:a≤a+b+c+d:=Nat.le_trans jb2 (Nat.le_add_right _ _)
theorem refGraphCompareG (n h0 h1 h2 h3 h4 m g0 g1 g2 g3 g4:Int) (w:World):Calls Tryz.prog 138 #[.agg #[.int .i64 n,.int .i64 h0,.int .i64 h1,.int .i64 h2,.int .i64 h3,.int .i64 h4],.agg #[.int .i64 m,.int .i64 g0,.int .i64 g1,.int .i64 g2,.int .i64 g3,.int .i64 g4]] w fun e w'=>e = .returned (.int .i64 (cmpL [n,h0,h1,h2,h3,h4] [m,g0,g1,g2,g3,g4]))∧Below w.heap.size w w'∧w.drawn≤w'.drawn:=by
 obtain⟨E,hE⟩:=exE (cmpL [n,h0,h1,h2,h3,h4] [m,g0,g1,g2,g3,g4]);rw[hE];by_cases l1:n < m
 ·have hE0:=qH (show E = -1 by rw[←hE,cmpL_ne (by rw[cmpI_lt l1];decide),cmpI_lt l1]);have l1':decide (n < m)=true:=decide_eq_true l1;clear hE;go_enter Tryz.func138, Tryz.ntmps138
  go_wp2;go_ret;exact⟨ret_int hE0.out.symm,(((Below.refl w.heap.size w).alloc (Nat.le_refl _) _).alloc (by simp) _),(by first|exact Nat.le_refl _|exact hd1|exact Nat.le_add_right _ _|exact Nat.le_trans (Nat.le_add_right _ _) (Nat.le_add_right _ _)|exact Nat.le_trans (Nat.le_trans (Nat.le_add_right _ _) (Nat.le_add_right _ _)) (Nat.le_add_right _ _))⟩
 ·have l1':decide (n < m)=false:=decide_eq_false l1;by_cases l2:m < n
  ·have hE0:=qH (show E=1 by rw[←hE,cmpL_ne (by rw[cmpI_gt l2];decide),cmpI_gt l2]);have l2':decide (m < n)=true:=decide_eq_true l2;clear hE;go_enter Tryz.func138, Tryz.ntmps138
   go_wp2;go_ret;exact⟨ret_int hE0.out.symm,(((Below.refl w.heap.size w).alloc (Nat.le_refl _) _).alloc (by simp) _),(by first|exact Nat.le_refl _|exact hd1|exact Nat.le_add_right _ _|exact Nat.le_trans (Nat.le_add_right _ _) (Nat.le_add_right _ _)|exact Nat.le_trans (Nat.le_trans (Nat.le_add_right _ _) (Nat.le_add_right _ _)) (Nat.le_add_right _ _))⟩
  ·have l2':decide (m < n)=false:=decide_eq_false l2;have hE0:=qH (show cmpL [h0,h1,h2,h3,h4] [g0,g1,g2,g3,g4]=E by rw[←hE];exact(cmpL_hd (cmpI_zero.2 (show n=m by omega))).symm);clear hE l1 l2;go_enter Tryz.func138, Tryz.ntmps138
   go_wp2;go_loopw [5] (fun iv wr=>∃(k:Int) (dn:Nat),wr=((w.alloc (.cells #[.int .i64 n,.int .i64 h0,.int .i64 h1,.int .i64 h2,.int .i64 h3,.int .i64 h4] 85)).alloc (.cells #[.int .i64 m,.int .i64 g0,.int .i64 g1,.int .i64 g2,.int .i64 g3,.int .i64 g4] 85)).drewN dn∧iv = .int .i64 k∧((k=0∧Hid (cmpL [h0,h1,h2,h3,h4] [g0,g1,g2,g3,g4]=E))∨(k=1∧Hid (cmpL [h1,h2,h3,h4] [g1,g2,g3,g4]=E))∨(k=2∧Hid (cmpL [h2,h3,h4] [g2,g3,g4]=E))∨(k=3∧Hid (cmpL [h3,h4] [g3,g4]=E))∨(k=4∧Hid (cmpL [h4] [g4]=E))∨(k=5∧Hid (cmpL [] []=E)))) (fun iv _=>5 - (intOf iv).toNat)
   case atStart=>exact⟨0,0,(by first|rfl|simp),rfl,.inl ⟨rfl,hE0⟩⟩
   case round=>
    clear hE0;obtain⟨k,dn,rfl,rfl,hk⟩:=hrel;rcases hk with⟨rfl,hg⟩|⟨rfl,hg⟩|⟨rfl,hg⟩|⟨rfl,hg⟩|⟨rfl,hg⟩|⟨rfl,hg⟩
    ·by_cases l1:h0 < g0
     ·have l1':decide (h0 < g0)=true:=decide_eq_true l1;have hz:=qH (cmpI_lt l1);clear l1;go_wp2;go_quiet (fail)
      go_wp2;go_ret;exact⟨ret_int (by rw[←hg.out,cmpL_ne (by rw[hz.out];decide),hz.out]),(by first|exact below_drewN jb1 _|exact below_drewN (below_drewN jb1 _) _|exact below_drewN (below_drewN (below_drewN jb1 _) _) _),(by first|exact Nat.le_refl _|exact hd1|exact Nat.le_add_right _ _|exact jb2|exact jb3)⟩
     ·have l1':decide (h0 < g0)=false:=decide_eq_false l1;by_cases l2:g0 < h0
      ·have l2':decide (g0 < h0)=true:=decide_eq_true l2;have hz:=qH (cmpI_gt l2);clear l1 l2;go_wp2;go_quiet (fail)
       go_wp2;go_quiet (fail)
       go_wp2;go_ret;exact⟨ret_int (by rw[←hg.out,cmpL_ne (by rw[hz.out];decide),hz.out]),(by first|exact below_drewN jb1 _|exact below_drewN (below_drewN jb1 _) _|exact below_drewN (below_drewN (below_drewN jb1 _) _) _),(by first|exact Nat.le_refl _|exact hd1|exact Nat.le_add_right _ _|exact jb2|exact jb3)⟩
      ·have l2':decide (g0 < h0)=false:=decide_eq_false l2;have hz:=qH (cmpI_zero.2 (show h0=g0 by omega));clear l1 l2;go_wp2;go_quiet (fail)
       go_wp2;go_quiet (fail)
       go_wp2;go_roundw
       case rel=>exact⟨1,_,(by first|exact rfl|exact World.drewN_drewN _ _ _),rfl,.inr (.inl ⟨rfl,by show _=_;rw[←hg.out,cmpL_hd hz.out]⟩)⟩
       case measure=>simp[intOf]
    ·by_cases l1:h1 < g1
     ·have l1':decide (h1 < g1)=true:=decide_eq_true l1;have hz:=qH (cmpI_lt l1);clear l1;go_wp2;go_quiet (fail)
      go_wp2;go_ret;exact⟨ret_int (by rw[←hg.out,cmpL_ne (by rw[hz.out];decide),hz.out]),(by first|exact below_drewN jb1 _|exact below_drewN (below_drewN jb1 _) _|exact below_drewN (below_drewN (below_drewN jb1 _) _) _),(by first|exact Nat.le_refl _|exact hd1|exact Nat.le_add_right _ _|exact jb2|exact jb3)⟩
     ·have l1':decide (h1 < g1)=false:=decide_eq_false l1;by_cases l2:g1 < h1
      ·have l2':decide (g1 < h1)=true:=decide_eq_true l2;have hz:=qH (cmpI_gt l2);clear l1 l2;go_wp2;go_quiet (fail)
       go_wp2;go_quiet (fail)
       go_wp2;go_ret;exact⟨ret_int (by rw[←hg.out,cmpL_ne (by rw[hz.out];decide),hz.out]),(by first|exact below_drewN jb1 _|exact below_drewN (below_drewN jb1 _) _|exact below_drewN (below_drewN (below_drewN jb1 _) _) _),(by first|exact Nat.le_refl _|exact hd1|exact Nat.le_add_right _ _|exact jb2|exact jb3)⟩
      ·have l2':decide (g1 < h1)=false:=decide_eq_false l2;have hz:=qH (cmpI_zero.2 (show h1=g1 by omega));clear l1 l2;go_wp2;go_quiet (fail)
       go_wp2;go_quiet (fail)
       go_wp2;go_roundw
       case rel=>exact⟨2,_,(by first|exact rfl|exact World.drewN_drewN _ _ _),rfl,.inr (.inr (.inl ⟨rfl,by show _=_;rw[←hg.out,cmpL_hd hz.out]⟩))⟩
       case measure=>simp[intOf]
    ·by_cases l1:h2 < g2
     ·have l1':decide (h2 < g2)=true:=decide_eq_true l1;have hz:=qH (cmpI_lt l1);clear l1;go_wp2;go_quiet (fail)
      go_wp2;go_ret;exact⟨ret_int (by rw[←hg.out,cmpL_ne (by rw[hz.out];decide),hz.out]),(by first|exact below_drewN jb1 _|exact below_drewN (below_drewN jb1 _) _|exact below_drewN (below_drewN (below_drewN jb1 _) _) _),(by first|exact Nat.le_refl _|exact hd1|exact Nat.le_add_right _ _|exact jb2|exact jb3)⟩
     ·have l1':decide (h2 < g2)=false:=decide_eq_false l1;by_cases l2:g2 < h2
      ·have l2':decide (g2 < h2)=true:=decide_eq_true l2;have hz:=qH (cmpI_gt l2);clear l1 l2;go_wp2;go_quiet (fail)
       go_wp2;go_quiet (fail)
       go_wp2;go_ret;exact⟨ret_int (by rw[←hg.out,cmpL_ne (by rw[hz.out];decide),hz.out]),(by first|exact below_drewN jb1 _|exact below_drewN (below_drewN jb1 _) _|exact below_drewN (below_drewN (below_drewN jb1 _) _) _),(by first|exact Nat.le_refl _|exact hd1|exact Nat.le_add_right _ _|exact jb2|exact jb3)⟩
      ·have l2':decide (g2 < h2)=false:=decide_eq_false l2;have hz:=qH (cmpI_zero.2 (show h2=g2 by omega));clear l1 l2;go_wp2;go_quiet (fail)
       go_wp2;go_quiet (fail)
       go_wp2;go_roundw
       case rel=>exact⟨3,_,(by first|exact rfl|exact World.drewN_drewN _ _ _),rfl,.inr (.inr (.inr (.inl ⟨rfl,by show _=_;rw[←hg.out,cmpL_hd hz.out]⟩)))⟩
       case measure=>simp[intOf]
    ·by_cases l1:h3 < g3
     ·have l1':decide (h3 < g3)=true:=decide_eq_true l1;have hz:=qH (cmpI_lt l1);clear l1;go_wp2;go_quiet (fail)
      go_wp2;go_ret;exact⟨ret_int (by rw[←hg.out,cmpL_ne (by rw[hz.out];decide),hz.out]),(by first|exact below_drewN jb1 _|exact below_drewN (below_drewN jb1 _) _|exact below_drewN (below_drewN (below_drewN jb1 _) _) _),(by first|exact Nat.le_refl _|exact hd1|exact Nat.le_add_right _ _|exact jb2|exact jb3)⟩
     ·have l1':decide (h3 < g3)=false:=decide_eq_false l1;by_cases l2:g3 < h3
      ·have l2':decide (g3 < h3)=true:=decide_eq_true l2;have hz:=qH (cmpI_gt l2);clear l1 l2;go_wp2;go_quiet (fail)
       go_wp2;go_quiet (fail)
       go_wp2;go_ret;exact⟨ret_int (by rw[←hg.out,cmpL_ne (by rw[hz.out];decide),hz.out]),(by first|exact below_drewN jb1 _|exact below_drewN (below_drewN jb1 _) _|exact below_drewN (below_drewN (below_drewN jb1 _) _) _),(by first|exact Nat.le_refl _|exact hd1|exact Nat.le_add_right _ _|exact jb2|exact jb3)⟩
      ·have l2':decide (g3 < h3)=false:=decide_eq_false l2;have hz:=qH (cmpI_zero.2 (show h3=g3 by omega));clear l1 l2;go_wp2;go_quiet (fail)
       go_wp2;go_quiet (fail)
       go_wp2;go_roundw
       case rel=>exact⟨4,_,(by first|exact rfl|exact World.drewN_drewN _ _ _),rfl,.inr (.inr (.inr (.inr (.inl ⟨rfl,by show _=_;rw[←hg.out,cmpL_hd hz.out]⟩))))⟩
       case measure=>simp[intOf]
    ·by_cases l1:h4 < g4
     ·have l1':decide (h4 < g4)=true:=decide_eq_true l1;have hz:=qH (cmpI_lt l1);clear l1;go_wp2;go_quiet (fail)
      go_wp2;go_ret;exact⟨ret_int (by rw[←hg.out,cmpL_ne (by rw[hz.out];decide),hz.out]),(by first|exact below_drewN jb1 _|exact below_drewN (below_drewN jb1 _) _|exact below_drewN (below_drewN (below_drewN jb1 _) _) _),(by first|exact Nat.le_refl _|exact hd1|exact Nat.le_add_right _ _|exact jb2|exact jb3)⟩
     ·have l1':decide (h4 < g4)=false:=decide_eq_false l1;by_cases l2:g4 < h4
      ·have l2':decide (g4 < h4)=true:=decide_eq_true l2;have hz:=qH (cmpI_gt l2);clear l1 l2;go_wp2;go_quiet (fail)
       go_wp2;go_quiet (fail)
       go_wp2;go_ret;exact⟨ret_int (by rw[←hg.out,cmpL_ne (by rw[hz.out];decide),hz.out]),(by first|exact below_drewN jb1 _|exact below_drewN (below_drewN jb1 _) _|exact below_drewN (below_drewN (below_drewN jb1 _) _) _),(by first|exact Nat.le_refl _|exact hd1|exact Nat.le_add_right _ _|exact jb2|exact jb3)⟩
      ·have l2':decide (g4 < h4)=false:=decide_eq_false l2;have hz:=qH (cmpI_zero.2 (show h4=g4 by omega));clear l1 l2;go_wp2;go_quiet (fail)
       go_wp2;go_quiet (fail)
       go_wp2;go_roundw
       case rel=>exact⟨5,_,(by first|exact rfl|exact World.drewN_drewN _ _ _),rfl,.inr (.inr (.inr (.inr (.inr (⟨rfl,by show _=_;rw[←hg.out,cmpL_hd hz.out]⟩)))))⟩
       case measure=>simp[intOf]
    ·go_wp2;go_ret;exact⟨ret_int hg.out,(by first|exact below_drewN jb1 _|exact below_drewN (below_drewN jb1 _) _|exact below_drewN (below_drewN (below_drewN jb1 _) _) _),(by first|exact Nat.le_refl _|exact hd1|exact Nat.le_add_right _ _|exact jb2|exact jb3)⟩
theorem refRoundCompareG (n h0 h1 h2 h3 h4 f m g0 g1 g2 g3 g4 g:Int) (w:World):Calls Tryz.prog 103 #[.agg #[.int .i64 n,.int .i64 h0,.int .i64 h1,.int .i64 h2,.int .i64 h3,.int .i64 h4,.int .i64 f],.agg #[.int .i64 m,.int .i64 g0,.int .i64 g1,.int .i64 g2,.int .i64 g3,.int .i64 g4,.int .i64 g]] w fun e w'=>e = .returned (.int .i64 (cmpL [n,h0,h1,h2,h3,h4,f] [m,g0,g1,g2,g3,g4,g]))∧Below w.heap.size w w'∧w.drawn≤w'.drawn:=by
 have hb:Below w.heap.size w ((w.alloc (.cells #[.int .i64 n,.int .i64 h0,.int .i64 h1,.int .i64 h2,.int .i64 h3,.int .i64 h4,.int .i64 f] 87)).alloc (.cells #[.int .i64 m,.int .i64 g0,.int .i64 g1,.int .i64 g2,.int .i64 g3,.int .i64 g4,.int .i64 g] 87)):=((Below.refl _ _).alloc (Nat.le_refl _) _).alloc (by simp) _;have HG:=fun W=>refGraphCompareG n h0 h1 h2 h3 h4 m g0 g1 g2 g3 g4 W;have hs0:((w.alloc (.cells #[.int .i64 n,.int .i64 h0,.int .i64 h1,.int .i64 h2,.int .i64 h3,.int .i64 h4,.int .i64 f] 87)).alloc (.cells #[.int .i64 m,.int .i64 g0,.int .i64 g1,.int .i64 g2,.int .i64 g3,.int .i64 g4,.int .i64 g] 87)).heap[w.heap.size]? = some (.cells #[.int .i64 n,.int .i64 h0,.int .i64 h1,.int .i64 h2,.int .i64 h3,.int .i64 h4,.int .i64 f] 87):=(Below.heap_alloc _ _ _ (by simp)).trans (heap_alloc_new w _);have hs1:((w.alloc (.cells #[.int .i64 n,.int .i64 h0,.int .i64 h1,.int .i64 h2,.int .i64 h3,.int .i64 h4,.int .i64 f] 87)).alloc (.cells #[.int .i64 m,.int .i64 g0,.int .i64 g1,.int .i64 g2,.int .i64 g3,.int .i64 g4,.int .i64 g] 87)).heap[w.heap.size+1]? = some (.cells #[.int .i64 m,.int .i64 g0,.int .i64 g1,.int .i64 g2,.int .i64 g3,.int .i64 g4,.int .i64 g] 87):=by have:=heap_alloc_new (w.alloc (.cells #[.int .i64 n,.int .i64 h0,.int .i64 h1,.int .i64 h2,.int .i64 h3,.int .i64 h4,.int .i64 f] 87)) (.cells #[.int .i64 m,.int .i64 g0,.int .i64 g1,.int .i64 g2,.int .i64 g3,.int .i64 g4,.int .i64 g] 87);rwa [World.size_alloc] at this
 by_cases hg : [n,h0,h1,h2,h3,h4] = [m,g0,g1,g2,g3,g4]
 ·have hE:=qH (cmp7_2 (f:=f) (g:=g) hg);simp only[cmpL_zero.2 hg] at HG;replace HG:=qH HG;clear hg;replace hs0:=qH hs0;replace hs1:=qH hs1;by_cases l1:f < g
  ·have l1':decide (f < g)=true:=decide_eq_true l1;have hc:=qH (cmpI_lt l1);clear l1;go_enter Tryz.func103, Tryz.ntmps103
   go_wp2_with fail
   refine(HG.out _).mono ?_;rintro e w1 ⟨rfl,hb1,hd1⟩;have k0:=(hb1.block _ (by simp;omega)).trans hs0.out;have k1:=(hb1.block _ (by simp)).trans hs1.out;have c0:w1.cell? ⟨w.heap.size,6,none⟩=some (.int .i64 f):=(by rw[cell_of_row _ _ 6 _ _ _ k0];rfl);have c1:w1.cell? ⟨w.heap.size+1,6,none⟩=some (.int .i64 g):=(by rw[cell_of_row _ _ 6 _ _ _ k1];rfl);go_wp2;go_ret;exact⟨ret_int (by rw[hE.out,hc.out]),bt hb hb1 hb.size,(by first|exact Nat.le_refl _|exact hd1|exact Nat.le_add_right _ _|exact Nat.le_trans (Nat.le_add_right _ _) (Nat.le_add_right _ _)|exact Nat.le_trans (Nat.le_trans (Nat.le_add_right _ _) (Nat.le_add_right _ _)) (Nat.le_add_right _ _))⟩
  ·have l1':decide (f < g)=false:=decide_eq_false l1;by_cases l2:g < f
   ·have l2':decide (g < f)=true:=decide_eq_true l2;have hc:=qH (cmpI_gt l2);clear l1 l2;go_enter Tryz.func103, Tryz.ntmps103
    go_wp2_with fail
    refine(HG.out _).mono ?_;rintro e w1 ⟨rfl,hb1,hd1⟩;have k0:=(hb1.block _ (by simp;omega)).trans hs0.out;have k1:=(hb1.block _ (by simp)).trans hs1.out;have c0:w1.cell? ⟨w.heap.size,6,none⟩=some (.int .i64 f):=(by rw[cell_of_row _ _ 6 _ _ _ k0];rfl);have c1:w1.cell? ⟨w.heap.size+1,6,none⟩=some (.int .i64 g):=(by rw[cell_of_row _ _ 6 _ _ _ k1];rfl);go_wp2;go_ret;exact⟨ret_int (by rw[hE.out,hc.out]),bt hb hb1 hb.size,(by first|exact Nat.le_refl _|exact hd1|exact Nat.le_add_right _ _|exact Nat.le_trans (Nat.le_add_right _ _) (Nat.le_add_right _ _)|exact Nat.le_trans (Nat.le_trans (Nat.le_add_right _ _) (Nat.le_add_right _ _)) (Nat.le_add_right _ _))⟩
   ·have l2':decide (g < f)=false:=decide_eq_false l2;have hc:=qH (cmpI_zero.2 (show f=g by omega));clear l1 l2;go_enter Tryz.func103, Tryz.ntmps103
    go_wp2_with fail
    refine(HG.out _).mono ?_;rintro e w1 ⟨rfl,hb1,hd1⟩;have k0:=(hb1.block _ (by simp;omega)).trans hs0.out;have k1:=(hb1.block _ (by simp)).trans hs1.out;have c0:w1.cell? ⟨w.heap.size,6,none⟩=some (.int .i64 f):=(by rw[cell_of_row _ _ 6 _ _ _ k0];rfl);have c1:w1.cell? ⟨w.heap.size+1,6,none⟩=some (.int .i64 g):=(by rw[cell_of_row _ _ 6 _ _ _ k1];rfl);go_wp2;go_ret;exact⟨ret_int (by rw[hE.out,hc.out]),bt hb hb1 hb.size,(by first|exact Nat.le_refl _|exact hd1|exact Nat.le_add_right _ _|exact Nat.le_trans (Nat.le_add_right _ _) (Nat.le_add_right _ _)|exact Nat.le_trans (Nat.le_trans (Nat.le_add_right _ _) (Nat.le_add_right _ _)) (Nat.le_add_right _ _))⟩
 ·have hE:=qH (cmp7_1 (f:=f) (g:=g) hg);obtain⟨c,hc⟩:=exE (cmpL [n,h0,h1,h2,h3,h4] [m,g0,g1,g2,g3,g4]);rw[hc] at hE;have hz:c ≠ 0:=fun k=>hg (cmpL_zero.1 (by rw[hc];exact k));simp only[hc] at HG;replace HG:=qH HG;have hz':(c != 0)=true:=by simpa using hz
  clear hg hc hz hs0 hs1;go_enter Tryz.func103, Tryz.ntmps103
  go_wp2_with fail
  refine(HG.out _).mono ?_;rintro e w1 ⟨rfl,hb1,hd1⟩;go_wp2;go_ret;exact⟨ret_int hE.out.symm,bt hb hb1 hb.size,(by first|exact Nat.le_refl _|exact hd1|exact Nat.le_add_right _ _|exact Nat.le_trans (Nat.le_add_right _ _) (Nat.le_add_right _ _)|exact Nat.le_trans (Nat.le_trans (Nat.le_add_right _ _) (Nat.le_add_right _ _)) (Nat.le_add_right _ _))⟩
def GrW (w w':World):Prop:=Below w.heap.size w w'∧w.drawn≤w'.drawn
theorem GrW.refl (w:World):GrW w w:=⟨Below.refl _ _,Nat.le_refl _⟩
theorem GrW.trans {a b c:World}(h:GrW a b) (g:GrW b c):GrW a c:=⟨btt h.1 g.1,Nat.le_trans h.2 g.2⟩
theorem wp_region_gw {P:Program}{id:Nat}{Q:Exit→Act→World→Prop}{a:Act}{w:World}{l:List Oper}(hm:P.follows .mixedOrders=true) (hB:Region.lexB .any l.toArray=true)
  (h:WQ P l.toArray (GrW w) (fun a'=>∀w',GrW w w'→Q .normal a' w') l a) :
  (Code.region id l.toArray true).wp P Q a w:=
 wp_region_quiet (C:=GrW w) hm hB ⟨below_drewN (Below.refl _ w) 1,Nat.le_add_right _ _⟩ (by simpa using h.out)
theorem drop_flat {xs:List (List Int)}{i:Nat}{x:List Int}(h:i < xs.length) (hx:xs.getD i []=x):(xs.drop i).flatten=x++(xs.drop (i+1)).flatten:=by
 rw[List.drop_eq_getElem_cons h,List.flatten_cons,←hx,getD_eq h]
theorem drop_end {xs:List (List Int)}{i:Nat}(h:xs.length≤i):(xs.drop i).flatten = []:=by rw[List.drop_eq_nil_of_le h];rfl
theorem orderC {w:World}{u v:Value}{xs ys:List (List Int)}(hx:KS 7 w u xs) (hy:KS 7 w v ys) :
  Calls Tryz.prog 141 #[u,v] w fun e w'=>e = .returned (.int .i64 (cmpL xs.flatten ys.flatten))∧GrW w w':=by
 have hmx : Tryz.prog.follows .mixedOrders=true:=by kernel_rfl
 obtain⟨xa,xc,xb,xo,rfl,hxa,hxc,hxl⟩:=hx;obtain⟨ya,yc,yb,yo,rfl,hya,hyc,hyl⟩:=hy;obtain⟨E,hE⟩:=exE (cmpL xs.flatten ys.flatten);rw[hE];have h0:Hid (cmpL (xs.drop 0).flatten (ys.drop 0).flatten=E):=hE;replace hxc:=qH hxc;replace hyc:=qH hyc;clear hE;go_enter Tryz.func141, Tryz.ntmps141
 go_wp2_with fail
 go_loopw [5] (fun iv wr=>∃i:Nat,iv = .int .i64 i∧i≤xs.length∧i≤ys.length∧Hid (cmpL (xs.drop i).flatten (ys.drop i).flatten=E)∧GrW w wr) (fun iv _=>xs.length - (intOf iv).toNat)
 case atStart=>exact⟨0,rfl,by omega,by omega,h0,GrW.refl w⟩
 case round=>
  clear h0;obtain⟨i,rfl,hi,hj,ht,hgr⟩:=hrel;by_cases hlt:i < xs.length
  ·have d1:decide ((i:Int) < (xs.length:Int))=true:=decide_eq_true (by omega);by_cases hlu:i < ys.length
   ·have d2:decide ((i:Int) < (ys.length:Int))=true:=decide_eq_true (by omega);obtain rfl:=hxa (by omega);obtain rfl:=hya (by omega);obtain⟨hx8,hxi⟩:=hxc.out i hlt;obtain⟨hy8,hyi⟩:=hyc.out i hlu;obtain⟨x,hx⟩:=exE (xs.getD i []);obtain⟨y,hy⟩:=exE (ys.getD i []);rw[hx] at hx8 hxi;rw[hy] at hy8 hyi;have ht2:=ht.out;rw[drop_flat hlt hx,drop_flat hlu hy,cmpL_app (by rw[hx8,hy8])] at ht2;replace ht2:=qH ht2;obtain⟨x0,x1,x2,x3,x4,x5,x6,rfl⟩:=seven hx8;obtain⟨y0,y1,y2,y3,y4,y5,y6,rfl⟩:=seven hy8;have HC:=qH (fun W=>refRoundCompareG x0 x1 x2 x3 x4 x5 x6 y0 y1 y2 y3 y4 y5 y6 W);obtain⟨z,hz⟩:=exE (cmpL [x0,x1,x2,x3,x4,x5,x6] [y0,y1,y2,y3,y4,y5,y6]);rw[hz] at HC ht2;have hf:=qH (fun wq (hC:GrW wr wq)=>And.intro (hxi.keep (btt hgr.1 hC.1)).all7 (hyi.keep (btt hgr.1 hC.1)).all7);clear hxi hyi hx8 hy8 hx hy hz ht;by_cases hz0:z=0
    ·have hn:Hid (cmpL (xs.drop (i+1)).flatten (ys.drop (i+1)).flatten=E):=by
      have:=ht2.out
      rwa [if_pos hz0] at this
     subst hz0;clear ht2;go_wp2_with fail
     refine wp_region_gw hmx (by kernel_rfl) ?_
     repeat (refine WQ.step fun K hK=>?_;go_simp;first|(refine hK _ ?_;clear hK K)|(apply Exists.intro;refine⟨fun wq hC=>?_,hK _ ?_⟩;(·(first|with_reducible rfl|(obtain⟨⟨e0,e1,e2,e3,e4,e5,e6⟩,f0,f1,f2,f3,f4,f5,f6⟩:=hf.out wq hC;go_simp;first|done|with_reducible rfl|with_reducible exact⟨rfl,rfl⟩)));clear hK K))
     (refine WQ.step fun K hK=>?_;go_simp;first|(refine hK _ ?_;clear hK K)|(apply Exists.intro;refine⟨fun wq hC=>?_,hK _ ?_⟩;(·(refine(HC.out wq).mono ?_;rintro e w' ⟨rfl,hb,hd⟩;exact⟨rfl,hC.trans ⟨hb,hd⟩⟩));clear hK K))
     repeat (refine WQ.step fun K hK=>?_;go_simp;first|(refine hK _ ?_;clear hK K)|(apply Exists.intro;refine⟨fun wq hC=>?_,hK _ ?_⟩;(·(first|with_reducible rfl|(go_simp;first|done|with_reducible rfl|with_reducible exact⟨rfl,rfl⟩)));clear hK K))
     refine WQ.nil ?_;intro w4 hb4;have hbf:=hgr.trans hb4;go_wp2_with fail
     go_roundw
     case rel=>exact⟨i+1,by go_num,hlt,hlu,hn,hbf⟩
     case measure=>simp[intOf];omega
    ·have hn:Hid (z=E):=by
      have:=ht2.out
      rwa [if_neg hz0] at this
     have hz1:(z != 0)=true:=(by simpa using hz0);clear ht2;go_wp2_with fail
     refine wp_region_gw hmx (by kernel_rfl) ?_
     repeat (refine WQ.step fun K hK=>?_;go_simp;first|(refine hK _ ?_;clear hK K)|(apply Exists.intro;refine⟨fun wq hC=>?_,hK _ ?_⟩;(·(first|with_reducible rfl|(obtain⟨⟨e0,e1,e2,e3,e4,e5,e6⟩,f0,f1,f2,f3,f4,f5,f6⟩:=hf.out wq hC;go_simp;first|done|with_reducible rfl|with_reducible exact⟨rfl,rfl⟩)));clear hK K))
     (refine WQ.step fun K hK=>?_;go_simp;first|(refine hK _ ?_;clear hK K)|(apply Exists.intro;refine⟨fun wq hC=>?_,hK _ ?_⟩;(·(refine(HC.out wq).mono ?_;rintro e w' ⟨rfl,hb,hd⟩;exact⟨rfl,hC.trans ⟨hb,hd⟩⟩));clear hK K))
     repeat (refine WQ.step fun K hK=>?_;go_simp;first|(refine hK _ ?_;clear hK K)|(apply Exists.intro;refine⟨fun wq hC=>?_,hK _ ?_⟩;(·(first|with_reducible rfl|(go_simp;first|done|with_reducible rfl|with_reducible exact⟨rfl,rfl⟩)));clear hK K))
     refine WQ.nil ?_;intro w4 hb4;have hbf:=hgr.trans hb4;go_wp2_with fail
     go_ret;exact⟨ret_int hn.out,hbf⟩
   ·have d2:decide ((i:Int) < (ys.length:Int))=false:=decide_eq_false (by omega)
    have hn:Hid ((1:Int)=E):=by
     have:=ht.out
     obtain⟨hx8,_⟩:=hxc.out i hlt;obtain⟨x,hx⟩:=exE (xs.getD i []);rw[hx] at hx8;obtain⟨x0,x1,x2,x3,x4,x5,x6,rfl⟩:=seven hx8;rw[drop_flat hlt hx,drop_end (xs:=ys) (by omega)] at this;exact this
    have n3 : ¬xs.length < ys.length:=(by omega);have n4:ys.length < xs.length:=(by omega);clear ht;go_wp2_with fail
    go_ret;exact⟨ret_int hn.out,hgr⟩
  ·have d1:decide ((i:Int) < (xs.length:Int))=false:=decide_eq_false (by omega);by_cases hlu:xs.length < ys.length
   ·have hn:Hid ((-1:Int)=E):=by
     have:=ht.out
     obtain⟨hy8,_⟩:=hyc.out i (by omega);obtain⟨y,hy⟩:=exE (ys.getD i []);rw[hy] at hy8;obtain⟨y0,y1,y2,y3,y4,y5,y6,rfl⟩:=seven hy8;rw[drop_flat (xs:=ys) (by omega) hy,drop_end (xs:=xs) (by omega)] at this;exact this
    clear ht;go_wp2_with fail
    go_ret;exact⟨ret_int hn.out,hgr⟩
   ·have hn:Hid ((0:Int)=E):=by
     have:=ht.out
     rw[drop_end (xs:=ys) (by omega),drop_end (xs:=xs) (by omega)] at this;exact this
    have n4 : ¬ys.length < xs.length:=(by omega);clear ht;go_wp2_with fail
    go_ret;exact⟨ret_int hn.out,hgr⟩
end Go.Proofs.YtmikofeildnpdaaGreat
