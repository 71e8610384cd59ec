/- Texts of this claim, put together: Wf Wh Wg Wk Wl Pa. -/
import Derived.Test.YtmikofeildnpdaaGreatKYk
import Derived.StillTailTactics
import Derived.Test.YtmikofeildnpdaaGreatKYj

set_option maxRecDepth 100000
set_option maxHeartbeats 12800000
/- The walks of Back, Inverse, Moved, Vector and their callers. -/
namespace Go.Proofs.YtmikofeildnpdaaGreat
open Go.RowKit
theorem chkGo_good {n:Nat}:∀ {r seen:List Int},chkGo n seen r=0→(∀ x∈r,0≤x∧x < (n:Int))∧(∀ x∈r,x ∉ seen)∧r.Nodup
 | [],_,_=>by simp
 | x::r,seen,h=>by
  unfold chkGo at h
  by_cases h1:x < 0∨(n:Int)≤x
  ·rw [if_pos h1] at h; cases h
  ·rw [if_neg h1] at h
   by_cases h2:x∈seen
   ·rw [if_pos h2] at h; cases h
   ·rw [if_neg h2] at h
    obtain ⟨a,b,c⟩:=chkGo_good h
    refine ⟨?_,?_,?_⟩
    ·intro y hy
     rcases List.mem_cons.1 hy with rfl | hy
     ·omega
     ·exact a y hy
    ·intro y hy
     rcases List.mem_cons.1 hy with rfl | hy
     ·exact h2
     ·exact fun h=>b y hy (List.mem_append_left _ h)
    ·rw [List.nodup_cons]
     exact ⟨fun hm=>b x hm (by simp),c⟩
theorem chk_good {xs:List Int} (h:chk xs=0):1≤xs.length∧xs.length≤5∧Good xs.length xs∧xs.Nodup:=by
 unfold chk at h
 by_cases h1:xs.length < 1∨5 < xs.length
 ·rw [if_pos h1] at h; cases h
 ·rw [if_neg h1] at h
  obtain ⟨a,_,c⟩:=chkGo_good h
  refine ⟨by omega,by omega,fun j hj=>?_,c⟩
  rw [getD_eq hj]
  exact a _ (List.getElem_mem hj)
def movedL (a v:List Int):List Int:=scat a v (List.replicate a.length 0) a.length
def backL (a:List Int):List Int:=movedL a (oneL a.length)
def invL (a:List Int):List Int:=if chk a=0 then backL a else []
def vecE02 (a v:List Int):Int:=if chk a ≠ 0 then chk a else if v.length ≠ a.length then 15 else 0
def vecL (a v:List Int):List Int:=if vecE02 a v=0 then movedL a v else []
def RI (w:World) (l:List Int) (E:Int) (e:Ending) (w':World):Prop:=
 ∃ r,e = .returned (.tuple #[r,.int .i64 E])∧OI w' 0 r l.length l∧Below w.heap.size w w'
theorem RI.none {w w':World} {l:List Int} {E E':Int} (hl:l = []) (hE:E'=E) (hb:Below w.heap.size w w') :
  RI w l E (.returned (.tuple #[.slice none 0 0,.int .i64 E'])) w':=by
 subst hl; subst hE; exact ⟨_,rfl,OI.nil _ _,hb⟩
theorem RI.some {w w':World} {l l':List Int} {E:Int} {r:Value} {n B:Nat} (hl:l=l') (hE:E=0) (ho:OI w' B r n l') (_hB:w.heap.size≤B) (hb:Below w.heap.size w w') :
  RI w l E (.returned (.tuple #[r,.int .i64 0])) w':=by
 subst hl; subst hE; obtain rfl:=ho.length; exact ⟨_,rfl,ho.base (Nat.zero_le _),hb⟩
theorem inverse {w:World} {u:Value} {a:List Int} (h:Ints w u a):Calls Tryz.prog 33 #[u] w (RI w (invL a) (chk a)):=by
 have H:=Lib.hid (check h)
 by_cases hz:chk a=0
 ·obtain ⟨h1,h5,hG,_⟩:=chk_good hz
  have hL:=Lib.hid (show invL a=backL a by rw [invL,if_pos hz])
  rw [hz] at H
  replace hz:=Lib.hid hz
  obtain ⟨aa,ac,ab,ao,rfl,ha,hca,hla⟩:=h
  obtain rfl:=ha (by omega)
  clear ha
  go_enter Tryz.func33,Tryz.ntmps33
  go_wp2_with (first | (go_at_call 65; refine H.out.mono ?_; rintro e w1 ⟨rfl,hb1⟩) | (at_make; refine wpMakeI rfl _ _ rfl a.length rfl rfl (by omega) (Nat.le_refl _) ?_; intro w2 ho _ hb))
  have hb0:=btt hb1 hb
  have hg1:=hb1.size
  clear hb1 hb
  obtain ⟨g,hg⟩:=exF (w1.heap.size)
  rw [← hg] at ho ⊢
  have hgl:w.heap.size≤g:=by omega
  clear hg hg1
  go_loopw [18] (fun i wr=>∃ k:Nat,k≤a.length∧i = .int .i64 k∧OI wr g (.slice (some ⟨g,0,none⟩) a.length a.length) a.length (scat a (oneL a.length) (List.replicate a.length 0) k)∧Below w.heap.size w wr) (fun i _=>a.length - (intOf i).toNat)
  case atStart=>exact ⟨0,by omega,rfl,ho,hb0⟩
  case round=>
   clear ho hb0
   obtain ⟨k,hk,rfl,ho,hb⟩:=hrel
   by_cases hlt:k < a.length
   ·obtain ⟨g1,g2⟩:=hG k hlt
    have hck:=hca.keep hb k hlt
    have e1:=Lib.hid (scat_succ a (oneL a.length) (List.replicate a.length 0) k)
    have e2:=Lib.hid (oneL_getD hlt)
    obtain ⟨q,hq⟩:=exE (a.getD k 0)
    rw [hq] at hck g1 g2 e1
    clear hq hca hG
    have hcq:=ho.cell (j:=q.toNat) (by omega)
    have hfq:=ho.free q.toNat
    have hst:=ho.store q.toNat k
    go_wp2
    go_roundw
    case rel=>exact ⟨k+1,by omega,by go_num,by rw [e1.out,e2.out]; exact hst.1,hb.setCell (by simpa using hgl) _⟩
    case measure=>simp [intOf]; omega
   ·obtain rfl:k=a.length:=by omega
    clear hca hG
    go_wp2
    go_ret2
    exact RI.some hL.out hz.out ho hgl hb
 ·have hL:=Lib.hid (show invL a = [] by rw [invL,if_neg hz])
  obtain ⟨E,hE⟩:=exE (chk a)
  rw [hE] at H hz
  have hz':(E != 0)=true:=by simpa using hz
  replace hE:=Lib.hid hE
  clear hz h
  go_enter Tryz.func33,Tryz.ntmps33
  go_wp2_with (go_at_call 65; refine H.out.mono ?_; rintro e w1 ⟨rfl,hb1⟩)
  go_ret2
  exact RI.none hL.out hE.out.symm hb1
end Go.Proofs.YtmikofeildnpdaaGreat

/- The walks of Image, Set and the reference's Set. -/
namespace Go.Proofs.YtmikofeildnpdaaGreat
open Go.RowKit
def imgRs (s o:Int) (k:Nat) (q:Int):Int:=if (bits BinOp.and IntKind.i64 (s / 2 ^ k) 1 == 1)=true then bits BinOp.or IntKind.i64 o (wrap64 (2 ^ q.toNat)) else o
def imgPs (s o:Int) (k:Nat) (q:Int):Int:=bits BinOp.or IntKind.i64 o (wrap64 (bits BinOp.and IntKind.i64 (s / 2 ^ k) 1 * 2 ^ q.toNat))
def imgR (a:List Int) (s:Int) (k:Nat):Int:=(List.range k).foldl (fun o j=>imgRs s o j (a.getD j 0)) 0
def imgP (a:List Int) (s:Int) (k:Nat):Int:=(List.range k).foldl (fun o j=>imgPs s o j (a.getD j 0)) 0
theorem imgR_succ (a:List Int) (s:Int) (k:Nat):imgR a s (k+1)=imgRs s (imgR a s k) k (a.getD k 0):=by simp [imgR,List.range_succ]
theorem imgP_succ (a:List Int) (s:Int) (k:Nat):imgP a s (k+1)=imgPs s (imgP a s k) k (a.getD k 0):=by simp [imgP,List.range_succ]
theorem refImage {w:World} {u:Value} {a:List Int} (h:Ints w u a) (hG:Good a.length a) (h5:a.length≤5) (s:Int) (_h0:0≤s) :
  Calls Tryz.prog 137 #[u,.int .i64 s] w fun e w'=>e = .returned (.int .i64 (imgR a s a.length))∧Qt w w':=by
 obtain ⟨aa,ac,ab,ao,rfl,ha,hc,hl⟩:=h
 go_enter Tryz.func137,Tryz.ntmps137
 go_wp2
 go_loopw [5,6] (fun o i wr=>∃ (k:Nat) (x:Int),k≤a.length∧i = .int .i64 k∧o = .int .i64 x∧Hid (imgR a s k=x)∧Hid (Qt w wr)) (fun _ i _=>a.length - (intOf i).toNat)
 case atStart=>exact ⟨0,0,by omega,rfl,rfl,rfl,Qt.refl _⟩
 case round=>
  obtain ⟨k,x,hk,rfl,rfl,hg,hq⟩:=hrel
  by_cases hlt:k < a.length
  ·obtain ⟨g1,g2⟩:=hG k hlt
   obtain rfl:=ha (by omega)
   have hck:=hc.qt hq.out k hlt
   have e1:=Lib.hid (imgR_succ a s k)
   obtain ⟨q,hq'⟩:∃ q,a.getD k 0=q:=⟨_,rfl⟩
   rw [hq'] at hck g1 g2 e1
   clear hq' ha hc hG
   go_wp2
   ·have ht:=‹(bits BinOp.and IntKind.i64 (s / 2 ^ k) 1 == 1)=true›
    go_roundw
    case rel=>exact ⟨k+1,_,by omega,by go_num,rfl,by show _=_; rw [e1.out,hg.out,imgRs,if_pos ht],hq⟩
    case measure=>simp [intOf]; omega
   ·have ht:=‹(bits BinOp.and IntKind.i64 (s / 2 ^ k) 1 == 1)=false›
    go_roundw
    case rel=>exact ⟨k+1,_,by omega,by go_num,rfl,by show _=_; rw [e1.out,hg.out,imgRs,if_neg (by rw [ht]; decide)],hq⟩
    case measure=>simp [intOf]; omega
  ·obtain rfl:k=a.length:=by omega
   clear ha hc hG
   go_wp2
   go_ret
   exact ⟨ret_int hg.out.symm,hq.out⟩
def setE (a:List Int) (s:Int):Int:=if chk a ≠ 0 then chk a else if s < 0∨wrap64 (2 ^ a.length)≤s then 2 else 0
def setP (a:List Int) (s:Int):Int:=if setE a s=0 then imgP a s a.length else 0
def R2 (w:World) (x y:Int) (e:Ending) (w':World):Prop:=e = .returned (.tuple #[.int .i64 x,.int .i64 y])∧Below w.heap.size w w'
theorem R2.mk' {w w':World} {x y x' y':Int} (hx:x'=x) (hy:y'=y) (hb:Below w.heap.size w w'):R2 w x y (.returned (.tuple #[.int .i64 x',.int .i64 y'])) w':=by
 subst hx; subst hy; exact ⟨rfl,hb⟩
theorem setCall {w:World} {u:Value} {a:List Int} (h:Ints w u a) (s:Int):Calls Tryz.prog 96 #[u,.int .i64 s] w (R2 w (setP a s) (setE a s)):=by
 have H:=Lib.hid (check h)
 by_cases hz:chk a=0
 ·obtain ⟨h1,h5,hG,_⟩:=chk_good hz
  rw [hz] at H
  by_cases hs:s < 0
  ·have hvE:=Lib.hid (show setE a s=2 by rw [setE,if_neg (fun h=>h hz),if_pos (.inl hs)])
   have hL:=Lib.hid (show setP a s=0 by rw [setP,hvE.out]; rfl)
   obtain ⟨aa,ac,ab,ao,rfl,ha,hc,hl⟩:=h
   clear ha hc hz hG
   go_enter Tryz.func96,Tryz.ntmps96
   go_wp2_with (go_at_call 65; refine H.out.mono ?_; rintro e w1 ⟨rfl,hq⟩)
   go_ret2
   exact R2.mk' hL.out.symm hvE.out.symm hq
  ·have hs':decide (s < 0)=false:=by simpa using hs
   by_cases hs2:wrap64 (2 ^ a.length)≤s
   ·have hvE:=Lib.hid (show setE a s=2 by rw [setE,if_neg (fun h=>h hz),if_pos (.inr hs2)])
    have hL:=Lib.hid (show setP a s=0 by rw [setP,hvE.out]; rfl)
    obtain ⟨aa,ac,ab,ao,rfl,ha,hc,hl⟩:=h
    clear ha hc hz hG
    go_enter Tryz.func96,Tryz.ntmps96
    go_wp2_with (go_at_call 65; refine H.out.mono ?_; rintro e w1 ⟨rfl,hq⟩)
    go_ret2
    exact R2.mk' hL.out.symm hvE.out.symm hq
   ·have hvE:=Lib.hid (show setE a s=0 by rw [setE,if_neg (fun h=>h hz),if_neg (by omega)])
    have hL:=Lib.hid (show setP a s=imgP a s a.length by rw [setP,if_pos hvE.out])
    obtain ⟨aa,ac,ab,ao,rfl,ha,hc,hl⟩:=h
    clear hz
    go_enter Tryz.func96,Tryz.ntmps96
    go_wp2_with (go_at_call 65; refine H.out.mono ?_; rintro e w1 ⟨rfl,hq⟩)
    go_loopw [7,26] (fun o i wr=>∃ (k:Nat) (x:Int),k≤a.length∧i = .int .i64 k∧o = .int .i64 x∧Hid (imgP a s k=x)∧Hid (Below w.heap.size w wr)) (fun _ i _=>a.length - (intOf i).toNat)
    case atStart=>exact ⟨0,0,by omega,rfl,rfl,rfl,hq⟩
    case round=>
     clear hq
     obtain ⟨k,x,hk,rfl,rfl,hg,hq⟩:=hrel
     by_cases hlt:k < a.length
     ·obtain ⟨g1,g2⟩:=hG k hlt
      obtain rfl:=ha (by omega)
      have hck:=hc.keep hq.out k hlt
      have e1:=Lib.hid (imgP_succ a s k)
      obtain ⟨q,hq'⟩:∃ q,a.getD k 0=q:=⟨_,rfl⟩
      rw [hq'] at hck g1 g2 e1
      clear hq' ha hc hG
      go_wp2
      go_roundw
      case rel=>exact ⟨k+1,_,by omega,by go_num,rfl,by show _=_; rw [e1.out,hg.out,imgPs],hq⟩
      case measure=>simp [intOf]; omega
     ·obtain rfl:k=a.length:=by omega
      clear ha hc hG
      go_wp2
      go_ret2
      exact R2.mk' (by rw [hL.out,hg.out]) hvE.out.symm hq.out
 ·obtain ⟨E,hE⟩:=exE (chk a)
  have hvE:=Lib.hid (show setE a s=E by rw [setE,if_pos hz,hE])
  have hL:=Lib.hid (show setP a s=0 by rw [setP,hvE.out,← hE,if_neg hz])
  rw [hE] at H hz
  have hz':(E != 0)=true:=by simpa using hz
  clear hz h hE
  go_enter Tryz.func96,Tryz.ntmps96
  go_wp2_with (go_at_call 65; refine H.out.mono ?_; rintro e w1 ⟨rfl,hq⟩)
  go_ret2
  exact R2.mk' hL.out.symm hvE.out.symm hq
end Go.Proofs.YtmikofeildnpdaaGreat

/- The walks of Vector, Identity, Compose and the reference's. -/
namespace Go.Proofs.YtmikofeildnpdaaGreat
open Go.RowKit
theorem vector {w:World} {u v:Value} {a b:List Int} (h:Ints w u a) (h':Ints w v b):Calls Tryz.prog 166 #[u,v] w (RI w (vecL a b) (vecE02 a b)):=by
 have H:=Lib.hid (check h)
 by_cases hz:chk a=0
 ·obtain ⟨h1,h5,hG,_⟩:=chk_good hz
  by_cases hab:a.length=b.length
  ·have hvE:=Lib.hid (show vecE02 a b=0 by rw [vecE02,if_neg (fun h=>h hz),if_neg (fun h=>h hab.symm)])
   have hL:=Lib.hid (show vecL a b=movedL a b by rw [vecL,if_pos hvE.out])
   rw [hz] at H
   clear hz
   obtain ⟨aa,ac,ab,ao,rfl,ha,hca,hla⟩:=h
   obtain ⟨ba,bc,bb,bo,rfl,hb',hcb,hlb⟩:=h'
   obtain rfl:=ha (by omega)
   obtain rfl:=hb' (by omega)
   clear ha hb'
   have hab':((b.length:Int) != (a.length:Int))=false:=by simp; omega
   have hb5:b.length≤5:=by omega
   replace hab:=Lib.hid hab
   go_enter Tryz.func166,Tryz.ntmps166
   go_wp2_with (first | (go_at_call 65; refine H.out.mono ?_; rintro e w1 ⟨rfl,hb1⟩) | (at_make; refine wpMakeI rfl _ _ rfl b.length rfl rfl (by omega) (Nat.le_refl _) ?_; intro w2 ho _ hb))
   rw [← hab.out] at ho ⊢
   have hb0:=btt hb1 hb
   have hg1:=hb1.size
   clear hb1 hb
   obtain ⟨g,hg⟩:=exF (w1.heap.size)
   rw [← hg] at ho ⊢
   have hgl:w.heap.size≤g:=by omega
   clear hg hg1
   go_loopw [25] (fun i wr=>∃ k:Nat,k≤a.length∧i = .int .i64 k∧OI wr g (.slice (some ⟨g,0,none⟩) a.length a.length) a.length (scat a b (List.replicate a.length 0) k)∧Below w.heap.size w wr) (fun i _=>a.length - (intOf i).toNat)
   case atStart=>exact ⟨0,by omega,rfl,ho,hb0⟩
   case round=>
    clear ho hb0
    obtain ⟨k,hk,rfl,ho,hb⟩:=hrel
    by_cases hlt:k < a.length
    ·obtain ⟨g1,g2⟩:=hG k hlt
     have hck:=hca.keep hb k hlt
     have hck':=hcb.keep hb k (by have:=hab.out; omega)
     have e1:=Lib.hid (scat_succ a b (List.replicate a.length 0) k)
     obtain ⟨q,hq⟩:=exE (a.getD k 0)
     obtain ⟨y,hy⟩:=exE (b.getD k 0)
     rw [hq] at hck g1 g2 e1
     rw [hy] at hck' e1
     clear hq hy hca hcb hG
     have hcq:=ho.cell (j:=q.toNat) (by omega)
     have hfq:=ho.free q.toNat
     have hst:=ho.store q.toNat y
     go_wp2
     go_roundw
     case rel=>exact ⟨k+1,by omega,by go_num,by rw [e1.out]; exact hst.1,hb.setCell (by simpa using hgl) _⟩
     case measure=>simp [intOf]; omega
    ·obtain rfl:k=a.length:=by omega
     clear hca hcb hG
     go_wp2
     go_ret2
     exact RI.some hL.out hvE.out ho hgl hb
  ·have hvE:=Lib.hid (show vecE02 a b=15 by rw [vecE02,if_neg (fun h=>h hz),if_pos (fun h=>hab h.symm)])
   have hL:=Lib.hid (show vecL a b = [] by rw [vecL,hvE.out]; rfl)
   rw [hz] at H
   clear hz
   obtain ⟨aa,ac,ab,ao,rfl,ha,hca,hla⟩:=h
   obtain ⟨ba,bc,bb,bo,rfl,hb',hcb,hlb⟩:=h'
   clear ha hb' hca hcb
   have hab':((b.length:Int) != (a.length:Int))=true:=by simp; omega
   go_enter Tryz.func166,Tryz.ntmps166
   go_wp2_with (first | (go_at_call 65; refine H.out.mono ?_; rintro e w1 ⟨rfl,hb1⟩))
   go_ret2
   exact RI.none hL.out hvE.out.symm hb1
 ·obtain ⟨E,hE⟩:=exE (chk a)
  have hvE:=Lib.hid (show vecE02 a b=E by rw [vecE02,if_pos hz,hE])
  have hL:=Lib.hid (show vecL a b = [] by rw [vecL,hvE.out,← hE,if_neg hz])
  rw [hE] at H hz
  have hz':(E != 0)=true:=by simpa using hz
  clear hz h hE
  go_enter Tryz.func166,Tryz.ntmps166
  go_wp2_with (go_at_call 65; refine H.out.mono ?_; rintro e w1 ⟨rfl,hb1⟩)
  go_ret2
  exact RI.none hL.out hvE.out.symm hb1
end Go.Proofs.YtmikofeildnpdaaGreat

/- The walks of further, Every, the reference's All; Clone, all, All. -/
namespace Go.Proofs.YtmikofeildnpdaaGreat
open Go.RowKit
def furF (n:Nat):Nat→List Int→List (List Int)
 | 0,b=>[b]
 | f+1,b=>(List.range n).flatMap fun (p:Nat)=>if (p:Int)∈b then [] else furF n f (b ++ [(p:Int)])
def furK (n f:Nat) (b:List Int) (k:Nat):List (List Int):=(List.range k).flatMap fun (p:Nat)=>if (p:Int)∈b then [] else furF n f (b ++ [(p:Int)])
theorem furK_succ (n f:Nat) (b:List Int) (k:Nat):furK n f b (k+1)=furK n f b k++if (k:Int)∈b then [] else furF n f (b ++ [(k:Int)]):=by
 simp [furK,List.range_succ,List.flatMap_append]
theorem furF_succ (n f:Nat) (b:List Int):furF n (f+1) b=furK n f b n:=rfl
theorem furK_le (n f B:Nat) (h:∀ b,(furF n f b).length≤B) (b:List Int):∀ k,(furK n f b k).length≤k * B
 | 0=>by simp [furK]
 | k+1=>by
  rw [furK_succ,List.length_append,Nat.succ_mul]
  have h1:=furK_le n f B h b k
  have h2:(if (k:Int)∈b then [] else furF n f (b ++ [(k:Int)])).length≤B:=by split; exact Nat.zero_le _; exact h _
  omega
theorem furF_le (n:Nat):∀ f b,(furF n f b).length≤n ^ f
 | 0,b=>by simp [furF]
 | f+1,b=>by rw [furF_succ,Nat.pow_succ,Nat.mul_comm]; exact furK_le n f _ (furF_le n f) b n
theorem furF_small (n f:Nat) (hn:n≤5) (hf:f≤5) (b:List Int):(furF n f b).length≤3125:=by
 refine Nat.le_trans (furF_le n f b) ?_
 calc n ^ f≤5 ^ f:=Nat.pow_le_pow_left hn f
  _≤5 ^ 5:=Nat.pow_le_pow_right (by decide) hf
  _=3125:=by decide
theorem further (n:Nat) (hn:n≤5) (f:Nat):∀ (b:List Int) (v:Value) (w:World),b.length+f=n→OI w 0 v b.length b→
  Calls Tryz.prog 106 #[.int .i64 n,v] w fun e w'=>∃ r,e = .returned r∧OII w' w.heap.size r (furF n f b).length (furF n f b)∧Below w.heap.size w w':=by
 induction f with
 | zero=>
  intro b v w hbn hv
  have hi:=hv.ints (by omega)
  obtain ⟨a,c,bb,off,rfl,ha,hc,hl⟩:=hi
  have he:((b.length:Int) == (n:Int))=true:=by simp; omega
  clear ha hc
  replace hbn:=Lib.hid hbn
  go_enter Tryz.func106,Tryz.ntmps106
  go_wp2
  go_ret
  have h1:=oneCell_slice hv
  refine ⟨_,rfl,?_,(Below.refl _ _).alloc (Nat.le_refl _) _⟩
  refine ⟨[.slice a b.length c],⟨rfl,.inr ⟨w.heap.size,1,_,rfl,Nat.le_refl _,heap_alloc_new _ _,Nat.le_refl _,by decide,rfl,rfl⟩⟩,rfl,?_,?_⟩
  ·intro x hx; rw [List.mem_singleton.1 hx]; rfl
  ·intro j hj
   obtain rfl:j=0:=by simp [furF] at hj; exact hj
   exact hv.keep ((Below.refl _ _).alloc (Nat.le_refl _) _)
 | succ f ih=>
  intro b v w hbn hv
  have hi:=hv.ints (by omega)
  have hi0:=hi
  obtain ⟨a,c,bb,off,rfl,ha,hc,hl⟩:=hi
  have he:((b.length:Int) == (n:Int))=false:=by simp; omega
  have hb5:b.length≤5:=by omega
  have hf5:f≤5:=by omega
  clear ha hc
  replace hbn:=Lib.hid hbn
  replace ih:=Lib.hid ih
  go_enter Tryz.func106,Tryz.ntmps106
  go_wp2
  go_loopw [5,6] (fun o i wr=>∃ k:Nat,k≤n∧i = .int .i64 k∧OII wr w.heap.size o (furK n f b k).length (furK n f b k)∧Below w.heap.size w wr) (fun _ i _=>n - (intOf i).toNat)
  case atStart=>exact ⟨0,by omega,rfl,OII.nil _ _,Below.refl _ _⟩
  case round=>
   obtain ⟨k,hk,rfl,ho,hb⟩:=hrel
   have hbs:=hb.size
   by_cases hlt:k < n
   ·have H1:=Lib.hid (refHas02 (k:Int) (hi0.keep hb))
    have e1:=Lib.hid (furK_succ n f b k)
    have hle:=furK_le n f 3125 (fun b=>furF_small n f hn hf5 b) b k
    have hle2:=furF_small n f hn hf5 (b ++ [(k:Int)])
    by_cases hm:(k:Int)∈b
    ·rw [show hasB b k=true by simp [hasB,hm]] at H1
     rw [if_pos hm,List.append_nil] at e1
     clear hm hle hle2
     go_wp2_with (go_at_call 143; refine H1.out.mono ?_; rintro e w1 ⟨rfl,hq⟩)
     go_roundw
     case rel=>exact ⟨k+1,by omega,by go_num,by rw [e1.out]; exact ho.keep hq.below,hb.trans (hq.belowB _)⟩
     case measure=>simp [intOf]; omega
    ·rw [show hasB b k=false by simp [hasB,hm]] at H1
     rw [if_neg hm] at e1
     clear hm
     have hlb:=Lib.hid (show (b ++ [(k:Int)]).length=b.length+1 by simp)
     go_wp2_with (first | (go_at_call 143; refine H1.out.mono ?_; rintro e w1 ⟨rfl,hq⟩; have hb1:=hb.trans (hq.belowB w.heap.size); replace ho:=ho.keep hq.below; have hv1:=hv.keep hb1; clear hq hb hbs H1) | (at_builtin; refine wpAppManyI rfl _ _ rfl rfl (OI.nil _ w1.heap.size) rfl hv1 (by omega) (Nat.le_refl _) ?_; intro v2 w2 hv2 _ hb2; rw [Nat.zero_add,List.nil_append] at hv2; have hs2:=hb2.size; clear hv1) | (at_builtin; refine wpAppI rfl _ _ rfl rfl hv2 rfl (by omega) hs2 ?_; intro v3 w3 hv3 _ hb4; rw [← hlb.out] at hv3; have hb24:=hb2.trans hb4; replace ho:=ho.keep hb24; have hb5:=bt hb1 hb24 hb1.size; have H2:=Lib.hid (ih.out (b ++ [(k:Int)]) v3 w3 (by have:=hbn.out; have:=hlb.out; omega) (hv3.base (Nat.zero_le _))); clear hb1 hb2 hb4 hb24 hv2 hs2) | (go_at_call 106; refine H2.out.mono ?_; rintro e w4 ⟨r4,rfl,ho4,hb6⟩; replace ho:=ho.keep hb6; have hb7:=bt hb5 hb6 hb5.size; have hb7s:=hb7.size; clear hb5 hb6 hv3 H2) | (at_builtin; refine wpAppManyS rfl _ _ rfl rfl ho rfl ho4 (by omega) hb7s ?_; intro v5 w5 ho5 hb8 _; have hb9:=hb7.trans hb8; clear hb7 hb8 ho ho4))
     go_roundw
     case rel=>exact ⟨k+1,by omega,by go_num,by rw [e1.out,List.length_append]; exact ho5,hb9⟩
     case measure=>simp [intOf]; omega
   ·obtain rfl:k=n:=by omega
    go_wp2
    go_ret
    exact ⟨_,rfl,ho,hb⟩
def everyL (n:Nat):List (List Int):=furF n n []
theorem every (n:Nat) (hn:n≤5) (w:World) :
  Calls Tryz.prog 59 #[.int .i64 n] w fun e w'=>∃ r,e = .returned r∧OII w' w.heap.size r (everyL n).length (everyL n)∧Below w.heap.size w w':=by
 have H:=Lib.hid (further n hn n [] (.slice none 0 0) w (by simp) (OI.nil _ _))
 go_enter Tryz.func59,Tryz.ntmps59
 go_wp2_with (go_at_call 106; refine H.out.mono ?_; rintro e w1 ⟨r,rfl,ho,hb⟩)
 go_ret
 exact ⟨_,rfl,ho,hb⟩
def allL (n:Int):List (List Int):=if numE n=0 then everyL n.toNat else []
def RII (w:World) (l:List (List Int)) (E:Int) (e:Ending) (w':World):Prop:=
 ∃ r,e = .returned (.tuple #[r,.int .i64 E])∧OII w' w.heap.size r l.length l∧Below w.heap.size w w'
theorem RII.none {w w':World} {l:List (List Int)} {E E':Int} (hl:l = []) (hE:E'=E) (hb:Below w.heap.size w w') :
  RII w l E (.returned (.tuple #[.slice none 0 0,.int .i64 E'])) w':=by
 subst hl; subst hE; exact ⟨_,rfl,OII.nil _ _,hb⟩
theorem RII.some {w w':World} {l l':List (List Int)} {E:Int} {r:Value} {n B:Nat} (hl:l=l') (hE:E=0) (ho:OII w' B r n l') (hB:w.heap.size≤B) (hb:Below w.heap.size w w') :
  RII w l E (.returned (.tuple #[r,.int .i64 0])) w':=by
 subst hl; subst hE; obtain rfl:=ho.length; exact ⟨_,rfl,ho.base hB,hb⟩
end Go.Proofs.YtmikofeildnpdaaGreat

/- The walks of Clone, all, All. -/
namespace Go.Proofs.YtmikofeildnpdaaGreat
open Go.RowKit
theorem und22 : Tryz.prog.underlying 25=some (.slice 3):=by kernel_rfl
theorem clone {w:World} {B n:Nat} {v:Value} {b:List Int} (h:OI w B v n b) (hn:n≤1000000) :
  Calls Tryz.prog 142 #[v] w fun e w'=>∃ r,e = .returned r∧OI w' w.heap.size r n b∧Below w.heap.size w w':=by
 have hl:=h.length
 rcases h.2 with ⟨rfl,h0⟩ | ⟨g,cap,cur,rfl,_⟩
 ·subst h0
  obtain rfl:b = []:=List.length_eq_zero_iff.1 hl
  have hnil:=fun w:World=>Lib.run_eql_slice_nil (P:=Tryz.prog) w 25 3 none 0 0 0 0 und22
  go_enter Tryz.func142,Tryz.ntmps142
  go_wp2
  go_ret
  exact ⟨_,rfl,OI.nil _ _,Below.refl _ _⟩
 ·subst hl
  have hnil:=fun w:World=>Lib.run_eql_slice_nil (P:=Tryz.prog) w 25 3 (some ⟨g,0,none⟩) b.length cap 0 0 und22
  go_enter Tryz.func142,Tryz.ntmps142
  go_wp2_with (at_builtin; refine wpAppManyI (w:=w.alloc (.cells #[] 3)) (B:=w.heap.size) (xs:=[]) (n:=0) rfl _ _ rfl rfl (⟨rfl,.inr ⟨w.heap.size,0,#[],rfl,Nat.le_refl _,heap_alloc_new _ _,Nat.le_refl _,by decide,rfl,rfl⟩⟩) rfl (h.keep ((Below.refl _ _).alloc (Nat.le_refl _) _)) (by omega) (by simp) ?_; intro v2 w2 hv2 _ hb2)
  rw [Nat.zero_add,List.nil_append] at hv2
  go_ret
  exact ⟨_,rfl,hv2,((Below.refl _ _).alloc (Nat.le_refl _) _).trans hb2⟩
theorem OII.one {w:World} {u:Value} {x:List Int} {B:Nat} (hu:OI w B u x.length x):OII (w.alloc (.cells #[u] 25)) w.heap.size (.slice (some ⟨w.heap.size,0,none⟩) 1 1) 1 [x]:=by
 refine ⟨[u],⟨rfl,.inr ⟨w.heap.size,1,_,rfl,Nat.le_refl _,heap_alloc_new _ _,Nat.le_refl _,by decide,rfl,rfl⟩⟩,rfl,?_,?_⟩
 ·intro y hy; rw [List.mem_singleton.1 hy]; exact oneCell_slice hu
 ·intro j hj
  obtain rfl:j=0:=by omega
  exact (hu.keep ((Below.refl _ _).alloc (Nat.le_refl _) _)).base (Nat.zero_le _)
theorem allRec (n:Nat) (hn:n≤5) (f:Nat):∀ (b:List Int) (v:Value) (w:World),b.length+f=n→OI w 0 v b.length b→
  Calls Tryz.prog 105 #[.int .i64 n,v] w fun e w'=>∃ r,e = .returned r∧OII w' w.heap.size r (furF n f b).length (furF n f b)∧Below w.heap.size w w':=by
 induction f with
 | zero=>
  intro b v w hbn hv
  have H:=Lib.hid (clone hv (by omega))
  have hi:=hv.ints (by omega)
  obtain ⟨a,c,bb,off,rfl,ha,hc,hl⟩:=hi
  have he:((b.length:Int) == (n:Int))=true:=by simp; omega
  clear ha hc
  replace hbn:=Lib.hid hbn
  go_enter Tryz.func105,Tryz.ntmps105
  go_wp2_with (go_at_call 142; refine H.out.mono ?_; rintro e w1 ⟨r,rfl,ho,hb⟩; obtain ⟨a1,c1,rfl⟩:=ho.shape)
  go_ret
  exact ⟨_,rfl,(OII.one ho).base hb.size,hb.alloc hb.size _⟩
 | succ f ih=>
  intro b v w hbn hv
  have hi:=hv.ints (by omega)
  have hi0:=hi
  obtain ⟨a,c,bb,off,rfl,ha,hc,hl⟩:=hi
  have he:((b.length:Int) == (n:Int))=false:=by simp; omega
  have hb5:b.length≤5:=by omega
  have hf5:f≤5:=by omega
  clear ha hc
  replace hbn:=Lib.hid hbn
  replace ih:=Lib.hid ih
  go_enter Tryz.func105,Tryz.ntmps105
  go_wp2
  go_loopw [5,15] (fun o i wr=>∃ k:Nat,k≤n∧i = .int .i64 k∧OII wr w.heap.size o (furK n f b k).length (furK n f b k)∧Below w.heap.size w wr) (fun _ i _=>n - (intOf i).toNat)
  case atStart=>exact ⟨0,by omega,rfl,OII.nil _ _,Below.refl _ _⟩
  case round=>
   obtain ⟨k,hk,rfl,ho,hb⟩:=hrel
   have hbs:=hb.size
   by_cases hlt:k < n
   ·have H1:=Lib.hid (slContains (k:Int) (hi0.keep hb))
    have e1:=Lib.hid (furK_succ n f b k)
    have hle:=furK_le n f 3125 (fun b=>furF_small n f hn hf5 b) b k
    have hle2:=furF_small n f hn hf5 (b ++ [(k:Int)])
    by_cases hm:(k:Int)∈b
    ·rw [show hasB b k=true by simp [hasB,hm]] at H1
     rw [if_pos hm,List.append_nil] at e1
     clear hm hle hle2
     go_wp2_with (go_at_call 28; refine H1.out.mono ?_; rintro e w1 ⟨rfl,hq⟩)
     go_roundw
     case rel=>exact ⟨k+1,by omega,by go_num,by rw [e1.out]; exact ho.keep hq.below,hb.trans (hq.belowB _)⟩
     case measure=>simp [intOf]; omega
    ·rw [show hasB b k=false by simp [hasB,hm]] at H1
     rw [if_neg hm] at e1
     clear hm
     have hlb:=Lib.hid (show (b ++ [(k:Int)]).length=b.length+1 by simp)
     go_wp2_with (first | (go_at_call 28; refine H1.out.mono ?_; rintro e w1 ⟨rfl,hq⟩; have hb1:=hb.trans (hq.belowB w.heap.size); replace ho:=ho.keep hq.below; have HC:=Lib.hid (clone (hv.keep hb1) (by omega)); clear hq hb hbs H1) | (go_at_call 142; refine HC.out.mono ?_; rintro e w2 ⟨v2,rfl,hv2,hb2⟩; have hs2:=hb2.size; clear HC) | (at_builtin; refine wpAppI rfl _ _ rfl rfl hv2 rfl (by omega) hs2 ?_; intro v3 w3 hv3 _ hb4; rw [← hlb.out] at hv3; have hb24:=hb2.trans hb4; replace ho:=ho.keep hb24; have hb5:=bt hb1 hb24 hb1.size; have H2:=Lib.hid (ih.out (b ++ [(k:Int)]) v3 w3 (by have:=hbn.out; have:=hlb.out; omega) (hv3.base (Nat.zero_le _))); clear hb1 hb2 hb4 hb24 hv2 hs2) | (go_at_call 105; refine H2.out.mono ?_; rintro e w4 ⟨r4,rfl,ho4,hb6⟩; replace ho:=ho.keep hb6; have hb7:=bt hb5 hb6 hb5.size; have hb7s:=hb7.size; clear hb5 hb6 hv3 H2) | (at_builtin; refine wpAppManyS rfl _ _ rfl rfl ho rfl ho4 (by omega) hb7s ?_; intro v5 w5 ho5 hb8 _; have hb9:=hb7.trans hb8; clear hb7 hb8 ho ho4))
     go_roundw
     case rel=>exact ⟨k+1,by omega,by go_num,by rw [e1.out,List.length_append]; exact ho5,hb9⟩
     case measure=>simp [intOf]; omega
   ·obtain rfl:k=n:=by omega
    go_wp2
    go_ret
    exact ⟨_,rfl,ho,hb⟩
theorem allCall (n:Int) (w:World):Calls Tryz.prog 56 #[.int .i64 n] w (RII w (allL n) (numE n)):=by
 have H:=Lib.hid (number n w)
 by_cases hz:numE n=0
 ·obtain ⟨k,rfl⟩:∃ k:Nat,n=k:=⟨n.toNat,by unfold numE at hz; split at hz <;> omega⟩
  have hk:k≤5:=by unfold numE at hz; split at hz <;> omega
  have hL:=Lib.hid (show allL k=everyL k by rw [allL,if_pos hz]; rfl)
  rw [hz] at H
  replace hz:=Lib.hid hz
  have H2:=Lib.hid (allRec k hk k [] (.slice none 0 0) w (by simp) (OI.nil _ _))
  go_enter Tryz.func56,Tryz.ntmps56
  go_wp2_with (first | (go_at_call 64; refine H.out.mono ?_; rintro e w1 ⟨rfl,rfl⟩) | (go_at_call 105; refine H2.out.mono ?_; rintro e w2 ⟨r,rfl,ho,hb⟩))
  go_ret2
  exact RII.some hL.out hz.out ho (Nat.le_refl _) hb
 ·obtain ⟨E,hE⟩:=exE (numE n)
  have hL:=Lib.hid (show allL n = [] by rw [allL,if_neg hz])
  rw [hE] at H hz
  replace hE:=Lib.hid hE
  have hz':(E != 0)=true:=by simpa using hz
  clear hz
  go_enter Tryz.func56,Tryz.ntmps56
  go_wp2_with fail
  refine H.out.mono ?_; rintro e w1 ⟨rfl,rfl⟩
  go_wp2
  go_ret2
  exact RII.none hL.out hE.out.symm (Below.refl _ _)
end Go.Proofs.YtmikofeildnpdaaGreat

/- Plain facts on permutations as lists: which they are, their compositions, the closure of a list of them. -/
namespace Go.Proofs.YtmikofeildnpdaaGreat
def IsP (n:Nat) (x:List Int):Prop:=x.length=n∧(∀ e∈x,0≤e∧e < (n:Int))∧x.Nodup
theorem IsP.good {n:Nat} {x:List Int} (h:IsP n x):Good n x:=fun j hj=>by rw [getD_eq hj]; exact h.2.1 _ (List.getElem_mem hj)
theorem mem_furF (n:Nat):∀ (f:Nat) (b x:List Int),x∈furF n f b↔∃ s,x=b++s∧s.length=f∧(∀ e∈s,0≤e∧e < (n:Int))∧s.Nodup∧∀ e∈s,e ∉ b
 | 0,b,x=>by
  simp only [furF,List.mem_singleton]
  constructor
  ·rintro rfl; exact ⟨[],by simp⟩
  ·rintro ⟨s,rfl,hs,_⟩; rw [List.length_eq_zero_iff.1 hs]; simp
 | f+1,b,x=>by
  simp only [furF,List.mem_flatMap,List.mem_range]
  constructor
  ·rintro ⟨p,hp,hx⟩
   by_cases hb:(p:Int)∈b
   ·rw [if_pos hb] at hx; cases hx
   ·rw [if_neg hb,mem_furF n f] at hx
    obtain ⟨s,rfl,h1,h2,h3,h4⟩:=hx
    refine ⟨(p:Int)::s,by simp,by simp [h1],?_,?_,?_⟩
    ·intro e he
     rcases List.mem_cons.1 he with rfl | he
     ·omega
     ·exact h2 e he
    ·rw [List.nodup_cons]
     exact ⟨fun hm=>h4 _ hm (by simp),h3⟩
    ·intro e he
     rcases List.mem_cons.1 he with rfl | he
     ·exact hb
     ·exact fun h=>h4 e he (by simp [h])
  ·rintro ⟨s,rfl,h1,h2,h3,h4⟩
   match s,h1 with
   | p::s,h1=>
    obtain ⟨g1,g2⟩:=h2 p (by simp)
    rw [List.nodup_cons] at h3
    refine ⟨p.toNat,by omega,?_⟩
    have hp:((p.toNat:Nat):Int)=p:=by omega
    rw [hp,if_neg (h4 p (by simp)),mem_furF n f]
    refine ⟨s,by simp,by simpa using h1,fun e he=>h2 e (by simp [he]),h3.2,fun e he=>?_⟩
    rw [List.mem_append,List.mem_singleton]
    rintro (h | rfl)
    ·exact h4 e (by simp [he]) h
    ·exact h3.1 he
theorem mem_everyL {n:Nat} {x:List Int}:x∈everyL n↔IsP n x:=by
 rw [everyL,mem_furF]
 constructor
 ·rintro ⟨s,rfl,h1,h2,h3,_⟩; exact ⟨by simpa using h1,by simpa using h2,by simpa using h3⟩
 ·rintro ⟨h1,h2,h3⟩; exact ⟨x,by simp,h1,h2,h3,by simp⟩
theorem chkGo_ok {n:Nat}:∀ {r seen:List Int},(∀ x∈r,0≤x∧x < (n:Int))→(∀ x∈r,x ∉ seen)→r.Nodup→chkGo n seen r=0
 | [],_,_,_,_=>rfl
 | x::r,seen,h1,h2,h3=>by
  have:=h1 x (by simp)
  rw [List.nodup_cons] at h3
  rw [chkGo,if_neg (by omega),if_neg (h2 x (by simp))]
  refine chkGo_ok (fun y hy=>h1 y (by simp [hy])) (fun y hy=>?_) h3.2
  rw [List.mem_append,List.mem_singleton]
  rintro (h | rfl)
  ·exact h2 y (by simp [hy]) h
  ·exact h3.1 hy
theorem chk_iff {x:List Int}:chk x=0↔(1≤x.length∧x.length≤5)∧IsP x.length x:=by
 constructor
 ·intro h
  obtain ⟨h1,h5,hG,hN⟩:=chk_good h
  refine ⟨⟨h1,h5⟩,rfl,fun e he=>?_,hN⟩
  obtain ⟨j,hj,rfl⟩:=List.mem_iff_getElem.1 he
  have:=hG j hj
  rwa [getD_eq hj] at this
 ·rintro ⟨⟨h1,h5⟩,_,h2,h3⟩
  rw [chk,if_neg (by omega)]
  exact chkGo_ok h2 (by simp) h3
theorem nodup_map {f:Int→Int}:∀ {l:List Int},l.Nodup→(∀ x∈l,∀ y∈l,f x=f y→x=y)→(l.map f).Nodup
 | [],_,_=>by simp
 | a::l,h,hf=>by
  rw [List.nodup_cons] at h
  rw [List.map_cons,List.nodup_cons]
  refine ⟨?_,nodup_map h.2 fun x hx y hy=>hf x (by simp [hx]) y (by simp [hy])⟩
  intro hm
  obtain ⟨y,hy,e⟩:=List.mem_map.1 hm
  have:=hf y (by simp [hy]) a (by simp) e
  subst this
  exact h.1 hy
theorem nodup_getD {l:List Int} (h:l.Nodup) {i j:Nat} (hi:i < l.length) (hj:j < l.length) (e:l.getD i 0=l.getD j 0):i=j:=by
 rw [getD_eq hi,getD_eq hj] at e
 have hp:=List.pairwise_iff_getElem.1 h
 rcases Nat.lt_trichotomy i j with h1 | h1 | h1
 ·exact absurd e (hp i j hi hj h1)
 ·exact h1
 ·exact absurd e.symm (hp j i hj hi h1)
theorem IsP.times {n:Nat} {a b:List Int} (ha:IsP n a) (hb:IsP n b):IsP n (timesL a b):=by
 refine ⟨by rw [timesL_length]; exact hb.1,?_,?_⟩
 ·intro e he
  obtain ⟨q,hq,rfl⟩:=List.mem_map.1 he
  have:=hb.2.1 q hq
  exact ha.good q.toNat (by rw [ha.1]; omega)
 ·refine nodup_map hb.2.2 fun x hx y hy e=>?_
  have h1:=hb.2.1 x hx
  have h2:=hb.2.1 y hy
  have:=nodup_getD ha.2.2 (by rw [ha.1]; omega) (by rw [ha.1]; omega) e
  omega
theorem IsP.one (n:Nat):IsP n (oneL n):=by
 refine ⟨oneL_length n,?_,?_⟩
 ·intro e he
  obtain ⟨q,hq,rfl⟩:=List.mem_map.1 he
  have:=List.mem_range.1 hq
  show 0≤(q:Int)∧(q:Int) < n
  omega
 ·refine List.pairwise_iff_getElem.2 fun i j hi hj hij=>?_
  rw [← getD_eq hi 0,← getD_eq hj 0]
  rw [oneL_length] at hi hj
  rw [oneL_getD hi,oneL_getD hj]
  omega
theorem nodup_le {α:Type} [DecidableEq α]:∀ {l m:List α},l.Nodup→(∀ x∈l,x∈m)→l.length≤m.length
 | [],_,_,_=>by simp
 | a::l,m,h,hs=>by
  rw [List.nodup_cons] at h
  have ha:=hs a (by simp)
  have h1:l.length≤(m.erase a).length:=nodup_le h.2 fun x hx=>by
   have hne:x ≠ a:=by rintro rfl; exact h.1 hx
   rw [List.mem_erase_of_ne hne]
   exact hs x (by simp [hx])
  rw [List.length_erase_of_mem ha] at h1
  have:0 < m.length:=List.length_pos_of_mem ha
  simp only [List.length_cons]
  omega
def clIn (y:List Int):List (List Int)→List (List Int)→List (List Int)
 | [],g=>g
 | a::l,g=>clIn y l (if timesL a y∈g then g else g ++ [timesL a y])
def clGo (l:List (List Int)):Nat→Nat→List (List Int)→Option (List (List Int))
 | 0,_,_=>none
 | f+1,i,g=>if i < g.length then clGo l f (i+1) (clIn (g.getD i []) l g) else some g
def InvG (n:Nat) (g:List (List Int)):Prop:=g.Nodup∧∀ y∈g,IsP n y
theorem InvG.le {n:Nat} (hn:n≤5) {g:List (List Int)} (h:InvG n g):g.length≤3125:=
 Nat.le_trans (nodup_le h.1 fun y hy=>mem_everyL.2 (h.2 y hy)) (furF_small n n hn hn [])
theorem InvG.step {n:Nat} {g:List (List Int)} {a y:List Int} (h:InvG n g) (ha:IsP n a) (hy:IsP n y):InvG n (if timesL a y∈g then g else g ++ [timesL a y]):=by
 split
 ·exact h
 ·rename_i hm
  refine ⟨?_,?_⟩
  ·rw [List.nodup_append]
   refine ⟨h.1,by simp,?_⟩
   intro x hx z hz
   rw [List.mem_singleton.1 hz]
   rintro rfl
   exact hm hx
  ·intro z hz
   rcases List.mem_append.1 hz with hz | hz
   ·exact h.2 z hz
   ·rw [List.mem_singleton.1 hz]; exact ha.times hy
theorem InvG.inner {n:Nat} {y:List Int} (hy:IsP n y):∀ {l g:List (List Int)},InvG n g→(∀ a∈l,IsP n a)→InvG n (clIn y l g)
 | [],_,h,_=>h
 | a::l,g,h,hl=>by
  rw [clIn]
  exact InvG.inner hy (h.step (hl a (by simp)) hy) fun b hb=>hl b (by simp [hb])
theorem clIn_le (y:List Int):∀ (l g:List (List Int)),g.length≤(clIn y l g).length
 | [],_=>Nat.le_refl _
 | a::l,g=>by
  rw [clIn]
  refine Nat.le_trans ?_ (clIn_le y l _)
  split
  ·exact Nat.le_refl _
  ·simp
theorem clGo_total {n:Nat} (hn:n≤5) {l:List (List Int)} (hl:∀ a∈l,IsP n a):∀ (f i:Nat) (g:List (List Int)),InvG n g→3126≤f+i→i≤g.length→∃ G,clGo l f i g=some G∧InvG n G
 | 0,i,g,h,hf,hi=>by have:=h.le hn; omega
 | f+1,i,g,h,hf,hi=>by
  rw [clGo]
  by_cases hlt:i < g.length
  ·rw [if_pos hlt]
   refine clGo_total hn hl f (i+1) _ (InvG.inner ?_ h hl) (by omega) (Nat.le_trans hlt (clIn_le _ _ _))
   rw [getD_eq hlt]; exact h.2 _ (List.getElem_mem hlt)
  ·rw [if_neg hlt]; exact ⟨g,rfl,h⟩
theorem clGo_start {n:Nat} (hn:n≤5) {l:List (List Int)} (hl:∀ a∈l,IsP n a):∃ G,clGo l 3126 0 [oneL n]=some G∧InvG n G:=
 clGo_total hn hl 3126 0 [oneL n] ⟨by simp,fun y hy=>by rw [List.mem_singleton.1 hy]; exact IsP.one n⟩ (by omega) (by simp)
end Go.Proofs.YtmikofeildnpdaaGreat
