/- Texts of this claim, put together: Wf Wh Wg Wk Wl Pa Pb Wm Wn Ka Kb Ga. -/
import Derived.Test.YtmikofeildnpdaaGreatKZj
import Derived.Test.YtmikofeildnpdaaGreatKZg
import Derived.Deep.LoopGhost
import Derived.Test.YtmikofeildnpdaaGreatKZh
import Derived.Shelf.Strings.Builder1
import Derived.Sort.LoopGhostIn
import Derived.OwnWalkIn
import Derived.TacticsInMore
import Derived.LoopNIn
import Derived.LoopIn
import Derived.Shelf.RegionOpen
import Derived.Laws.CopyRow
import Derived.Test.YtmikofeildnpdaaGreatKZi
import Derived.WideKeyArr2

set_option maxRecDepth 100000
set_option maxHeartbeats 12800000
namespace Go.Proofs.YtmikofeildnpdaaGreat
open Go.RowKit
theorem chkGo_good {n:Nat}:∀ {r seen:List Int},chkGo n seen r=0→(∀x∈r,0≤x∧x < (n:Int))∧(∀x∈r,x ∉ seen)∧r.Nodup
 | [],_,_=>by simp
 | x::r,seen,h=>by
  unfold chkGo at h;by_cases h1:x < 0∨(n:Int)≤x
  ·rw[if_pos h1] at h;cases h
  ·rw[if_neg h1] at h;by_cases h2:x∈seen
   ·rw[if_pos h2] at h;cases h
   ·rw[if_neg h2] at h;obtain⟨a,b,c⟩:=chkGo_good h;refine⟨?_,?_,?_⟩
    ·intro y hy;rcases List.mem_cons.1 hy with rfl|hy
     ·omega
     ·exact a y hy
    ·intro y hy;rcases List.mem_cons.1 hy with rfl|hy
     ·exact h2
     ·exact fun h=>b y hy (List.mem_append_left _ h)
    ·rw[List.nodup_cons];exact⟨fun hm=>b x hm (by simp),c⟩
theorem chk_good {xs:List Int}(h:chk xs=0):1≤xs.length∧xs.length≤5∧Good xs.length xs∧xs.Nodup:=by
 unfold chk at h;by_cases h1:xs.length < 1∨5 < xs.length
 ·rw[if_pos h1] at h;cases h
 ·rw[if_neg h1] at h;obtain⟨a,_,c⟩:=chkGo_good h;refine⟨by omega,by omega,fun j hj=>?_,c⟩;rw[getD_eq hj];exact a _ (List.getElem_mem hj)
def movedL (a v:List Int):List Int:=scat a v (List.replicate a.length 0) a.length
def backL (a:List Int):List Int:=movedL a (oneL a.length)
def invL (a:List Int):List Int:=if chk a=0 then backL a else []
def vecE02 (a v:List Int):Int:=if chk a ≠ 0 then chk a else if v.length ≠ a.length then 15 else 0
def vecL (a v:List Int):List Int:=if vecE02 a v=0 then movedL a v else []
def RI (w:World) (l:List Int) (E:Int) (e:Ending) (w':World):Prop:=
 ∃r,e = .returned (.tuple #[r,.int .i64 E])∧OI w' 0 r l.length l∧Below w.heap.size w w'
theorem RI.none {w w':World}{l:List Int}{E E':Int}(hl:l = []) (hE:E'=E) (hb:Below w.heap.size w w') :
  RI w l E (.returned (.tuple #[.slice none 0 0,.int .i64 E'])) w':=by
 subst hl;subst hE;exact⟨_,rfl,OI.nil _ _,hb⟩
theorem RI.some {w w':World}{l l':List Int}{E:Int}{r:Value}{n B:Nat}(hl:l=l') (hE:E=0) (ho:OI w' B r n l') (_hB:w.heap.size≤B) (hb:Below w.heap.size w w') :
  RI w l E (.returned (.tuple #[r,.int .i64 0])) w':=by
 subst hl;subst hE;obtain rfl:=ho.length;exact⟨_,rfl,ho.base (Nat.zero_le _),hb⟩
theorem inverse {w:World}{u:Value}{a:List Int}(h:Ints w u a):Calls Tryz.prog 33 #[u] w (RI w (invL a) (chk a)):=by
 have H:=qH (check h);by_cases hz:chk a=0
 ·obtain⟨h1,h5,hG,_⟩:=chk_good hz;have hL:=qH (show invL a=backL a by rw[invL,if_pos hz]);rw[hz] at H;replace hz:=qH hz;obtain⟨aa,ac,ab,ao,rfl,ha,hca,hla⟩:=h;obtain rfl:=ha (by omega);clear ha;go_enter Tryz.func33,Tryz.ntmps33
  go_wp2_with (first|(go_at_call 65;refine H.out.mono ?_;rintro e w1 ⟨rfl,hb1⟩)|(at_make;refine wpMakeI rfl _ _ rfl a.length rfl rfl (by omega) (Nat.le_refl _) ?_;intro w2 ho _ hb))
  have hb0:=btt hb1 hb;have hg1:=hb1.size;clear hb1 hb;obtain⟨g,hg⟩:=exF (w1.heap.size);rw[←hg] at ho⊢;have hgl:w.heap.size≤g:=by omega
  clear hg hg1;go_loopw [18] (fun i wr=>∃k:Nat,k≤a.length∧i = .int .i64 k∧OI wr g (.slice (some ⟨g,0,none⟩) a.length a.length) a.length (scat a (oneL a.length) (List.replicate a.length 0) k)∧Below w.heap.size w wr) (fun i _=>a.length - (intOf i).toNat)
  case atStart=>exact⟨0,by omega,rfl,ho,hb0⟩
  case round=>
   clear ho hb0;obtain⟨k,hk,rfl,ho,hb⟩:=hrel;by_cases hlt:k < a.length
   ·obtain⟨g1,g2⟩:=hG k hlt;have hck:=hca.keep hb k hlt;have e1:=qH (scat_succ a (oneL a.length) (List.replicate a.length 0) k);have e2:=qH (oneL_getD hlt);obtain⟨q,hq⟩:=exE (a.getD k 0);rw[hq] at hck g1 g2 e1;clear hq hca hG;have hcq:=ho.cell (j:=q.toNat) (by omega);have hfq:=ho.free q.toNat;have hst:=ho.store q.toNat k;go_wp2;go_roundw
    case rel=>exact⟨k+1,by omega,by go_num,by rw[e1.out,e2.out];exact hst.1,hb.setCell (by simpa using hgl) _⟩
    case measure=>simp[intOf];omega
   ·obtain rfl:k=a.length:=(by omega);clear hca hG;go_wp2;go_ret2
    exact RI.some hL.out hz.out ho hgl hb
 ·have hL:=qH (show invL a = [] by rw[invL,if_neg hz]);obtain⟨E,hE⟩:=exE (chk a);rw[hE] at H hz;have hz':(E != 0)=true:=by simpa using hz
  replace hE:=qH hE;clear hz h;go_enter Tryz.func33,Tryz.ntmps33
  go_wp2_with (go_at_call 65;refine H.out.mono ?_;rintro e w1 ⟨rfl,hb1⟩)
  go_ret2
  exact RI.none hL.out hE.out.symm hb1
def imgRs (s o:Int) (k:Nat) (q:Int):Int:=if (bits BinOp.and IntKind.i64 (s / 2 ^ k) 1 == 1)=true then bits BinOp.or IntKind.i64 o (wrap64 (2 ^ q.toNat)) else o
def imgPs (s o:Int) (k:Nat) (q:Int):Int:=bits BinOp.or IntKind.i64 o (wrap64 (bits BinOp.and IntKind.i64 (s / 2 ^ k) 1 * 2 ^ q.toNat))
def imgR (a:List Int) (s:Int) (k:Nat):Int:=(List.range k).foldl (fun o j=>imgRs s o j (a.getD j 0)) 0
def imgP (a:List Int) (s:Int) (k:Nat):Int:=(List.range k).foldl (fun o j=>imgPs s o j (a.getD j 0)) 0
theorem imgR_succ (a:List Int) (s:Int) (k:Nat):imgR a s (k+1)=imgRs s (imgR a s k) k (a.getD k 0):=by simp[imgR,List.range_succ]
theorem imgP_succ (a:List Int) (s:Int) (k:Nat):imgP a s (k+1)=imgPs s (imgP a s k) k (a.getD k 0):=by simp[imgP,List.range_succ]
theorem refImage {w:World}{u:Value}{a:List Int}(h:Ints w u a) (hG:Good a.length a) (h5:a.length≤5) (s:Int) (_h0:0≤s) :
  Calls Tryz.prog 137 #[u,.int .i64 s] w fun e w'=>e = .returned (.int .i64 (imgR a s a.length))∧Qt w w':=by
 obtain⟨aa,ac,ab,ao,rfl,ha,hc,hl⟩:=h;go_enter Tryz.func137,Tryz.ntmps137
 go_wp2;go_loopw [5,6] (fun o i wr=>∃(k:Nat) (x:Int),k≤a.length∧i = .int .i64 k∧o = .int .i64 x∧Hid (imgR a s k=x)∧Hid (Qt w wr)) (fun _ i _=>a.length - (intOf i).toNat)
 case atStart=>exact⟨0,0,by omega,rfl,rfl,rfl,Qt.refl _⟩
 case round=>
  obtain⟨k,x,hk,rfl,rfl,hg,hq⟩:=hrel;by_cases hlt:k < a.length
  ·obtain⟨g1,g2⟩:=hG k hlt;obtain rfl:=ha (by omega);have hck:=hc.qt hq.out k hlt;have e1:=qH (imgR_succ a s k);obtain⟨q,hq'⟩:∃q,a.getD k 0=q:=⟨_,rfl⟩;rw[hq'] at hck g1 g2 e1;clear hq' ha hc hG;go_wp2
   ·have ht:=‹(bits BinOp.and IntKind.i64 (s / 2 ^ k) 1 == 1)=true›;go_roundw
    case rel=>exact⟨k+1,_,by omega,by go_num,rfl,by show _=_;rw[e1.out,hg.out,imgRs,if_pos ht],hq⟩
    case measure=>simp[intOf];omega
   ·have ht:=‹(bits BinOp.and IntKind.i64 (s / 2 ^ k) 1 == 1)=false›;go_roundw
    case rel=>exact⟨k+1,_,by omega,by go_num,rfl,by show _=_;rw[e1.out,hg.out,imgRs,if_neg (by rw[ht];decide)],hq⟩
    case measure=>simp[intOf];omega
  ·obtain rfl:k=a.length:=(by omega);clear ha hc hG;go_wp2;go_ret;exact⟨ret_int hg.out.symm,hq.out⟩
def setE (a:List Int) (s:Int):Int:=if chk a ≠ 0 then chk a else if s < 0∨wrap64 (2 ^ a.length)≤s then 2 else 0
def setP (a:List Int) (s:Int):Int:=if setE a s=0 then imgP a s a.length else 0
def R2 (w:World) (x y:Int) (e:Ending) (w':World):Prop:=e = .returned (.tuple #[.int .i64 x,.int .i64 y])∧Below w.heap.size w w'
theorem R2.mk' {w w':World}{x y x' y':Int}(hx:x'=x) (hy:y'=y) (hb:Below w.heap.size w w'):R2 w x y (.returned (.tuple #[.int .i64 x',.int .i64 y'])) w':=by
 subst hx;subst hy;exact⟨rfl,hb⟩
theorem setCall {w:World}{u:Value}{a:List Int}(h:Ints w u a) (s:Int):Calls Tryz.prog 96 #[u,.int .i64 s] w (R2 w (setP a s) (setE a s)):=by
 have H:=qH (check h);by_cases hz:chk a=0
 ·obtain⟨h1,h5,hG,_⟩:=chk_good hz;rw[hz] at H;by_cases hs:s < 0
  ·have hvE:=qH (show setE a s=2 by rw[setE,if_neg (fun h=>h hz),if_pos (.inl hs)]);have hL:=qH (show setP a s=0 by rw[setP,hvE.out];rfl);obtain⟨aa,ac,ab,ao,rfl,ha,hc,hl⟩:=h;clear ha hc hz hG;go_enter Tryz.func96,Tryz.ntmps96
   go_wp2_with (go_at_call 65;refine H.out.mono ?_;rintro e w1 ⟨rfl,hq⟩)
   go_ret2
   exact R2.mk' hL.out.symm hvE.out.symm hq
  ·have hs':decide (s < 0)=false:=(by simpa using hs);by_cases hs2:wrap64 (2 ^ a.length)≤s
   ·have hvE:=qH (show setE a s=2 by rw[setE,if_neg (fun h=>h hz),if_pos (.inr hs2)]);have hL:=qH (show setP a s=0 by rw[setP,hvE.out];rfl);obtain⟨aa,ac,ab,ao,rfl,ha,hc,hl⟩:=h;clear ha hc hz hG;go_enter Tryz.func96,Tryz.ntmps96
    go_wp2_with (go_at_call 65;refine H.out.mono ?_;rintro e w1 ⟨rfl,hq⟩)
    go_ret2
    exact R2.mk' hL.out.symm hvE.out.symm hq
   ·have hvE:=qH (show setE a s=0 by rw[setE,if_neg (fun h=>h hz),if_neg (by omega)]);have hL:=qH (show setP a s=imgP a s a.length by rw[setP,if_pos hvE.out]);obtain⟨aa,ac,ab,ao,rfl,ha,hc,hl⟩:=h;clear hz;go_enter Tryz.func96,Tryz.ntmps96
    go_wp2_with (go_at_call 65;refine H.out.mono ?_;rintro e w1 ⟨rfl,hq⟩)
    go_loopw [7,26] (fun o i wr=>∃(k:Nat) (x:Int),k≤a.length∧i = .int .i64 k∧o = .int .i64 x∧Hid (imgP a s k=x)∧Hid (Below w.heap.size w wr)) (fun _ i _=>a.length - (intOf i).toNat)
    case atStart=>exact⟨0,0,by omega,rfl,rfl,rfl,hq⟩
    case round=>
     clear hq;obtain⟨k,x,hk,rfl,rfl,hg,hq⟩:=hrel;by_cases hlt:k < a.length
     ·obtain⟨g1,g2⟩:=hG k hlt;obtain rfl:=ha (by omega);have hck:=hc.keep hq.out k hlt;have e1:=qH (imgP_succ a s k);obtain⟨q,hq'⟩:∃q,a.getD k 0=q:=⟨_,rfl⟩;rw[hq'] at hck g1 g2 e1;clear hq' ha hc hG;go_wp2;go_roundw
      case rel=>exact⟨k+1,_,by omega,by go_num,rfl,by show _=_;rw[e1.out,hg.out,imgPs],hq⟩
      case measure=>simp[intOf];omega
     ·obtain rfl:k=a.length:=(by omega);clear ha hc hG;go_wp2;go_ret2
      exact R2.mk' (by rw[hL.out,hg.out]) hvE.out.symm hq.out
 ·obtain⟨E,hE⟩:=exE (chk a);have hvE:=qH (show setE a s=E by rw[setE,if_pos hz,hE]);have hL:=qH (show setP a s=0 by rw[setP,hvE.out,←hE,if_neg hz]);rw[hE] at H hz;have hz':(E != 0)=true:=by simpa using hz
  clear hz h hE;go_enter Tryz.func96,Tryz.ntmps96
  go_wp2_with (go_at_call 65;refine H.out.mono ?_;rintro e w1 ⟨rfl,hq⟩)
  go_ret2
  exact R2.mk' hL.out.symm hvE.out.symm hq
theorem vector {w:World}{u v:Value}{a b:List Int}(h:Ints w u a) (h':Ints w v b):Calls Tryz.prog 166 #[u,v] w (RI w (vecL a b) (vecE02 a b)):=by
 have H:=qH (check h);by_cases hz:chk a=0
 ·obtain⟨h1,h5,hG,_⟩:=chk_good hz;by_cases hab:a.length=b.length
  ·have hvE:=qH (show vecE02 a b=0 by rw[vecE02,if_neg (fun h=>h hz),if_neg (fun h=>h hab.symm)]);have hL:=qH (show vecL a b=movedL a b by rw[vecL,if_pos hvE.out]);rw[hz] at H;clear hz;obtain⟨aa,ac,ab,ao,rfl,ha,hca,hla⟩:=h;obtain⟨ba,bc,bb,bo,rfl,hb',hcb,hlb⟩:=h';obtain rfl:=ha (by omega);obtain rfl:=hb' (by omega);clear ha hb';have hab':((b.length:Int) != (a.length:Int))=false:=(by simp;omega);have hb5:b.length≤5:=(by omega);replace hab:=qH hab;go_enter Tryz.func166,Tryz.ntmps166
   go_wp2_with (first|(go_at_call 65;refine H.out.mono ?_;rintro e w1 ⟨rfl,hb1⟩)|(at_make;refine wpMakeI rfl _ _ rfl b.length rfl rfl (by omega) (Nat.le_refl _) ?_;intro w2 ho _ hb))
   rw[←hab.out] at ho⊢;have hb0:=btt hb1 hb;have hg1:=hb1.size;clear hb1 hb;obtain⟨g,hg⟩:=exF (w1.heap.size);rw[←hg] at ho⊢;have hgl:w.heap.size≤g:=(by omega);clear hg hg1;go_loopw [25] (fun i wr=>∃k:Nat,k≤a.length∧i = .int .i64 k∧OI wr g (.slice (some ⟨g,0,none⟩) a.length a.length) a.length (scat a b (List.replicate a.length 0) k)∧Below w.heap.size w wr) (fun i _=>a.length - (intOf i).toNat)
   case atStart=>exact⟨0,by omega,rfl,ho,hb0⟩
   case round=>
    clear ho hb0;obtain⟨k,hk,rfl,ho,hb⟩:=hrel;by_cases hlt:k < a.length
    ·obtain⟨g1,g2⟩:=hG k hlt;have hck:=hca.keep hb k hlt;have hck':=hcb.keep hb k (by have:=hab.out;omega);have e1:=qH (scat_succ a b (List.replicate a.length 0) k);obtain⟨q,hq⟩:=exE (a.getD k 0);obtain⟨y,hy⟩:=exE (b.getD k 0);rw[hq] at hck g1 g2 e1;rw[hy] at hck' e1;clear hq hy hca hcb hG;have hcq:=ho.cell (j:=q.toNat) (by omega);have hfq:=ho.free q.toNat;have hst:=ho.store q.toNat y;go_wp2;go_roundw
     case rel=>exact⟨k+1,by omega,by go_num,by rw[e1.out];exact hst.1,hb.setCell (by simpa using hgl) _⟩
     case measure=>simp[intOf];omega
    ·obtain rfl:k=a.length:=(by omega);clear hca hcb hG;go_wp2;go_ret2
     exact RI.some hL.out hvE.out ho hgl hb
  ·have hvE:=qH (show vecE02 a b=15 by rw[vecE02,if_neg (fun h=>h hz),if_pos (fun h=>hab h.symm)]);have hL:=qH (show vecL a b = [] by rw[vecL,hvE.out];rfl);rw[hz] at H;clear hz;obtain⟨aa,ac,ab,ao,rfl,ha,hca,hla⟩:=h;obtain⟨ba,bc,bb,bo,rfl,hb',hcb,hlb⟩:=h';clear ha hb' hca hcb;have hab':((b.length:Int) != (a.length:Int))=true:=(by simp;omega);go_enter Tryz.func166,Tryz.ntmps166
   go_wp2_with (first|(go_at_call 65;refine H.out.mono ?_;rintro e w1 ⟨rfl,hb1⟩))
   go_ret2
   exact RI.none hL.out hvE.out.symm hb1
 ·obtain⟨E,hE⟩:=exE (chk a);have hvE:=qH (show vecE02 a b=E by rw[vecE02,if_pos hz,hE]);have hL:=qH (show vecL a b = [] by rw[vecL,hvE.out,←hE,if_neg hz]);rw[hE] at H hz;have hz':(E != 0)=true:=by simpa using hz
  clear hz h hE;go_enter Tryz.func166,Tryz.ntmps166
  go_wp2_with (go_at_call 65;refine H.out.mono ?_;rintro e w1 ⟨rfl,hb1⟩)
  go_ret2
  exact RI.none hL.out hvE.out.symm hb1
def furF (n:Nat):Nat→List Int→List (List Int)
 | 0,b=>[b]
 | f+1,b=>(List.range n).flatMap fun(p:Nat)=>if (p:Int)∈b then [] else furF n f (b ++ [(p:Int)])
def furK (n f:Nat) (b:List Int) (k:Nat):List (List Int):=(List.range k).flatMap fun(p:Nat)=>if (p:Int)∈b then [] else furF n f (b ++ [(p:Int)])
theorem furK_succ (n f:Nat) (b:List Int) (k:Nat):furK n f b (k+1)=furK n f b k++if (k:Int)∈b then [] else furF n f (b ++ [(k:Int)]):=by
 simp[furK,List.range_succ,List.flatMap_append]
theorem furF_succ (n f:Nat) (b:List Int):furF n (f+1) b=furK n f b n:=rfl
theorem furK_le (n f B:Nat) (h:∀b,(furF n f b).length≤B) (b:List Int):∀k,(furK n f b k).length≤k * B
 | 0=>by simp[furK]
 | k+1=>by
  rw[furK_succ,List.length_append,Nat.succ_mul];have h1:=furK_le n f B h b k;have h2:(if (k:Int)∈b then [] else furF n f (b ++ [(k:Int)])).length≤B:=by split;exact Nat.zero_le _;exact h _
  omega
theorem furF_le (n:Nat):∀f b,(furF n f b).length≤n ^ f
 | 0,b=>by simp[furF]
 | f+1,b=>by rw[furF_succ,Nat.pow_succ,Nat.mul_comm];exact furK_le n f _ (furF_le n f) b n
theorem furF_small (n f:Nat) (hn:n≤5) (hf:f≤5) (b:List Int):(furF n f b).length≤3125:=by
 refine Nat.le_trans (furF_le n f b) ?_
 calc n ^ f≤5 ^ f:=Nat.pow_le_pow_left hn f
  _≤5 ^ 5:=Nat.pow_le_pow_right (by decide) hf
  _=3125:=by decide
theorem further (n:Nat) (hn:n≤5) (f:Nat):∀(b:List Int) (v:Value) (w:World),b.length+f=n→OI w 0 v b.length b→
  Calls Tryz.prog 106 #[.int .i64 n,v] w fun e w'=>∃r,e = .returned r∧OII w' w.heap.size r (furF n f b).length (furF n f b)∧Below w.heap.size w w':=by
 induction f with
 | zero=>
  intro b v w hbn hv;have hi:=hv.ints (by omega);obtain⟨a,c,bb,off,rfl,ha,hc,hl⟩:=hi;have he:((b.length:Int) == (n:Int))=true:=by simp;omega
  clear ha hc;replace hbn:=qH hbn;go_enter Tryz.func106,Tryz.ntmps106
  go_wp2;go_ret;have h1:=oneCell_slice hv;refine⟨_,rfl,?_,(Below.refl _ _).alloc (Nat.le_refl _) _⟩;refine⟨[.slice a b.length c],⟨rfl,.inr ⟨w.heap.size,1,_,rfl,Nat.le_refl _,heap_alloc_new _ _,Nat.le_refl _,by decide,rfl,rfl⟩⟩,rfl,?_,?_⟩
  ·intro x hx;rw[List.mem_singleton.1 hx];rfl
  ·intro j hj;obtain rfl:j=0:=(by simp[furF] at hj;exact hj);exact hv.keep ((Below.refl _ _).alloc (Nat.le_refl _) _)
 | succ f ih=>
  intro b v w hbn hv;have hi:=hv.ints (by omega);have hi0:=hi;obtain⟨a,c,bb,off,rfl,ha,hc,hl⟩:=hi;have he:((b.length:Int) == (n:Int))=false:=by simp;omega
  have hb5:b.length≤5:=by omega
  have hf5:f≤5:=by omega
  clear ha hc;replace hbn:=qH hbn;replace ih:=qH ih;go_enter Tryz.func106,Tryz.ntmps106
  go_wp2;go_loopw [5,6] (fun o i wr=>∃k:Nat,k≤n∧i = .int .i64 k∧OII wr w.heap.size o (furK n f b k).length (furK n f b k)∧Below w.heap.size w wr) (fun _ i _=>n - (intOf i).toNat)
  case atStart=>exact⟨0,by omega,rfl,OII.nil _ _,Below.refl _ _⟩
  case round=>
   obtain⟨k,hk,rfl,ho,hb⟩:=hrel;have hbs:=hb.size;by_cases hlt:k < n
   ·have H1:=qH (refHas02 (k:Int) (hi0.keep hb));have e1:=qH (furK_succ n f b k);have hle:=furK_le n f 3125 (fun b=>furF_small n f hn hf5 b) b k;have hle2:=furF_small n f hn hf5 (b ++ [(k:Int)]);by_cases hm:(k:Int)∈b
    ·rw[show hasB b k=true by simp[hasB,hm]] at H1;rw[if_pos hm,List.append_nil] at e1;clear hm hle hle2;go_wp2_with (go_at_call 143;refine H1.out.mono ?_;rintro e w1 ⟨rfl,hq⟩)
     go_roundw
     case rel=>exact⟨k+1,by omega,by go_num,by rw[e1.out];exact ho.keep hq.below,hb.trans (hq.belowB _)⟩
     case measure=>simp[intOf];omega
    ·rw[show hasB b k=false by simp[hasB,hm]] at H1;rw[if_neg hm] at e1;clear hm;have hlb:=qH (show(b ++ [(k:Int)]).length=b.length+1 by simp);go_wp2_with (first|(go_at_call 143;refine H1.out.mono ?_;rintro e w1 ⟨rfl,hq⟩;have hb1:=hb.trans (hq.belowB w.heap.size);replace ho:=ho.keep hq.below;have hv1:=hv.keep hb1;clear hq hb hbs H1)|(at_builtin;refine wpAppManyI rfl _ _ rfl rfl (OI.nil _ w1.heap.size) rfl hv1 (by omega) (Nat.le_refl _) ?_;intro v2 w2 hv2 _ hb2;rw[Nat.zero_add,List.nil_append] at hv2;have hs2:=hb2.size;clear hv1)|(at_builtin;refine wpAppI rfl _ _ rfl rfl hv2 rfl (by omega) hs2 ?_;intro v3 w3 hv3 _ hb4;rw[←hlb.out] at hv3;have hb24:=hb2.trans hb4;replace ho:=ho.keep hb24;have hb5:=bt hb1 hb24 hb1.size;have H2:=qH (ih.out (b ++ [(k:Int)]) v3 w3 (by have:=hbn.out;have:=hlb.out;omega) (hv3.base (Nat.zero_le _)));clear hb1 hb2 hb4 hb24 hv2 hs2)|(go_at_call 106;refine H2.out.mono ?_;rintro e w4 ⟨r4,rfl,ho4,hb6⟩;replace ho:=ho.keep hb6;have hb7:=bt hb5 hb6 hb5.size;have hb7s:=hb7.size;clear hb5 hb6 hv3 H2)|(at_builtin;refine wpAppManyS rfl _ _ rfl rfl ho rfl ho4 (by omega) hb7s ?_;intro v5 w5 ho5 hb8 _;have hb9:=hb7.trans hb8;clear hb7 hb8 ho ho4))
     go_roundw
     case rel=>exact⟨k+1,by omega,by go_num,by rw[e1.out,List.length_append];exact ho5,hb9⟩
     case measure=>simp[intOf];omega
   ·obtain rfl:k=n:=(by omega);go_wp2;go_ret;exact⟨_,rfl,ho,hb⟩
def everyL (n:Nat):List (List Int):=furF n n []
theorem every (n:Nat) (hn:n≤5) (w:World) :
  Calls Tryz.prog 59 #[.int .i64 n] w fun e w'=>∃r,e = .returned r∧OII w' w.heap.size r (everyL n).length (everyL n)∧Below w.heap.size w w':=by
 have H:=qH (further n hn n [] (.slice none 0 0) w (by simp) (OI.nil _ _));go_enter Tryz.func59,Tryz.ntmps59
 go_wp2_with (go_at_call 106;refine H.out.mono ?_;rintro e w1 ⟨r,rfl,ho,hb⟩)
 go_ret;exact⟨_,rfl,ho,hb⟩
def allL (n:Int):List (List Int):=if numE n=0 then everyL n.toNat else []
def RII (w:World) (l:List (List Int)) (E:Int) (e:Ending) (w':World):Prop:=
 ∃r,e = .returned (.tuple #[r,.int .i64 E])∧OII w' w.heap.size r l.length l∧Below w.heap.size w w'
theorem RII.none {w w':World}{l:List (List Int)}{E E':Int}(hl:l = []) (hE:E'=E) (hb:Below w.heap.size w w') :
  RII w l E (.returned (.tuple #[.slice none 0 0,.int .i64 E'])) w':=by
 subst hl;subst hE;exact⟨_,rfl,OII.nil _ _,hb⟩
theorem RII.some {w w':World}{l l':List (List Int)}{E:Int}{r:Value}{n B:Nat}(hl:l=l') (hE:E=0) (ho:OII w' B r n l') (hB:w.heap.size≤B) (hb:Below w.heap.size w w') :
  RII w l E (.returned (.tuple #[r,.int .i64 0])) w':=by
 subst hl;subst hE;obtain rfl:=ho.length;exact⟨_,rfl,ho.base hB,hb⟩
theorem und22 : Tryz.prog.underlying 25=some (.slice 3):=by kernel_rfl
theorem clone {w:World}{B n:Nat}{v:Value}{b:List Int}(h:OI w B v n b) (hn:n≤1000000) :
  Calls Tryz.prog 142 #[v] w fun e w'=>∃r,e = .returned r∧OI w' w.heap.size r n b∧Below w.heap.size w w':=by
 have hl:=h.length;rcases h.2 with⟨rfl,h0⟩|⟨g,cap,cur,rfl,_⟩
 ·subst h0;obtain rfl:b = []:=List.length_eq_zero_iff.1 hl;have hnil:=fun w:World=>Lib.run_eql_slice_nil (P:=Tryz.prog) w 25 3 none 0 0 0 0 und22;go_enter Tryz.func142,Tryz.ntmps142
  go_wp2;go_ret;exact⟨_,rfl,OI.nil _ _,Below.refl _ _⟩
 ·subst hl;have hnil:=fun w:World=>Lib.run_eql_slice_nil (P:=Tryz.prog) w 25 3 (some ⟨g,0,none⟩) b.length cap 0 0 und22;go_enter Tryz.func142,Tryz.ntmps142
  go_wp2_with (at_builtin;refine wpAppManyI (w:=w.alloc (.cells #[] 3)) (B:=w.heap.size) (xs:=[]) (n:=0) rfl _ _ rfl rfl (⟨rfl,.inr ⟨w.heap.size,0,#[],rfl,Nat.le_refl _,heap_alloc_new _ _,Nat.le_refl _,by decide,rfl,rfl⟩⟩) rfl (h.keep ((Below.refl _ _).alloc (Nat.le_refl _) _)) (by omega) (by simp) ?_;intro v2 w2 hv2 _ hb2)
  rw[Nat.zero_add,List.nil_append] at hv2;go_ret;exact⟨_,rfl,hv2,((Below.refl _ _).alloc (Nat.le_refl _) _).trans hb2⟩
theorem OII.one {w:World}{u:Value}{x:List Int}{B:Nat}(hu:OI w B u x.length x):OII (w.alloc (.cells #[u] 25)) w.heap.size (.slice (some ⟨w.heap.size,0,none⟩) 1 1) 1 [x]:=by
 refine⟨[u],⟨rfl,.inr ⟨w.heap.size,1,_,rfl,Nat.le_refl _,heap_alloc_new _ _,Nat.le_refl _,by decide,rfl,rfl⟩⟩,rfl,?_,?_⟩
 ·intro y hy;rw[List.mem_singleton.1 hy];exact oneCell_slice hu
 ·intro j hj;obtain rfl:j=0:=by omega
  exact(hu.keep ((Below.refl _ _).alloc (Nat.le_refl _) _)).base (Nat.zero_le _)
theorem allRec (n:Nat) (hn:n≤5) (f:Nat):∀(b:List Int) (v:Value) (w:World),b.length+f=n→OI w 0 v b.length b→
  Calls Tryz.prog 105 #[.int .i64 n,v] w fun e w'=>∃r,e = .returned r∧OII w' w.heap.size r (furF n f b).length (furF n f b)∧Below w.heap.size w w':=by
 induction f with
 | zero=>
  intro b v w hbn hv;have H:=qH (clone hv (by omega));have hi:=hv.ints (by omega);obtain⟨a,c,bb,off,rfl,ha,hc,hl⟩:=hi;have he:((b.length:Int) == (n:Int))=true:=by simp;omega
  clear ha hc;replace hbn:=qH hbn;go_enter Tryz.func105,Tryz.ntmps105
  go_wp2_with (go_at_call 142;refine H.out.mono ?_;rintro e w1 ⟨r,rfl,ho,hb⟩;obtain⟨a1,c1,rfl⟩:=ho.shape)
  go_ret;exact⟨_,rfl,(OII.one ho).base hb.size,hb.alloc hb.size _⟩
 | succ f ih=>
  intro b v w hbn hv;have hi:=hv.ints (by omega);have hi0:=hi;obtain⟨a,c,bb,off,rfl,ha,hc,hl⟩:=hi;have he:((b.length:Int) == (n:Int))=false:=by simp;omega
  have hb5:b.length≤5:=by omega
  have hf5:f≤5:=by omega
  clear ha hc;replace hbn:=qH hbn;replace ih:=qH ih;go_enter Tryz.func105,Tryz.ntmps105
  go_wp2;go_loopw [5,15] (fun o i wr=>∃k:Nat,k≤n∧i = .int .i64 k∧OII wr w.heap.size o (furK n f b k).length (furK n f b k)∧Below w.heap.size w wr) (fun _ i _=>n - (intOf i).toNat)
  case atStart=>exact⟨0,by omega,rfl,OII.nil _ _,Below.refl _ _⟩
  case round=>
   obtain⟨k,hk,rfl,ho,hb⟩:=hrel;have hbs:=hb.size;by_cases hlt:k < n
   ·have H1:=qH (slContains (k:Int) (hi0.keep hb));have e1:=qH (furK_succ n f b k);have hle:=furK_le n f 3125 (fun b=>furF_small n f hn hf5 b) b k;have hle2:=furF_small n f hn hf5 (b ++ [(k:Int)]);by_cases hm:(k:Int)∈b
    ·rw[show hasB b k=true by simp[hasB,hm]] at H1;rw[if_pos hm,List.append_nil] at e1;clear hm hle hle2;go_wp2_with (go_at_call 28;refine H1.out.mono ?_;rintro e w1 ⟨rfl,hq⟩)
     go_roundw
     case rel=>exact⟨k+1,by omega,by go_num,by rw[e1.out];exact ho.keep hq.below,hb.trans (hq.belowB _)⟩
     case measure=>simp[intOf];omega
    ·rw[show hasB b k=false by simp[hasB,hm]] at H1;rw[if_neg hm] at e1;clear hm;have hlb:=qH (show(b ++ [(k:Int)]).length=b.length+1 by simp);go_wp2_with (first|(go_at_call 28;refine H1.out.mono ?_;rintro e w1 ⟨rfl,hq⟩;have hb1:=hb.trans (hq.belowB w.heap.size);replace ho:=ho.keep hq.below;have HC:=qH (clone (hv.keep hb1) (by omega));clear hq hb hbs H1)|(go_at_call 142;refine HC.out.mono ?_;rintro e w2 ⟨v2,rfl,hv2,hb2⟩;have hs2:=hb2.size;clear HC)|(at_builtin;refine wpAppI rfl _ _ rfl rfl hv2 rfl (by omega) hs2 ?_;intro v3 w3 hv3 _ hb4;rw[←hlb.out] at hv3;have hb24:=hb2.trans hb4;replace ho:=ho.keep hb24;have hb5:=bt hb1 hb24 hb1.size;have H2:=qH (ih.out (b ++ [(k:Int)]) v3 w3 (by have:=hbn.out;have:=hlb.out;omega) (hv3.base (Nat.zero_le _)));clear hb1 hb2 hb4 hb24 hv2 hs2)|(go_at_call 105;refine H2.out.mono ?_;rintro e w4 ⟨r4,rfl,ho4,hb6⟩;replace ho:=ho.keep hb6;have hb7:=bt hb5 hb6 hb5.size;have hb7s:=hb7.size;clear hb5 hb6 hv3 H2)|(at_builtin;refine wpAppManyS rfl _ _ rfl rfl ho rfl ho4 (by omega) hb7s ?_;intro v5 w5 ho5 hb8 _;have hb9:=hb7.trans hb8;clear hb7 hb8 ho ho4))
     go_roundw
     case rel=>exact⟨k+1,by omega,by go_num,by rw[e1.out,List.length_append];exact ho5,hb9⟩
     case measure=>simp[intOf];omega
   ·obtain rfl:k=n:=(by omega);go_wp2;go_ret;exact⟨_,rfl,ho,hb⟩
theorem allCall (n:Int) (w:World):Calls Tryz.prog 56 #[.int .i64 n] w (RII w (allL n) (numE n)):=by
 have H:=qH (number n w);by_cases hz:numE n=0
 ·obtain⟨k,rfl⟩:∃k:Nat,n=k:=⟨n.toNat,by unfold numE at hz;split at hz<;>omega⟩;have hk:k≤5:=by unfold numE at hz;split at hz<;>omega
  have hL:=qH (show allL k=everyL k by rw[allL,if_pos hz];rfl);rw[hz] at H;replace hz:=qH hz;have H2:=qH (allRec k hk k [] (.slice none 0 0) w (by simp) (OI.nil _ _));go_enter Tryz.func56,Tryz.ntmps56
  go_wp2_with (first|(go_at_call 64;refine H.out.mono ?_;rintro e w1 ⟨rfl,rfl⟩)|(go_at_call 105;refine H2.out.mono ?_;rintro e w2 ⟨r,rfl,ho,hb⟩))
  go_ret2
  exact RII.some hL.out hz.out ho (Nat.le_refl _) hb
 ·obtain⟨E,hE⟩:=exE (numE n);have hL:=qH (show allL n = [] by rw[allL,if_neg hz]);rw[hE] at H hz;replace hE:=qH hE;have hz':(E != 0)=true:=by simpa using hz
  clear hz;go_enter Tryz.func56,Tryz.ntmps56
  go_wp2_with fail
  refine H.out.mono ?_;rintro e w1 ⟨rfl,rfl⟩;go_wp2;go_ret2
  exact RII.none hL.out hE.out.symm (Below.refl _ _)
end Go.Proofs.YtmikofeildnpdaaGreat
namespace Go.Proofs.YtmikofeildnpdaaGreat
def IsP (n:Nat) (x:List Int):Prop:=x.length=n∧(∀e∈x,0≤e∧e < (n:Int))∧x.Nodup
theorem IsP.good {n:Nat}{x:List Int}(h:IsP n x):Good n x:=fun j hj=>by rw[getD_eq hj];exact h.2.1 _ (List.getElem_mem hj)
theorem mem_furF (n:Nat):∀(f:Nat) (b x:List Int),x∈furF n f b↔∃s,x=b++s∧s.length=f∧(∀e∈s,0≤e∧e < (n:Int))∧s.Nodup∧∀e∈s,e ∉ b
 | 0,b,x=>by
  simp only[furF,List.mem_singleton];constructor
  ·rintro rfl;exact⟨[],by simp⟩
  ·rintro⟨s,rfl,hs,_⟩;rw[List.length_eq_zero_iff.1 hs];simp
 | f+1,b,x=>by
  simp only[furF,List.mem_flatMap,List.mem_range];constructor
  ·rintro⟨p,hp,hx⟩;by_cases hb:(p:Int)∈b
   ·rw[if_pos hb] at hx;cases hx
   ·rw[if_neg hb,mem_furF n f] at hx;obtain⟨s,rfl,h1,h2,h3,h4⟩:=hx;refine⟨(p:Int)::s,by simp,by simp[h1],?_,?_,?_⟩
    ·intro e he;rcases List.mem_cons.1 he with rfl|he
     ·omega
     ·exact h2 e he
    ·rw[List.nodup_cons];exact⟨fun hm=>h4 _ hm (by simp),h3⟩
    ·intro e he;rcases List.mem_cons.1 he with rfl|he
     ·exact hb
     ·exact fun h=>h4 e he (by simp[h])
  ·rintro⟨s,rfl,h1,h2,h3,h4⟩;match s,h1 with
   | p::s,h1=>
    obtain⟨g1,g2⟩:=h2 p (by simp);rw[List.nodup_cons] at h3;refine⟨p.toNat,by omega,?_⟩;have hp:((p.toNat:Nat):Int)=p:=(by omega);rw[hp,if_neg (h4 p (by simp)),mem_furF n f];refine⟨s,by simp,by simpa using h1,fun e he=>h2 e (by simp[he]),h3.2,fun e he=>?_⟩;rw[List.mem_append,List.mem_singleton];rintro(h|rfl)
    ·exact h4 e (by simp[he]) h
    ·exact h3.1 he
theorem mem_everyL {n:Nat}{x:List Int}:x∈everyL n↔IsP n x:=by
 rw[everyL,mem_furF];constructor
 ·rintro⟨s,rfl,h1,h2,h3,_⟩;exact⟨by simpa using h1,by simpa using h2,by simpa using h3⟩
 ·rintro⟨h1,h2,h3⟩;exact⟨x,by simp,h1,h2,h3,by simp⟩
theorem chkGo_ok {n:Nat}:∀ {r seen:List Int},(∀x∈r,0≤x∧x < (n:Int))→(∀x∈r,x ∉ seen)→r.Nodup→chkGo n seen r=0
 | [],_,_,_,_=>rfl
 | x::r,seen,h1,h2,h3=>by
  have:=h1 x (by simp)
  rw[List.nodup_cons] at h3;rw[chkGo,if_neg (by omega),if_neg (h2 x (by simp))];refine chkGo_ok (fun y hy=>h1 y (by simp[hy])) (fun y hy=>?_) h3.2;rw[List.mem_append,List.mem_singleton];rintro(h|rfl)
  ·exact h2 y (by simp[hy]) h
  ·exact h3.1 hy
theorem chk_iff {x:List Int}:chk x=0↔(1≤x.length∧x.length≤5)∧IsP x.length x:=by
 constructor
 ·intro h;obtain⟨h1,h5,hG,hN⟩:=chk_good h;refine⟨⟨h1,h5⟩,rfl,fun e he=>?_,hN⟩;obtain⟨j,hj,rfl⟩:=List.mem_iff_getElem.1 he;have:=hG j hj
  rwa [getD_eq hj] at this
 ·rintro⟨⟨h1,h5⟩,_,h2,h3⟩;rw[chk,if_neg (by omega)];exact chkGo_ok h2 (by simp) h3
theorem nodup_map {f:Int→Int}:∀ {l:List Int},l.Nodup→(∀x∈l,∀y∈l,f x=f y→x=y)→(l.map f).Nodup
 | [],_,_=>by simp
 | a::l,h,hf=>by
  rw[List.nodup_cons] at h;rw[List.map_cons,List.nodup_cons];refine⟨?_,nodup_map h.2 fun x hx y hy=>hf x (by simp[hx]) y (by simp[hy])⟩;intro hm;obtain⟨y,hy,e⟩:=List.mem_map.1 hm;have:=hf y (by simp[hy]) a (by simp) e
  subst this;exact h.1 hy
theorem nodup_getD {l:List Int}(h:l.Nodup) {i j:Nat}(hi:i < l.length) (hj:j < l.length) (e:l.getD i 0=l.getD j 0):i=j:=by
 rw[getD_eq hi,getD_eq hj] at e;have hp:=List.pairwise_iff_getElem.1 h;rcases Nat.lt_trichotomy i j with h1|h1|h1
 ·exact absurd e (hp i j hi hj h1)
 ·exact h1
 ·exact absurd e.symm (hp j i hj hi h1)
theorem IsP.times {n:Nat}{a b:List Int}(ha:IsP n a) (hb:IsP n b):IsP n (timesL a b):=by
 refine⟨by rw[timesL_length];exact hb.1,?_,?_⟩
 ·intro e he;obtain⟨q,hq,rfl⟩:=List.mem_map.1 he;have:=hb.2.1 q hq
  exact ha.good q.toNat (by rw[ha.1];omega)
 ·refine nodup_map hb.2.2 fun x hx y hy e=>?_;have h1:=hb.2.1 x hx;have h2:=hb.2.1 y hy;have:=nodup_getD ha.2.2 (by rw[ha.1];omega) (by rw[ha.1];omega) e
  omega
theorem IsP.one (n:Nat):IsP n (oneL n):=by
 refine⟨oneL_length n,?_,?_⟩
 ·intro e he;obtain⟨q,hq,rfl⟩:=List.mem_map.1 he;have:=List.mem_range.1 hq
  show 0≤(q:Int)∧(q:Int) < n;omega
 ·refine List.pairwise_iff_getElem.2 fun i j hi hj hij=>?_;rw[←getD_eq hi 0,←getD_eq hj 0];rw[oneL_length] at hi hj;rw[oneL_getD hi,oneL_getD hj];omega
theorem nodup_le {α:Type} [DecidableEq α]:∀ {l m:List α},l.Nodup→(∀x∈l,x∈m)→l.length≤m.length
 | [],_,_,_=>by simp
 | a::l,m,h,hs=>by
  rw[List.nodup_cons] at h;have ha:=hs a (by simp)
  have h1:l.length≤(m.erase a).length:=nodup_le h.2 fun x hx=>by
   have hne:x ≠ a:=(by rintro rfl;exact h.1 hx);rw[List.mem_erase_of_ne hne];exact hs x (by simp[hx])
  rw[List.length_erase_of_mem ha] at h1;have:0 < m.length:=List.length_pos_of_mem ha
  simp only[List.length_cons];omega
def clIn (y:List Int):List (List Int)→List (List Int)→List (List Int)
 | [],g=>g
 | a::l,g=>clIn y l (if timesL a y∈g then g else g ++ [timesL a y])
def clGo (l:List (List Int)):Nat→Nat→List (List Int)→Option (List (List Int))
 | 0,_,_=>none
 | f+1,i,g=>if i < g.length then clGo l f (i+1) (clIn (g.getD i []) l g) else some g
def InvG (n:Nat) (g:List (List Int)):Prop:=g.Nodup∧∀y∈g,IsP n y
theorem InvG.le {n:Nat}(hn:n≤5) {g:List (List Int)}(h:InvG n g):g.length≤3125:=
 Nat.le_trans (nodup_le h.1 fun y hy=>mem_everyL.2 (h.2 y hy)) (furF_small n n hn hn [])
theorem InvG.step {n:Nat}{g:List (List Int)}{a y:List Int}(h:InvG n g) (ha:IsP n a) (hy:IsP n y):InvG n (if timesL a y∈g then g else g ++ [timesL a y]):=by
 split
 ·exact h
 ·rename_i hm
  refine⟨?_,?_⟩
  ·rw[List.nodup_append];refine⟨h.1,by simp,?_⟩;intro x hx z hz;rw[List.mem_singleton.1 hz];rintro rfl;exact hm hx
  ·intro z hz;rcases List.mem_append.1 hz with hz|hz
   ·exact h.2 z hz
   ·rw[List.mem_singleton.1 hz];exact ha.times hy
theorem InvG.inner {n:Nat}{y:List Int}(hy:IsP n y):∀ {l g:List (List Int)},InvG n g→(∀a∈l,IsP n a)→InvG n (clIn y l g)
 | [],_,h,_=>h
 | a::l,g,h,hl=>by
  rw[clIn];exact InvG.inner hy (h.step (hl a (by simp)) hy) fun b hb=>hl b (by simp[hb])
theorem clIn_le (y:List Int):∀(l g:List (List Int)),g.length≤(clIn y l g).length
 | [],_=>Nat.le_refl _
 | a::l,g=>by
  rw[clIn];refine Nat.le_trans ?_ (clIn_le y l _);split
  ·exact Nat.le_refl _
  ·simp
theorem clGo_total {n:Nat}(hn:n≤5) {l:List (List Int)}(hl:∀a∈l,IsP n a):∀(f i:Nat) (g:List (List Int)),InvG n g→3126≤f+i→i≤g.length→∃G,clGo l f i g=some G∧InvG n G
 | 0,i,g,h,hf,hi=>by have:=h.le hn;omega
 | f+1,i,g,h,hf,hi=>by
  rw[clGo];by_cases hlt:i < g.length
  ·rw[if_pos hlt];refine clGo_total hn hl f (i+1) _ (InvG.inner ?_ h hl) (by omega) (Nat.le_trans hlt (clIn_le _ _ _));rw[getD_eq hlt];exact h.2 _ (List.getElem_mem hlt)
  ·rw[if_neg hlt];exact⟨g,rfl,h⟩
theorem clGo_start {n:Nat}(hn:n≤5) {l:List (List Int)}(hl:∀a∈l,IsP n a):∃G,clGo l 3126 0 [oneL n]=some G∧InvG n G:=
 clGo_total hn hl 3126 0 [oneL n] ⟨by simp,fun y hy=>by rw[List.mem_singleton.1 hy];exact IsP.one n⟩ (by omega) (by simp)
def permsAll:List (List Int):=[1,2,3,4,5].flatMap everyL
theorem mem_permsAll {a:List Int}(h:chk a=0):a∈permsAll:=by
 obtain⟨⟨h1,h5⟩,hP⟩:=chk_iff.1 h;rw[permsAll,List.mem_flatMap];exact⟨a.length,by simp;omega,mem_everyL.2 hP⟩
theorem perm_all {p:List Int→Bool}(h:permsAll.all p=true) {a:List Int}(ha:chk a=0):p a=true:=List.all_eq_true.1 h a (mem_permsAll ha)
theorem img_same:permsAll.all (fun a=>(List.range 32).all (fun s=>decide (imgR a s a.length=imgP a s a.length)))=true:=by decide +kernel
end Go.Proofs.YtmikofeildnpdaaGreat
namespace Go.Proofs.YtmikofeildnpdaaGreat
open Go.RowKit
theorem OII.open' {w:World}{B:Nat}{v:Value}{n:Nat}{xss:List (List Int)}(h:OII w B v n xss) :
  ∃a c b,v = .slice a n c∧(0 < n→a=some ⟨b,0,none⟩)∧∀j,j < n→∃u,w.cell? ⟨b,j,none⟩=some u∧OI w 0 u (xss.getD j []).length (xss.getD j []):=by
 obtain⟨vs,h1,h2,_,h3⟩:=h;have hvl:vs.length=n:=by have:=h1.1;omega
 rcases h1.2 with⟨rfl,rfl⟩|⟨g,cap,cur,rfl,_,h4,h5,h6,h7,h8⟩
 ·exact⟨none,0,0,rfl,by simp,by simp⟩
 ·refine⟨_,cap,g,rfl,fun _=>rfl,fun j hj=>⟨vs.getD j undef,?_,h3 j hj⟩⟩;rw[cell_of_row w g j cur 25 (0,0) h4];have:(cur.toList.take (n * 1))[j]? = some (vs.getD j undef):=by rw[h8];simp[show j < vs.length by omega]
  rw[List.getElem?_take,if_pos (by omega)] at this;simpa using this
theorem clIn_step {y:List Int}{l g:List (List Int)}{k:Nat}(h:k < l.length) {a:List Int}(ha:l.getD k []=a) :
  clIn y (l.drop k) g=clIn y (l.drop (k+1)) (if timesL a y∈g then g else g ++ [timesL a y]):=by
 rw[drop_cons h [],clIn,ha]
theorem clIn_end {y:List Int}{l g:List (List Int)}{k:Nat}(h : ¬k < l.length):clIn y (l.drop k) g=g:=by
 rw[List.drop_eq_nil_of_le (by omega),clIn]
theorem IsP.len5 {n:Nat}(hn:n≤5) {g:List (List Int)}(h:InvG n g):∀x∈g,x.length≤17592186044416:=fun x hx=>by have:=(h.2 x hx).1;omega
def closL (n:Nat) (l:List (List Int)):List (List Int):=(clGo l 3126 0 [oneL n]).getD []
def genR (n:Int) (l:List (List Int)):List (List Int):=if chkList n l=0 then (everyL n.toNat).filter (fun x=>decide (x∈closL n.toNat l)) else []
theorem chkAll_ok {n:Int}:∀ {l:List (List Int)},chkAll n l=0→∀a∈l,chk a=0∧(a.length:Int)=n
 | [],_=>by simp
 | a::r,h=>by
  rw[chkAll] at h;by_cases h1:chk a=0
  ·rw[if_neg (fun h=>h h1)] at h;by_cases h2:(a.length:Int)=n
   ·rw[if_neg (fun h=>h h2)] at h;intro b hb;rcases List.mem_cons.1 hb with rfl|hb
    ·exact⟨h1,h2⟩
    ·exact chkAll_ok h b hb
   ·rw[if_pos h2] at h;cases h
  ·rw[if_pos h1] at h;exact absurd h h1
theorem chkList_ok {n:Int}{l:List (List Int)}(h:chkList n l=0):(1≤n∧n≤5)∧l.length≤1024∧∀a∈l,IsP n.toNat a:=by
 unfold chkList at h;by_cases h1:n < 1∨5 < n
 ·rw[if_pos h1] at h;cases h
 ·rw[if_neg h1] at h;by_cases h2:1024 < l.length
  ·rw[if_pos h2] at h;cases h
  ·rw[if_neg h2] at h;refine⟨by omega,by omega,fun a ha=>?_⟩;obtain⟨k1,k2⟩:=chkAll_ok h a ha;have:=(chk_iff.1 k1).2
   rwa [show a.length=n.toNat by omega] at this
def RS (w:World) (x:ByteArray) (y:Int) (e:Ending) (w':World):Prop:=e = .returned (.tuple #[.string x,.int .i64 y])∧Below w.heap.size w w'
theorem und89 : Tryz.prog.underlying 83=some (.array 5 3):=by kernel_rfl
theorem addr_add (b o j:Nat):(⟨b,o,none⟩:Addr).add j=⟨b,o+j,none⟩:=by
 cases j<;>simp[Addr.add]
def keyA (a:List Int):Array Value:=#[.int .i64 (a.getD 0 0),.int .i64 (a.getD 1 0),.int .i64 (a.getD 2 0),.int .i64 (a.getD 3 0),.int .i64 (a.getD 4 0)]
def zer5:Array Value:=#[.int .i64 0,.int .i64 0,.int .i64 0,.int .i64 0,.int .i64 0]
theorem keyA_pad:∀ {a:List Int},a.length≤5→(zer5.toList.take 0++a.map (Value.int .i64)++zer5.toList.drop (0+(a.map (Value.int .i64)).length)).toArray=keyA a
 | [],_=>rfl
 | [_],_=>rfl
 | [_,_],_=>rfl
 | [_,_,_],_=>rfl
 | [_,_,_,_],_=>rfl
 | [_,_,_,_,_],_=>rfl
 | _::_::_::_::_::_::_,h=>by simp at h
theorem setRow_last (w:World) (cur cs:Array Value) (t:TypeId):(w.alloc (.cells cur t)).setRow w.heap.size cs=w.alloc (.cells cs t):=by
 unfold World.setRow World.alloc;congr 1
 apply Array.ext_getElem?
 intro i;simp only[Array.getElem?_modify,Array.getElem?_push];by_cases hi:w.heap.size=i
 ·subst hi;simp
 ·simp[hi,show ¬i=w.heap.size from fun e=>hi e.symm]
theorem copyKey {w:World}{a:List Int}{ab off ac:Nat}(hc:CI w ab off a) (h5:a.length≤5) :
  (Builtin.copy_ #[25,25] 3 #[.slice (some ⟨w.heap.size,0,none⟩) 5 5,.slice (some ⟨ab,off,none⟩) a.length ac]).run Tryz.prog (w.alloc (.cells zer5 83)) = .ok (.int .i64 a.length) (w.alloc (.cells (keyA a) 83)):=by
 have hl:(a.map (Value.int .i64)).length=a.length:=List.length_map ..;have:=run_copy_row (P:=Tryz.prog) (w.alloc (.cells zer5 83)) 25 25 3 3 w.heap.size 0 5 5 ⟨ab,off,none⟩ a.length ac zer5 83 (a.map (Value.int .i64)) (by kernel_rfl) (by kernel_rfl) (World.alloc_heap_new w _) (by rw[hl];simp[Nat.min_def];omega) ?_ (by rw[hl];show 0+a.length≤5;omega) ?_
 ·rw[this,keyA_pad h5,setRow_last,hl];rfl
 ·intro j v hj;rw[List.getElem?_map] at hj;cases hq:a[j]? with
  | none=>rw[hq] at hj;cases hj
  | some x=>
   rw[hq] at hj;simp only[Option.map_some,Option.some.injEq] at hj;subst hj;have hjl:j < a.length:=(List.getElem?_eq_some_iff.1 hq).1;have:=(hc.keep ((Below.refl _ w).alloc (Nat.le_refl _) (.cells zer5 83))) j hjl
   rw[List.getD_eq_getElem?_getD,hq] at this;rw[addr_add];exact this
 ·intro v hv;obtain⟨x,_,rfl⟩:=List.mem_map.1 hv;rfl
theorem keyCall {w:World}{u:Value}{a:List Int}(h:Ints w u a) (h1:1≤a.length) (h5:a.length≤5):Calls Tryz.prog 67 #[u] w fun e w'=>e = .returned (.agg (keyA a))∧Below w.heap.size w w':=by
 obtain⟨aa,ac,ab,off,rfl,ha,hc,hl⟩:=h;obtain rfl:=ha h1;have hcA:CI (w.alloc (.cells zer5 83)) ab off a:=hc.keep ((Below.refl _ w).alloc (Nat.le_refl _) _);have hcp:=copyKey (ac:=ac) hcA h5;rw[World.size_alloc] at hcp;unfold zer5 keyA at hcp;unfold keyA;obtain⟨x0,hx0⟩:=exE (a.getD 0 0);obtain⟨x1,hx1⟩:=exE (a.getD 1 0);obtain⟨x2,hx2⟩:=exE (a.getD 2 0);obtain⟨x3,hx3⟩:=exE (a.getD 3 0);obtain⟨x4,hx4⟩:=exE (a.getD 4 0);rw[hx0,hx1,hx2,hx3,hx4] at hcp⊢;clear hx0 hx1 hx2 hx3 hx4 hcA hc ha;go_enter Tryz.func67,Tryz.ntmps67
 go_wp2;have hb:Below w.heap.size w ((w.alloc (.cells #[.int .i64 x0,.int .i64 x1,.int .i64 x2,.int .i64 x3,.int .i64 x4] 83)).alloc (.cells #[.int .i64 x0,.int .i64 x1,.int .i64 x2,.int .i64 x3,.int .i64 x4] 83)):=((Below.refl _ w).alloc (Nat.le_refl _) _).alloc (by simp) _;have hg:((w.alloc (.cells #[.int .i64 x0,.int .i64 x1,.int .i64 x2,.int .i64 x3,.int .i64 x4] 83)).alloc (.cells #[.int .i64 x0,.int .i64 x1,.int .i64 x2,.int .i64 x3,.int .i64 x4] 83)).heap[w.heap.size]? = _:=(Below.heap_alloc _ _ _ (by simp)).trans (World.alloc_heap_new w _);exact⟨by simp,_,results_cell_row (p:=2) (ty:=83) rfl _ _ w.heap.size 83 _ _ _ rfl hg und89 rfl (by kernel_rfl),rfl,hb⟩
end Go.Proofs.YtmikofeildnpdaaGreat
namespace Go.Proofs.YtmikofeildnpdaaGreat
open Go.RowKit Go.ChangeMaps Go.MapKept Go.WideMaps
theorem arr89:ArrKey Tryz.prog 83 3 5:=⟨und89,by kernel_rfl,by kernel_rfl,by kernel_rfl⟩
theorem law89:Maps.Keyed Tryz.prog 83:=Maps.Keyed.of_law arr89.law
theorem und91 : Tryz.prog.underlying 113=some (.map 83 4):=by kernel_rfl
theorem und3 : Tryz.prog.underlying 3=some (.int .i64):=by kernel_rfl
theorem cells3 : Tryz.prog.cellsOf 3=1:=by kernel_rfl
def SmallN (a:List Int):Prop:=∀k,0≤a.getD k 0∧a.getD k 0 < 10
theorem wf_small {x:Int}(h:0≤x∧x < 10):(Lit.int .i64 x).wf=true:=WalkArith.wf_i64 (by omega)
theorem lit1 {x:Int}(m:Nat) (h:0≤x∧x < 10) : Tryz.prog.keyLits (m+1) 3 [.int .i64 x]=some [.int .i64 x]:=by
 unfold Program.keyLits;simp only[und3];rw[if_pos ⟨trivial,wf_small h⟩]
theorem typesSize1:∃m,Tryz.prog.types.size=m+1:=by obtain⟨m,hm⟩:=typesSize;exact⟨m+2,hm⟩
theorem hasKey {a:List Int}(h:SmallN a):∃l,keyOf Tryz.prog 83 (.agg (keyA a))=some l:=by
 have hkt:=arr89.keyType typesSize1;obtain⟨m0,hm0⟩:=typesSize1;refine⟨.string (keyBytes [.int .i64 (a.getD 0 0),.int .i64 (a.getD 1 0),.int .i64 (a.getD 2 0),.int .i64 (a.getD 3 0),.int .i64 (a.getD 4 0)]),?_⟩;unfold keyOf;simp only[und89];rw[if_pos (by simp[hkt,Value.formed,arr89.size,keyA]),hm0];unfold Program.keyLits;simp only[und89,Value.cells];rw[if_pos (by rw[arr89.size];rfl)]
 have hl:((List.range 5).mapM fun i=>Tryz.prog.keyLits (m0+1) 3 (((keyA a).toList.drop (i * Tryz.prog.cellsOf 3)).take (Tryz.prog.cellsOf 3)))=some [[.int .i64 (a.getD 0 0)],[.int .i64 (a.getD 1 0)],[.int .i64 (a.getD 2 0)],[.int .i64 (a.getD 3 0)],[.int .i64 (a.getD 4 0)]]:=by
  rw[cells3,show List.range 5 = [0,1,2,3,4] from rfl];simp only[List.mapM_cons,List.mapM_nil,keyA,List.drop,List.take,Nat.mul_one];rw[lit1 m0 (h 0),lit1 m0 (h 1),lit1 m0 (h 2),lit1 m0 (h 3),lit1 m0 (h 4)];rfl
 rw[hl];rfl
theorem keyA_inj {a b:List Int}{n:Nat}(ha:a.length=n) (hb:b.length=n) (h5:n≤5) (h:keyA a=keyA b):a=b:=by
 simp only[keyA,Array.mk.injEq,List.cons.injEq,Value.int.injEq,true_and,and_true] at h;obtain⟨h0,h1,h2,h3,h4⟩:=h;refine List.ext_getElem (by omega) fun k hk hk2=>?_
 have:a.getD k 0=b.getD k 0:=by
  have:k=0∨k=1∨k=2∨k=3∨k=4:=by omega
  rcases this with rfl|rfl|rfl|rfl|rfl<;>assumption
 simpa [List.getD_eq_getElem?_getD,List.getElem?_eq_getElem hk,List.getElem?_eq_getElem hk2] using this
def MG (w:World) (b:Nat) (g:List (List Int)):Prop:=
 ∃es clock,w.heap[b]? = some (.map es clock)∧es.toList.map (·.key)=g.map (fun x=>Value.agg (keyA x))∧∀e∈es.toList,e.val = .bool true
theorem MG.keys {g:List (List Int)}(hg:∀y∈g,SmallN y) {l:List MapEntry}(h:l.map (·.key)=g.map (fun x=>Value.agg (keyA x))):∀e∈l,∃k,keyOf Tryz.prog 83 e.key=some k:=by
 intro e he;have:e.key∈g.map (fun x=>Value.agg (keyA x)):=h▸List.mem_map_of_mem he
 obtain⟨y,hy,hye⟩:=List.mem_map.1 this;rw[←hye];exact hasKey (hg y hy)
theorem MG.find {w:World}{g:List (List Int)}{x:List Int}(hg:∀y∈g,SmallN y) (hx:SmallN x) (hi:∀y∈g,keyA y=keyA x→y=x) {l:List MapEntry}(h:l.map (·.key)=g.map (fun x=>Value.agg (keyA x))) :
  (x ∉ g∧(Instr.findKey 83 (.agg (keyA x)) l).run Tryz.prog w = .ok none w)∨(x∈g∧∃j e,(Instr.findKey 83 (.agg (keyA x)) l).run Tryz.prog w = .ok (some (j,e.val)) w∧e∈l):=by
 obtain⟨lx,hlx⟩:=hasKey hx;rcases law89.find w hlx l (MG.keys hg h) with⟨h1,h2⟩|⟨j,e,h1,h2,h3⟩
 ·refine .inl ⟨fun hm=>?_,h1⟩;have:Value.agg (keyA x)∈l.map (·.key):=h▸List.mem_map_of_mem (f:=fun x=>Value.agg (keyA x)) hm
  obtain⟨e,he,hek⟩:=List.mem_map.1 this;exact h2 e he hek
 ·have hel:e∈l:=List.mem_of_getElem? h2;refine .inr ⟨?_,j,e,h1,hel⟩;have:e.key∈g.map (fun x=>Value.agg (keyA x)):=h▸List.mem_map_of_mem hel
  obtain⟨y,hy,hye⟩:=List.mem_map.1 this;rw[h3] at hye;rw[←hi y hy (by injection hye)];exact hy
theorem MG.has {w:World}{b:Nat}{g:List (List Int)}{x:List Int}(h:MG w b g) (hg:∀y∈g,SmallN y) (hx:SmallN x) (hi:∀y∈g,keyA y=keyA x→y=x) :
  (Instr.lookup 113 (.map (some b)) (.agg (keyA x)) false).run Tryz.prog w = .ok (.bool (decide (x∈g))) w:=by
 obtain⟨es,clock,hb,hk,hv⟩:=h;obtain⟨lx,hlx⟩:=hasKey hx;have hc:=fun e=>law89.check w e hlx;have hz:(zeroValue 4).run Tryz.prog w = .ok (.bool false) w:=by kernel_rfl
 rcases MG.find (w:=w) hg hx hi hk with⟨h1,h2⟩|⟨h1,j,e,h2,h3⟩
 ·simp[Instr.lookup,run_underlying und91,MapKept.run_getObj_map hb,hc,h2,Result.andThen,hz,h1]
 ·simp[Instr.lookup,run_underlying und91,MapKept.run_getObj_map hb,hc,h2,Result.andThen,hv e h3,h1]
theorem MG.put {w:World}{b:Nat}{g:List (List Int)}{x:List Int}(h:MG w b g) (hg:∀y∈g,SmallN y) (hx:SmallN x) (hi:∀y∈g,keyA y=keyA x→y=x) (hn:x ∉ g) :
  ∃o,(Instr.mapUpdate 113 (.map (some b)) (.agg (keyA x)) (.bool true)).run Tryz.prog w = .ok () (setBlock w b o)∧MG (setBlock w b o) b (g ++ [x]):=by
 obtain⟨es,clock,hb,hk,hv⟩:=h;obtain⟨lx,hlx⟩:=hasKey hx;have hc:=law89.check w false hlx;rcases MG.find (w:=w) hg hx hi hk with⟨h1,h2⟩|⟨h1,_⟩
 ·refine⟨.map (es.push ⟨.agg (keyA x),.bool true,clock⟩) (clock+1),?_,_,_,heap_setBlock_same hb _,?_,?_⟩
  ·simp[Instr.mapUpdate,run_underlying und91,MapKept.run_getObj_map hb,hc,h2,MapKept.run_setObj_map _ hb,Result.andThen,setBlock]
  ·rw[Array.toList_push,List.map_append,hk,List.map_append];rfl
  ·intro e he;rw[Array.toList_push,List.mem_append] at he;rcases he with he|he
   ·exact hv e he
   ·rw[List.mem_singleton.1 he]
 ·exact absurd h1 hn
theorem MG.made (w:World):MG (w.alloc (.map #[] 0)) w.heap.size []:=⟨#[],0,World.alloc_heap_new w _,rfl,by simp⟩
open Go.RowKit Go.ChangeMaps Go.MapKept Go.WideMaps
theorem MG.keep {w w':World}{b:Nat}{g:List (List Int)}(h:MG w b g) (hb:Below w.heap.size w w'):MG w' b g:=by
 obtain⟨es,c,h1,h2⟩:=h;exact⟨es,c,(hb.block b (Array.getElem?_eq_some_iff.1 h1).1).trans h1,h2⟩
theorem ownsRow_map {w:World}{B b:Nat}{E:TypeId}{v:Value}{n:Nat}{xs:List Value}{g:List (List Int)}(h:w.ownsRow B E 1 v n xs) (hm:MG w b g) (o:Obj):(setBlock w b o).ownsRow B E 1 v n xs:=by
 refine⟨h.1,?_⟩;rcases h.2 with h'|⟨k,cap,cur,h1,h2,h3,h4⟩
 ·exact .inl h'
 ·refine .inr ⟨k,cap,cur,h1,h2,?_,h4⟩;obtain⟨es,c,hb,_⟩:=hm;have hne:b ≠ k:=by rintro rfl;rw[hb] at h3;cases h3
  rw[setBlock,Array.getElem?_setIfInBounds_ne hne];exact h3
theorem OI.map {w:World}{B b:Nat}{v:Value}{n:Nat}{xs:List Int}{g:List (List Int)}(h:OI w B v n xs) (hm:MG w b g) (o:Obj):OI (setBlock w b o) B v n xs:=ownsRow_map h hm o
theorem OII.map {w:World}{B b:Nat}{v:Value}{n:Nat}{xss:List (List Int)}{g:List (List Int)}(h:OII w B v n xss) (hm:MG w b g) (o:Obj):OII (setBlock w b o) B v n xss:=by
 obtain⟨vs,h1,h2,h4,h3⟩:=h;exact⟨vs,ownsRow_map h1 hm o,h2,h4,fun j hj=>(h3 j hj).map hm o⟩
theorem below_set {w W:World}{B b:Nat}(h:Below B w W) (hb:B≤b) (o:Obj):Below B w (setBlock W b o):=
 h.trans ⟨rfl,rfl,rfl,by simp[setBlock],fun k hk=>by simp only[setBlock];rw[Array.getElem?_setIfInBounds_ne (by omega)]⟩
theorem wpApp1SM {w0:World}{u:Value}{x:List Int}{t:TypeId}{ops:Array Oper}{rest:List Oper}{o:Oper}{a:Act}{Q:Exit→Act→World→Prop}(hgd:o.guard=none) (s y:Operand)
  (ho:o.op = .call { callee:=.builtin .append,args:=#[s,y],argTypes:=#[39,39] })
  {B:Nat} {v:Value} {n:Nat} {xss:List (List Int)} (hs:a.eval s=v) (hown:OII w0 B v n xss) (hx:a.eval y = .slice (some ⟨w0.heap.size,0,none⟩) 1 1)
  (hu:OI w0 0 u x.length x) (hu1:u.oneCell'=true) {b:Nat} {g:List (List Int)} (hm:MG w0 b g) (hn:n≤1000000000000) (hB:B≤w0.heap.size)
  (h:∀v' w',OII w' B v' (n+1) (xss ++ [x])→Below B w0 w'→MG w' b g→wpList Tryz.prog ops Q rest (a.put o.dst v') w') :
  wpList Tryz.prog ops Q (o::rest) a (w0.alloc (.cells #[u] t)):=by
 obtain⟨vs,h1,h2,h4,h3⟩:=hown;have hvl:vs.length=n:=by have:=h1.1;omega
 refine wpApp1 elemSl (by decide) hgd s y ho hs h1 hx hu1 hn hB fun v' w' k1 k2 k3=>?_;have ki:∀B' u' n' x',OI w0 B' u' n' x'→OI w' B' u' n' x':=fun B' u' n' x' hh=>hh.otherO h1 k2;refine h v' w' ⟨vs ++ [u],k1,by simp[h2],?_,fun j hj=>?_⟩ k3 ?_
 ·intro y hy;rcases List.mem_append.1 hy with hy|hy
  ·exact h4 y hy
  ·rw[List.mem_singleton.1 hy];exact hu1
 ·by_cases hjn:j < n
  ·rw[getD_append_left' (by omega),getD_append_left' (by omega)];exact ki _ _ _ _ (h3 j hjn)
  ·obtain rfl:j=n:=(by omega);rw[getD_append_right' (by omega),getD_append_right' (by omega),hvl,h2,Nat.sub_self];exact ki _ _ _ _ hu
 ·obtain⟨es,c,hb,hr⟩:=hm;refine⟨es,c,(k2.block b (Array.getElem?_eq_some_iff.1 hb).1 ?_).trans hb,hr⟩;rcases h1.2 with⟨rfl,_⟩|⟨k,cap,cur,rfl,_,h5,_⟩
  ·intro e;cases e
  ·intro e;simp only[Value.ownBlock,Option.some.injEq] at e;subst e;rw[h5] at hb;cases hb
theorem IsP.small {n:Nat}(hn:n≤5) {x:List Int}(h:IsP n x):SmallN x:=by
 intro k;by_cases hk:k < x.length
 ·have:=h.2.1 _ (List.getElem_mem hk)
  rw[getD_eq hk];omega
 ·simp[List.getElem?_eq_none (Nat.le_of_not_lt hk)]
end Go.Proofs.YtmikofeildnpdaaGreat
