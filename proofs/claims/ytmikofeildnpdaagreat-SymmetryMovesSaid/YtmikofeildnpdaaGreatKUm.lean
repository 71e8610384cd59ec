/- Texts of this claim, put together: We Wf Wh Wi Wg Wk. -/
import Derived.Test.YtmikofeildnpdaaGreatKUl
import Derived.Test.YtmikofeildnpdaaGreatKUe
import Derived.StillTailTactics

set_option maxRecDepth 100000
set_option maxHeartbeats 12800000
/- The walk of permutation.Check. -/
namespace Go.Proofs.YtmikofeildnpdaaGreat
open Go.RowKit
def Fl (w:World) (B n:Nat) (f:Nat→Bool):Prop:=∃ cur E,w.heap[B]? = some (.cells cur E (0,0))∧cur.size=n∧∀ p,p < n→cur[p]? = some (.bool (f p))
theorem Fl.cell {w:World} {B n:Nat} {f:Nat→Bool} (h:Fl w B n f) {p:Nat} (hp:p < n):w.cell? ⟨B,p,none⟩=some (.bool (f p)):=by
 obtain ⟨cur,E,h1,h2,h3⟩:=h
 rw [cell_of_row w B p cur E (0,0) h1]; exact h3 p hp
theorem Fl.free {w:World} {B n:Nat} {f:Nat→Bool} (h:Fl w B n f) (p:Nat):w.frozen? ⟨B,p,none⟩=false:=by
 obtain ⟨cur,E,h1,h2,h3⟩:=h
 exact frozen_of_row w B p cur E h1
theorem Fl.set {w:World} {B n:Nat} {f f':Nat→Bool} (h:Fl w B n f) (p:Nat) (b:Bool) (hf:∀ q,q < n→f' q=if q=p then b else f q) :
  Fl (w.setCell ⟨B,p,none⟩ (.bool b)) B n f':=by
 obtain ⟨cur,E,h1,h2,h3⟩:=h
 refine ⟨cur.setIfInBounds p (.bool b),E,heap_setCell_same w B p cur E _ h1,by simpa using h2,fun q hq=>?_⟩
 rw [hf q hq,Array.getElem?_setIfInBounds]
 by_cases e:p=q
 ·subst e; rw [if_pos rfl,if_pos (by omega),if_pos rfl]
 ·rw [if_neg e,if_neg (fun h=>e h.symm)]; exact h3 q hq
theorem Fl.new {w:World} {n:Nat} {E:TypeId} {cur:Array Value} (h2:cur.size=n) {f:Nat→Bool} (h3:∀ p,p < n→cur[p]? = some (.bool (f p))) :
  Fl (w.alloc (.cells cur E)) w.heap.size n f:=⟨cur,E,heap_alloc_new w _,h2,h3⟩
theorem chk_step1 {xs:List Int} {k:Nat} (h:k < xs.length) {x:Int} (hx:xs.getD k 0=x) (hb:x < 0∨(xs.length:Int)≤x):chkGo xs.length (xs.take k) (xs.drop k)=2:=by
 rw [chkGo_step h,hx,if_pos hb]
theorem chk_step2 {xs:List Int} {k:Nat} (h:k < xs.length) {x:Int} (hx:xs.getD k 0=x) (hb : ¬ (x < 0∨(xs.length:Int)≤x)) (hm:decide (((x.toNat:Nat):Int)∈xs.take k)=true):chkGo xs.length (xs.take k) (xs.drop k)=7:=by
 rw [chkGo_step h,hx,if_neg hb,if_pos]
 rw [show ((x.toNat:Nat):Int)=x by omega] at hm
 exact of_decide_eq_true hm
theorem chk_step3 {xs:List Int} {k:Nat} (h:k < xs.length) {x:Int} (hx:xs.getD k 0=x) (hb : ¬ (x < 0∨(xs.length:Int)≤x)) (hm:decide (((x.toNat:Nat):Int)∈xs.take k)=false) :
  chkGo xs.length (xs.take k) (xs.drop k)=chkGo xs.length (xs.take (k+1)) (xs.drop (k+1)):=by
 rw [chkGo_step h,hx,if_neg hb,if_neg]
 rw [show ((x.toNat:Nat):Int)=x by omega] at hm
 exact of_decide_eq_false hm
theorem check0 {w:World} {v:Value} {xs:List Int} (h:Ints w v xs) (h0:0 < xs.length) (h5:xs.length≤5) :
  Calls Tryz.prog 65 #[v] w fun e w'=>e = .returned (.int .i64 (chk xs))∧Below w.heap.size w w':=by
 obtain ⟨a,c,b,off,rfl,ha,hc,hl⟩:=h
 obtain rfl:=ha h0
 clear ha
 have hE:numE (xs.length:Int)=0:=by unfold numE; rw [if_neg (by omega)]
 have hchk:=Lib.hid (show chk xs=chkGo xs.length [] xs by rw [chk,if_neg (by omega)])
 have H:=Lib.hid (number (xs.length:Int))
 rw [hE] at H
 clear hE
 go_enter Tryz.func65,Tryz.ntmps65
 go_wp2_with (go_at_call 64; refine (H.out _).mono ?_; rintro e w' ⟨rfl,rfl⟩)
 have hfl:Fl (w.alloc (Obj.cells #[Value.bool false,Value.bool false,Value.bool false,Value.bool false,Value.bool false] 163)) w.heap.size 5 (fun p=>decide ((p:Int)∈xs.take 0)):=
  Fl.new rfl (by intro p hp; match p,hp with | 0,_=>simp | 1,_=>simp | 2,_=>simp | 3,_=>simp | 4,_=>simp)
 have hbl:Below w.heap.size w (w.alloc (Obj.cells #[Value.bool false,Value.bool false,Value.bool false,Value.bool false,Value.bool false] 163)):=(Below.refl _ _).alloc (Nat.le_refl _) _
 obtain ⟨B,hB⟩:=exF (w.heap.size)
 rw [← hB] at hfl ⊢
 have hBl:w.heap.size≤B:=by omega
 replace hB:=Lib.hid hB
 obtain ⟨w1,hw1⟩:=exF (w.alloc (Obj.cells #[Value.bool false,Value.bool false,Value.bool false,Value.bool false,Value.bool false] 163))
 rw [← hw1] at hfl hbl ⊢
 clear hw1
 go_loopw [15] (fun i wr=>∃ k:Nat,k≤xs.length∧i = .int .i64 k∧Hid (chkGo xs.length (xs.take k) (xs.drop k)=chk xs)∧Fl wr B 5 (fun p=>decide ((p:Int)∈xs.take k))∧Below w.heap.size w wr) (fun i _=>xs.length - (intOf i).toNat)
 case atStart=>exact ⟨0,by omega,rfl,hchk.out.symm,hfl,hbl⟩
 case round=>
  clear hfl hbl
  obtain ⟨k,hk,rfl,hg,hf,hb⟩:=hrel
  by_cases hlt:k < xs.length
  ·have hck:=hc.keep hb k hlt
   clear hc
   obtain ⟨x,hx⟩:=exE (xs.getD k 0)
   rw [hx] at hck
   replace hx:=Lib.hid hx
   by_cases hbad:x < 0∨(xs.length:Int)≤x
   ·have hr:=Lib.hid (chk_step1 hlt hx.out hbad)
    clear hf
    by_cases hneg:x < 0
    ·go_wp2
     go_ret
     exact ⟨ret_int (by rw [← hg.out,hr.out]),hb⟩
    ·have hneg':decide (x < 0)=false:=by simpa using hneg
     have hbad':decide ((xs.length:Int)≤x)=true:=by simp; omega
     go_wp2
     go_ret
     exact ⟨ret_int (by rw [← hg.out,hr.out]),hb⟩
   ·have hx0:0≤x:=by omega
    have hxl:x < xs.length:=by omega
    have hneg':decide (x < 0)=false:=by simp; omega
    have hbad':decide ((xs.length:Int)≤x)=false:=by simp; omega
    have hcs:=hf.cell (p:=x.toNat) (by omega)
    have hfs:=hf.free x.toNat
    obtain ⟨s,hs⟩:=exE (decide (((x.toNat:Nat):Int)∈xs.take k))
    simp only [hs] at hcs
    cases s with
    | true=>
     have hr:=Lib.hid (chk_step2 hlt hx.out hbad hs)
     clear hs hbad
     go_wp2
     go_ret
     exact ⟨ret_int (by rw [← hg.out,hr.out]),hb⟩
    | false=>
     have hr:=Lib.hid (chk_step3 hlt hx.out hbad hs)
     have hset:=hf.set (f':=fun p=>decide ((p:Int)∈xs.take (k+1))) x.toNat true (by
      intro q hq
      rw [take_snoc hlt 0,hx.out]
      by_cases e:q=x.toNat
      ·subst e; rw [if_pos rfl]; simp; right; omega
      ·rw [if_neg e]
       rw [decide_eq_decide,List.mem_append,List.mem_singleton]
       constructor
       ·rintro (h | h)
        ·exact h
        ·exfalso; omega
       ·exact .inl)
     clear hs hbad hf
     go_wp2
     go_roundw
     case rel=>exact ⟨k+1,by omega,by go_num,by show _=_; rw [← hg.out,hr.out],hset,hb.setCell (by simpa using hBl) _⟩
     case measure=>simp [intOf]; omega
  ·have hst:=Lib.hid (chkGo_end hlt)
   clear hc hf
   go_wp2
   go_ret
   exact ⟨ret_int (by rw [← hg.out,hst.out]),hb⟩
theorem check {w:World} {v:Value} {xs:List Int} (h:Ints w v xs) :
  Calls Tryz.prog 65 #[v] w fun e w'=>e = .returned (.int .i64 (chk xs))∧Below w.heap.size w w':=by
 by_cases h15:0 < xs.length∧xs.length≤5
 ·exact check0 h h15.1 h15.2
 ·obtain ⟨a,c,b,off,rfl,ha,hc,hl⟩:=h
  clear ha hc
  have hE:numE (xs.length:Int)=2:=by unfold numE; rw [if_pos (by omega)]
  have hchk:=Lib.hid (show chk xs=2 by rw [chk,if_pos (by omega)])
  have H:=Lib.hid (number (xs.length:Int))
  rw [hE] at H
  clear hE
  go_enter Tryz.func65,Tryz.ntmps65
  go_wp2_with (go_at_call 64; refine (H.out _).mono ?_; rintro e w' ⟨rfl,rfl⟩)
  go_ret
  exact ⟨ret_int hchk.out.symm,Below.refl _ _⟩
end Go.Proofs.YtmikofeildnpdaaGreat

/- The walks of Back, Inverse, Moved, Vector and their callers. -/
namespace Go.Proofs.YtmikofeildnpdaaGreat
open Go.RowKit
theorem chkGo_good {n:Nat}:∀ {r seen:List Int},chkGo n seen r=0→(∀ x∈r,0≤x∧x < (n:Int))∧(∀ x∈r,x ∉ seen)∧r.Nodup
 | [],_,_=>by simp
 | x::r,seen,h=>by
  unfold chkGo at h
  by_cases h1:x < 0∨(n:Int)≤x
  ·rw [if_pos h1] at h; cases h
  ·rw [if_neg h1] at h
   by_cases h2:x∈seen
   ·rw [if_pos h2] at h; cases h
   ·rw [if_neg h2] at h
    obtain ⟨a,b,c⟩:=chkGo_good h
    refine ⟨?_,?_,?_⟩
    ·intro y hy
     rcases List.mem_cons.1 hy with rfl | hy
     ·omega
     ·exact a y hy
    ·intro y hy
     rcases List.mem_cons.1 hy with rfl | hy
     ·exact h2
     ·exact fun h=>b y hy (List.mem_append_left _ h)
    ·rw [List.nodup_cons]
     exact ⟨fun hm=>b x hm (by simp),c⟩
theorem chk_good {xs:List Int} (h:chk xs=0):1≤xs.length∧xs.length≤5∧Good xs.length xs∧xs.Nodup:=by
 unfold chk at h
 by_cases h1:xs.length < 1∨5 < xs.length
 ·rw [if_pos h1] at h; cases h
 ·rw [if_neg h1] at h
  obtain ⟨a,_,c⟩:=chkGo_good h
  refine ⟨by omega,by omega,fun j hj=>?_,c⟩
  rw [getD_eq hj]
  exact a _ (List.getElem_mem hj)
def movedL (a v:List Int):List Int:=scat a v (List.replicate a.length 0) a.length
def backL (a:List Int):List Int:=movedL a (oneL a.length)
def invL (a:List Int):List Int:=if chk a=0 then backL a else []
def vecE02 (a v:List Int):Int:=if chk a ≠ 0 then chk a else if v.length ≠ a.length then 15 else 0
def vecL (a v:List Int):List Int:=if vecE02 a v=0 then movedL a v else []
def compE (a b:List Int):Int:=if chk a ≠ 0 then chk a else if chk b ≠ 0 then chk b else if a.length ≠ b.length then 22 else 0
def compL (a b:List Int):List Int:=if compE a b=0 then timesL a b else []
def RI (w:World) (l:List Int) (E:Int) (e:Ending) (w':World):Prop:=
 ∃ r,e = .returned (.tuple #[r,.int .i64 E])∧OI w' 0 r l.length l∧Below w.heap.size w w'
theorem RI.none {w w':World} {l:List Int} {E E':Int} (hl:l = []) (hE:E'=E) (hb:Below w.heap.size w w') :
  RI w l E (.returned (.tuple #[.slice none 0 0,.int .i64 E'])) w':=by
 subst hl; subst hE; exact ⟨_,rfl,OI.nil _ _,hb⟩
theorem RI.some {w w':World} {l l':List Int} {E:Int} {r:Value} {n B:Nat} (hl:l=l') (hE:E=0) (ho:OI w' B r n l') (_hB:w.heap.size≤B) (hb:Below w.heap.size w w') :
  RI w l E (.returned (.tuple #[r,.int .i64 0])) w':=by
 subst hl; subst hE; obtain rfl:=ho.length; exact ⟨_,rfl,ho.base (Nat.zero_le _),hb⟩
theorem inverse {w:World} {u:Value} {a:List Int} (h:Ints w u a):Calls Tryz.prog 33 #[u] w (RI w (invL a) (chk a)):=by
 have H:=Lib.hid (check h)
 by_cases hz:chk a=0
 ·obtain ⟨h1,h5,hG,_⟩:=chk_good hz
  have hL:=Lib.hid (show invL a=backL a by rw [invL,if_pos hz])
  rw [hz] at H
  replace hz:=Lib.hid hz
  obtain ⟨aa,ac,ab,ao,rfl,ha,hca,hla⟩:=h
  obtain rfl:=ha (by omega)
  clear ha
  go_enter Tryz.func33,Tryz.ntmps33
  go_wp2_with (first | (go_at_call 65; refine H.out.mono ?_; rintro e w1 ⟨rfl,hb1⟩) | (at_make; refine wpMakeI rfl _ _ rfl a.length rfl rfl (by omega) (Nat.le_refl _) ?_; intro w2 ho _ hb))
  have hb0:=btt hb1 hb
  have hg1:=hb1.size
  clear hb1 hb
  obtain ⟨g,hg⟩:=exF (w1.heap.size)
  rw [← hg] at ho ⊢
  have hgl:w.heap.size≤g:=by omega
  clear hg hg1
  go_loopw [18] (fun i wr=>∃ k:Nat,k≤a.length∧i = .int .i64 k∧OI wr g (.slice (some ⟨g,0,none⟩) a.length a.length) a.length (scat a (oneL a.length) (List.replicate a.length 0) k)∧Below w.heap.size w wr) (fun i _=>a.length - (intOf i).toNat)
  case atStart=>exact ⟨0,by omega,rfl,ho,hb0⟩
  case round=>
   clear ho hb0
   obtain ⟨k,hk,rfl,ho,hb⟩:=hrel
   by_cases hlt:k < a.length
   ·obtain ⟨g1,g2⟩:=hG k hlt
    have hck:=hca.keep hb k hlt
    have e1:=Lib.hid (scat_succ a (oneL a.length) (List.replicate a.length 0) k)
    have e2:=Lib.hid (oneL_getD hlt)
    obtain ⟨q,hq⟩:=exE (a.getD k 0)
    rw [hq] at hck g1 g2 e1
    clear hq hca hG
    have hcq:=ho.cell (j:=q.toNat) (by omega)
    have hfq:=ho.free q.toNat
    have hst:=ho.store q.toNat k
    go_wp2
    go_roundw
    case rel=>exact ⟨k+1,by omega,by go_num,by rw [e1.out,e2.out]; exact hst.1,hb.setCell (by simpa using hgl) _⟩
    case measure=>simp [intOf]; omega
   ·obtain rfl:k=a.length:=by omega
    clear hca hG
    go_wp2
    go_ret2
    exact RI.some hL.out hz.out ho hgl hb
 ·have hL:=Lib.hid (show invL a = [] by rw [invL,if_neg hz])
  obtain ⟨E,hE⟩:=exE (chk a)
  rw [hE] at H hz
  have hz':(E != 0)=true:=by simpa using hz
  replace hE:=Lib.hid hE
  clear hz h
  go_enter Tryz.func33,Tryz.ntmps33
  go_wp2_with (go_at_call 65; refine H.out.mono ?_; rintro e w1 ⟨rfl,hb1⟩)
  go_ret2
  exact RI.none hL.out hE.out.symm hb1
end Go.Proofs.YtmikofeildnpdaaGreat

/- The walks of Image, Set and the reference's Set. -/
namespace Go.Proofs.YtmikofeildnpdaaGreat
open Go.RowKit
def imgRs (s o:Int) (k:Nat) (q:Int):Int:=if (bits BinOp.and IntKind.i64 (s / 2 ^ k) 1 == 1)=true then bits BinOp.or IntKind.i64 o (wrap64 (2 ^ q.toNat)) else o
def imgPs (s o:Int) (k:Nat) (q:Int):Int:=bits BinOp.or IntKind.i64 o (wrap64 (bits BinOp.and IntKind.i64 (s / 2 ^ k) 1 * 2 ^ q.toNat))
def imgR (a:List Int) (s:Int) (k:Nat):Int:=(List.range k).foldl (fun o j=>imgRs s o j (a.getD j 0)) 0
def imgP (a:List Int) (s:Int) (k:Nat):Int:=(List.range k).foldl (fun o j=>imgPs s o j (a.getD j 0)) 0
theorem imgR_succ (a:List Int) (s:Int) (k:Nat):imgR a s (k+1)=imgRs s (imgR a s k) k (a.getD k 0):=by simp [imgR,List.range_succ]
theorem imgP_succ (a:List Int) (s:Int) (k:Nat):imgP a s (k+1)=imgPs s (imgP a s k) k (a.getD k 0):=by simp [imgP,List.range_succ]
theorem refImage {w:World} {u:Value} {a:List Int} (h:Ints w u a) (hG:Good a.length a) (h5:a.length≤5) (s:Int) (_h0:0≤s) :
  Calls Tryz.prog 137 #[u,.int .i64 s] w fun e w'=>e = .returned (.int .i64 (imgR a s a.length))∧Qt w w':=by
 obtain ⟨aa,ac,ab,ao,rfl,ha,hc,hl⟩:=h
 go_enter Tryz.func137,Tryz.ntmps137
 go_wp2
 go_loopw [5,6] (fun o i wr=>∃ (k:Nat) (x:Int),k≤a.length∧i = .int .i64 k∧o = .int .i64 x∧Hid (imgR a s k=x)∧Hid (Qt w wr)) (fun _ i _=>a.length - (intOf i).toNat)
 case atStart=>exact ⟨0,0,by omega,rfl,rfl,rfl,Qt.refl _⟩
 case round=>
  obtain ⟨k,x,hk,rfl,rfl,hg,hq⟩:=hrel
  by_cases hlt:k < a.length
  ·obtain ⟨g1,g2⟩:=hG k hlt
   obtain rfl:=ha (by omega)
   have hck:=hc.qt hq.out k hlt
   have e1:=Lib.hid (imgR_succ a s k)
   obtain ⟨q,hq'⟩:∃ q,a.getD k 0=q:=⟨_,rfl⟩
   rw [hq'] at hck g1 g2 e1
   clear hq' ha hc hG
   go_wp2
   ·have ht:=‹(bits BinOp.and IntKind.i64 (s / 2 ^ k) 1 == 1)=true›
    go_roundw
    case rel=>exact ⟨k+1,_,by omega,by go_num,rfl,by show _=_; rw [e1.out,hg.out,imgRs,if_pos ht],hq⟩
    case measure=>simp [intOf]; omega
   ·have ht:=‹(bits BinOp.and IntKind.i64 (s / 2 ^ k) 1 == 1)=false›
    go_roundw
    case rel=>exact ⟨k+1,_,by omega,by go_num,rfl,by show _=_; rw [e1.out,hg.out,imgRs,if_neg (by rw [ht]; decide)],hq⟩
    case measure=>simp [intOf]; omega
  ·obtain rfl:k=a.length:=by omega
   clear ha hc hG
   go_wp2
   go_ret
   exact ⟨ret_int hg.out.symm,hq.out⟩
def setE (a:List Int) (s:Int):Int:=if chk a ≠ 0 then chk a else if s < 0∨wrap64 (2 ^ a.length)≤s then 2 else 0
def setP (a:List Int) (s:Int):Int:=if setE a s=0 then imgP a s a.length else 0
def R2 (w:World) (x y:Int) (e:Ending) (w':World):Prop:=e = .returned (.tuple #[.int .i64 x,.int .i64 y])∧Below w.heap.size w w'
theorem R2.mk' {w w':World} {x y x' y':Int} (hx:x'=x) (hy:y'=y) (hb:Below w.heap.size w w'):R2 w x y (.returned (.tuple #[.int .i64 x',.int .i64 y'])) w':=by
 subst hx; subst hy; exact ⟨rfl,hb⟩
theorem setCall {w:World} {u:Value} {a:List Int} (h:Ints w u a) (s:Int):Calls Tryz.prog 96 #[u,.int .i64 s] w (R2 w (setP a s) (setE a s)):=by
 have H:=Lib.hid (check h)
 by_cases hz:chk a=0
 ·obtain ⟨h1,h5,hG,_⟩:=chk_good hz
  rw [hz] at H
  by_cases hs:s < 0
  ·have hvE:=Lib.hid (show setE a s=2 by rw [setE,if_neg (fun h=>h hz),if_pos (.inl hs)])
   have hL:=Lib.hid (show setP a s=0 by rw [setP,hvE.out]; rfl)
   obtain ⟨aa,ac,ab,ao,rfl,ha,hc,hl⟩:=h
   clear ha hc hz hG
   go_enter Tryz.func96,Tryz.ntmps96
   go_wp2_with (go_at_call 65; refine H.out.mono ?_; rintro e w1 ⟨rfl,hq⟩)
   go_ret2
   exact R2.mk' hL.out.symm hvE.out.symm hq
  ·have hs':decide (s < 0)=false:=by simpa using hs
   by_cases hs2:wrap64 (2 ^ a.length)≤s
   ·have hvE:=Lib.hid (show setE a s=2 by rw [setE,if_neg (fun h=>h hz),if_pos (.inr hs2)])
    have hL:=Lib.hid (show setP a s=0 by rw [setP,hvE.out]; rfl)
    obtain ⟨aa,ac,ab,ao,rfl,ha,hc,hl⟩:=h
    clear ha hc hz hG
    go_enter Tryz.func96,Tryz.ntmps96
    go_wp2_with (go_at_call 65; refine H.out.mono ?_; rintro e w1 ⟨rfl,hq⟩)
    go_ret2
    exact R2.mk' hL.out.symm hvE.out.symm hq
   ·have hvE:=Lib.hid (show setE a s=0 by rw [setE,if_neg (fun h=>h hz),if_neg (by omega)])
    have hL:=Lib.hid (show setP a s=imgP a s a.length by rw [setP,if_pos hvE.out])
    obtain ⟨aa,ac,ab,ao,rfl,ha,hc,hl⟩:=h
    clear hz
    go_enter Tryz.func96,Tryz.ntmps96
    go_wp2_with (go_at_call 65; refine H.out.mono ?_; rintro e w1 ⟨rfl,hq⟩)
    go_loopw [7,26] (fun o i wr=>∃ (k:Nat) (x:Int),k≤a.length∧i = .int .i64 k∧o = .int .i64 x∧Hid (imgP a s k=x)∧Hid (Below w.heap.size w wr)) (fun _ i _=>a.length - (intOf i).toNat)
    case atStart=>exact ⟨0,0,by omega,rfl,rfl,rfl,hq⟩
    case round=>
     clear hq
     obtain ⟨k,x,hk,rfl,rfl,hg,hq⟩:=hrel
     by_cases hlt:k < a.length
     ·obtain ⟨g1,g2⟩:=hG k hlt
      obtain rfl:=ha (by omega)
      have hck:=hc.keep hq.out k hlt
      have e1:=Lib.hid (imgP_succ a s k)
      obtain ⟨q,hq'⟩:∃ q,a.getD k 0=q:=⟨_,rfl⟩
      rw [hq'] at hck g1 g2 e1
      clear hq' ha hc hG
      go_wp2
      go_roundw
      case rel=>exact ⟨k+1,_,by omega,by go_num,rfl,by show _=_; rw [e1.out,hg.out,imgPs],hq⟩
      case measure=>simp [intOf]; omega
     ·obtain rfl:k=a.length:=by omega
      clear ha hc hG
      go_wp2
      go_ret2
      exact R2.mk' (by rw [hL.out,hg.out]) hvE.out.symm hq.out
 ·obtain ⟨E,hE⟩:=exE (chk a)
  have hvE:=Lib.hid (show setE a s=E by rw [setE,if_pos hz,hE])
  have hL:=Lib.hid (show setP a s=0 by rw [setP,hvE.out,← hE,if_neg hz])
  rw [hE] at H hz
  have hz':(E != 0)=true:=by simpa using hz
  clear hz h hE
  go_enter Tryz.func96,Tryz.ntmps96
  go_wp2_with (go_at_call 65; refine H.out.mono ?_; rintro e w1 ⟨rfl,hq⟩)
  go_ret2
  exact R2.mk' hL.out.symm hvE.out.symm hq
end Go.Proofs.YtmikofeildnpdaaGreat

/- The walks of the reference's Odd, Order, digit, Text. -/
namespace Go.Proofs.YtmikofeildnpdaaGreat
open Go.RowKit
def RB (w:World) (x:Bool) (y:Int) (e:Ending) (w':World):Prop:=e = .returned (.tuple #[.bool x,.int .i64 y])∧Below w.heap.size w w'
end Go.Proofs.YtmikofeildnpdaaGreat

/- The walks of Vector, Identity, Compose and the reference's. -/
namespace Go.Proofs.YtmikofeildnpdaaGreat
open Go.RowKit
theorem vector {w:World} {u v:Value} {a b:List Int} (h:Ints w u a) (h':Ints w v b):Calls Tryz.prog 166 #[u,v] w (RI w (vecL a b) (vecE02 a b)):=by
 have H:=Lib.hid (check h)
 by_cases hz:chk a=0
 ·obtain ⟨h1,h5,hG,_⟩:=chk_good hz
  by_cases hab:a.length=b.length
  ·have hvE:=Lib.hid (show vecE02 a b=0 by rw [vecE02,if_neg (fun h=>h hz),if_neg (fun h=>h hab.symm)])
   have hL:=Lib.hid (show vecL a b=movedL a b by rw [vecL,if_pos hvE.out])
   rw [hz] at H
   clear hz
   obtain ⟨aa,ac,ab,ao,rfl,ha,hca,hla⟩:=h
   obtain ⟨ba,bc,bb,bo,rfl,hb',hcb,hlb⟩:=h'
   obtain rfl:=ha (by omega)
   obtain rfl:=hb' (by omega)
   clear ha hb'
   have hab':((b.length:Int) != (a.length:Int))=false:=by simp; omega
   have hb5:b.length≤5:=by omega
   replace hab:=Lib.hid hab
   go_enter Tryz.func166,Tryz.ntmps166
   go_wp2_with (first | (go_at_call 65; refine H.out.mono ?_; rintro e w1 ⟨rfl,hb1⟩) | (at_make; refine wpMakeI rfl _ _ rfl b.length rfl rfl (by omega) (Nat.le_refl _) ?_; intro w2 ho _ hb))
   rw [← hab.out] at ho ⊢
   have hb0:=btt hb1 hb
   have hg1:=hb1.size
   clear hb1 hb
   obtain ⟨g,hg⟩:=exF (w1.heap.size)
   rw [← hg] at ho ⊢
   have hgl:w.heap.size≤g:=by omega
   clear hg hg1
   go_loopw [25] (fun i wr=>∃ k:Nat,k≤a.length∧i = .int .i64 k∧OI wr g (.slice (some ⟨g,0,none⟩) a.length a.length) a.length (scat a b (List.replicate a.length 0) k)∧Below w.heap.size w wr) (fun i _=>a.length - (intOf i).toNat)
   case atStart=>exact ⟨0,by omega,rfl,ho,hb0⟩
   case round=>
    clear ho hb0
    obtain ⟨k,hk,rfl,ho,hb⟩:=hrel
    by_cases hlt:k < a.length
    ·obtain ⟨g1,g2⟩:=hG k hlt
     have hck:=hca.keep hb k hlt
     have hck':=hcb.keep hb k (by have:=hab.out; omega)
     have e1:=Lib.hid (scat_succ a b (List.replicate a.length 0) k)
     obtain ⟨q,hq⟩:=exE (a.getD k 0)
     obtain ⟨y,hy⟩:=exE (b.getD k 0)
     rw [hq] at hck g1 g2 e1
     rw [hy] at hck' e1
     clear hq hy hca hcb hG
     have hcq:=ho.cell (j:=q.toNat) (by omega)
     have hfq:=ho.free q.toNat
     have hst:=ho.store q.toNat y
     go_wp2
     go_roundw
     case rel=>exact ⟨k+1,by omega,by go_num,by rw [e1.out]; exact hst.1,hb.setCell (by simpa using hgl) _⟩
     case measure=>simp [intOf]; omega
    ·obtain rfl:k=a.length:=by omega
     clear hca hcb hG
     go_wp2
     go_ret2
     exact RI.some hL.out hvE.out ho hgl hb
  ·have hvE:=Lib.hid (show vecE02 a b=15 by rw [vecE02,if_neg (fun h=>h hz),if_pos (fun h=>hab h.symm)])
   have hL:=Lib.hid (show vecL a b = [] by rw [vecL,hvE.out]; rfl)
   rw [hz] at H
   clear hz
   obtain ⟨aa,ac,ab,ao,rfl,ha,hca,hla⟩:=h
   obtain ⟨ba,bc,bb,bo,rfl,hb',hcb,hlb⟩:=h'
   clear ha hb' hca hcb
   have hab':((b.length:Int) != (a.length:Int))=true:=by simp; omega
   go_enter Tryz.func166,Tryz.ntmps166
   go_wp2_with (first | (go_at_call 65; refine H.out.mono ?_; rintro e w1 ⟨rfl,hb1⟩))
   go_ret2
   exact RI.none hL.out hvE.out.symm hb1
 ·obtain ⟨E,hE⟩:=exE (chk a)
  have hvE:=Lib.hid (show vecE02 a b=E by rw [vecE02,if_pos hz,hE])
  have hL:=Lib.hid (show vecL a b = [] by rw [vecL,hvE.out,← hE,if_neg hz])
  rw [hE] at H hz
  have hz':(E != 0)=true:=by simpa using hz
  clear hz h hE
  go_enter Tryz.func166,Tryz.ntmps166
  go_wp2_with (go_at_call 65; refine H.out.mono ?_; rintro e w1 ⟨rfl,hb1⟩)
  go_ret2
  exact RI.none hL.out hvE.out.symm hb1
theorem compose {w:World} {u v:Value} {a b:List Int} (h:Ints w u a) (h':Ints w v b):Calls Tryz.prog 34 #[u,v] w (RI w (compL a b) (compE a b)):=by
 have H:=Lib.hid (check h)
 by_cases hz:chk a=0
 ·rw [hz] at H
  have Hb:=fun (w1:World) (hq:Below w.heap.size w w1)=>check (h'.keep hq)
  by_cases hzb:chk b=0
  ·simp only [hzb] at Hb
   replace Hb:=Lib.hid Hb
   obtain ⟨h1,h5,hG,_⟩:=chk_good hzb
   by_cases hab:a.length=b.length
   ·have hvE:=Lib.hid (show compE a b=0 by rw [compE,if_neg (fun h=>h hz),if_neg (fun h=>h hzb),if_neg (fun h=>h hab)])
    have hL:=Lib.hid (show compL a b=timesL a b by rw [compL,if_pos hvE.out])
    have H2:=fun (w1:World) (hq:Below w.heap.size w w1)=>composeCall (h.keep hq) (h'.keep hq) (by rw [hab]; exact hG) (by omega)
    replace H2:=Lib.hid H2
    obtain ⟨aa,ac,ab,ao,rfl,ha,hca,hla⟩:=h
    obtain ⟨ba,bc,bb,bo,rfl,hb',hcb,hlb⟩:=h'
    clear ha hb' hca hcb hG hz hzb
    have hab':((a.length:Int) != (b.length:Int))=false:=by simp; omega
    replace hab:=Lib.hid hab
    go_enter Tryz.func34,Tryz.ntmps34
    go_wp2_with fail
    refine H.out.mono ?_; rintro e w1 ⟨rfl,hq1⟩
    replace Hb:=Lib.hid (Hb.out _ hq1)
    go_wp2_with fail
    refine Hb.out.mono ?_; rintro e w2 ⟨rfl,hq2⟩
    have hq:=btt hq1 hq2
    replace H2:=Lib.hid (H2.out _ hq)
    go_wp2_with fail
    refine H2.out.mono ?_; rintro e w3 ⟨r,rfl,ho,hb⟩
    go_wp2
    go_ret2
    exact RI.some hL.out hvE.out ho hq.size (btt hq hb)
   ·have hvE:=Lib.hid (show compE a b=22 by rw [compE,if_neg (fun h=>h hz),if_neg (fun h=>h hzb),if_pos hab])
    have hL:=Lib.hid (show compL a b = [] by rw [compL,hvE.out]; rfl)
    obtain ⟨aa,ac,ab,ao,rfl,ha,hca,hla⟩:=h
    obtain ⟨ba,bc,bb,bo,rfl,hb',hcb,hlb⟩:=h'
    clear ha hb' hca hcb hG hz hzb
    have hab':((a.length:Int) != (b.length:Int))=true:=by simp; omega
    go_enter Tryz.func34,Tryz.ntmps34
    go_wp2_with fail
    refine H.out.mono ?_; rintro e w1 ⟨rfl,hq1⟩
    replace Hb:=Lib.hid (Hb.out _ hq1)
    go_wp2_with fail
    refine Hb.out.mono ?_; rintro e w2 ⟨rfl,hq2⟩
    have hq:=btt hq1 hq2
    go_wp2
    go_ret2
    exact RI.none hL.out hvE.out.symm hq
  ·obtain ⟨E,hE⟩:=exE (chk b)
   have hvE:=Lib.hid (show compE a b=E by rw [compE,if_neg (fun h=>h hz),if_pos hzb,hE])
   have hL:=Lib.hid (show compL a b = [] by rw [compL,hvE.out,← hE,if_neg hzb])
   rw [hE] at hzb
   simp only [hE] at Hb
   replace Hb:=Lib.hid Hb
   have hz':(E != 0)=true:=by simpa using hzb
   clear hz hzb h h' hE
   go_enter Tryz.func34,Tryz.ntmps34
   go_wp2_with fail
   refine H.out.mono ?_; rintro e w1 ⟨rfl,hq1⟩
   replace Hb:=Lib.hid (Hb.out _ hq1)
   go_wp2_with fail
   refine Hb.out.mono ?_; rintro e w2 ⟨rfl,hq2⟩
   have hq:=btt hq1 hq2
   go_wp2
   go_ret2
   exact RI.none hL.out hvE.out.symm hq
 ·obtain ⟨E,hE⟩:=exE (chk a)
  have hvE:=Lib.hid (show compE a b=E by rw [compE,if_pos hz,hE])
  have hL:=Lib.hid (show compL a b = [] by rw [compL,hvE.out,← hE,if_neg hz])
  rw [hE] at H hz
  have hz':(E != 0)=true:=by simpa using hz
  clear hz h hE
  go_enter Tryz.func34,Tryz.ntmps34
  go_wp2_with (go_at_call 65; refine H.out.mono ?_; rintro e w1 ⟨rfl,hq⟩)
  go_ret2
  exact RI.none hL.out hvE.out.symm hq
end Go.Proofs.YtmikofeildnpdaaGreat

/- The walks of further, Every, the reference's All; Clone, all, All. -/
namespace Go.Proofs.YtmikofeildnpdaaGreat
open Go.RowKit
def furF (n:Nat):Nat→List Int→List (List Int)
 | 0,b=>[b]
 | f+1,b=>(List.range n).flatMap fun (p:Nat)=>if (p:Int)∈b then [] else furF n f (b ++ [(p:Int)])
def furK (n f:Nat) (b:List Int) (k:Nat):List (List Int):=(List.range k).flatMap fun (p:Nat)=>if (p:Int)∈b then [] else furF n f (b ++ [(p:Int)])
theorem furK_succ (n f:Nat) (b:List Int) (k:Nat):furK n f b (k+1)=furK n f b k++if (k:Int)∈b then [] else furF n f (b ++ [(k:Int)]):=by
 simp [furK,List.range_succ,List.flatMap_append]
theorem furF_succ (n f:Nat) (b:List Int):furF n (f+1) b=furK n f b n:=rfl
theorem furK_le (n f B:Nat) (h:∀ b,(furF n f b).length≤B) (b:List Int):∀ k,(furK n f b k).length≤k * B
 | 0=>by simp [furK]
 | k+1=>by
  rw [furK_succ,List.length_append,Nat.succ_mul]
  have h1:=furK_le n f B h b k
  have h2:(if (k:Int)∈b then [] else furF n f (b ++ [(k:Int)])).length≤B:=by split; exact Nat.zero_le _; exact h _
  omega
theorem furF_le (n:Nat):∀ f b,(furF n f b).length≤n ^ f
 | 0,b=>by simp [furF]
 | f+1,b=>by rw [furF_succ,Nat.pow_succ,Nat.mul_comm]; exact furK_le n f _ (furF_le n f) b n
theorem furF_small (n f:Nat) (hn:n≤5) (hf:f≤5) (b:List Int):(furF n f b).length≤3125:=by
 refine Nat.le_trans (furF_le n f b) ?_
 calc n ^ f≤5 ^ f:=Nat.pow_le_pow_left hn f
  _≤5 ^ 5:=Nat.pow_le_pow_right (by decide) hf
  _=3125:=by decide
theorem further (n:Nat) (hn:n≤5) (f:Nat):∀ (b:List Int) (v:Value) (w:World),b.length+f=n→OI w 0 v b.length b→
  Calls Tryz.prog 106 #[.int .i64 n,v] w fun e w'=>∃ r,e = .returned r∧OII w' w.heap.size r (furF n f b).length (furF n f b)∧Below w.heap.size w w':=by
 induction f with
 | zero=>
  intro b v w hbn hv
  have hi:=hv.ints (by omega)
  obtain ⟨a,c,bb,off,rfl,ha,hc,hl⟩:=hi
  have he:((b.length:Int) == (n:Int))=true:=by simp; omega
  clear ha hc
  replace hbn:=Lib.hid hbn
  go_enter Tryz.func106,Tryz.ntmps106
  go_wp2
  go_ret
  have h1:=oneCell_slice hv
  refine ⟨_,rfl,?_,(Below.refl _ _).alloc (Nat.le_refl _) _⟩
  refine ⟨[.slice a b.length c],⟨rfl,.inr ⟨w.heap.size,1,_,rfl,Nat.le_refl _,heap_alloc_new _ _,Nat.le_refl _,by decide,rfl,rfl⟩⟩,rfl,?_,?_⟩
  ·intro x hx; rw [List.mem_singleton.1 hx]; rfl
  ·intro j hj
   obtain rfl:j=0:=by simp [furF] at hj; exact hj
   exact hv.keep ((Below.refl _ _).alloc (Nat.le_refl _) _)
 | succ f ih=>
  intro b v w hbn hv
  have hi:=hv.ints (by omega)
  have hi0:=hi
  obtain ⟨a,c,bb,off,rfl,ha,hc,hl⟩:=hi
  have he:((b.length:Int) == (n:Int))=false:=by simp; omega
  have hb5:b.length≤5:=by omega
  have hf5:f≤5:=by omega
  clear ha hc
  replace hbn:=Lib.hid hbn
  replace ih:=Lib.hid ih
  go_enter Tryz.func106,Tryz.ntmps106
  go_wp2
  go_loopw [5,6] (fun o i wr=>∃ k:Nat,k≤n∧i = .int .i64 k∧OII wr w.heap.size o (furK n f b k).length (furK n f b k)∧Below w.heap.size w wr) (fun _ i _=>n - (intOf i).toNat)
  case atStart=>exact ⟨0,by omega,rfl,OII.nil _ _,Below.refl _ _⟩
  case round=>
   obtain ⟨k,hk,rfl,ho,hb⟩:=hrel
   have hbs:=hb.size
   by_cases hlt:k < n
   ·have H1:=Lib.hid (refHas02 (k:Int) (hi0.keep hb))
    have e1:=Lib.hid (furK_succ n f b k)
    have hle:=furK_le n f 3125 (fun b=>furF_small n f hn hf5 b) b k
    have hle2:=furF_small n f hn hf5 (b ++ [(k:Int)])
    by_cases hm:(k:Int)∈b
    ·rw [show hasB b k=true by simp [hasB,hm]] at H1
     rw [if_pos hm,List.append_nil] at e1
     clear hm hle hle2
     go_wp2_with (go_at_call 143; refine H1.out.mono ?_; rintro e w1 ⟨rfl,hq⟩)
     go_roundw
     case rel=>exact ⟨k+1,by omega,by go_num,by rw [e1.out]; exact ho.keep hq.below,hb.trans (hq.belowB _)⟩
     case measure=>simp [intOf]; omega
    ·rw [show hasB b k=false by simp [hasB,hm]] at H1
     rw [if_neg hm] at e1
     clear hm
     have hlb:=Lib.hid (show (b ++ [(k:Int)]).length=b.length+1 by simp)
     go_wp2_with (first | (go_at_call 143; refine H1.out.mono ?_; rintro e w1 ⟨rfl,hq⟩; have hb1:=hb.trans (hq.belowB w.heap.size); replace ho:=ho.keep hq.below; have hv1:=hv.keep hb1; clear hq hb hbs H1) | (at_builtin; refine wpAppManyI rfl _ _ rfl rfl (OI.nil _ w1.heap.size) rfl hv1 (by omega) (Nat.le_refl _) ?_; intro v2 w2 hv2 _ hb2; rw [Nat.zero_add,List.nil_append] at hv2; have hs2:=hb2.size; clear hv1) | (at_builtin; refine wpAppI rfl _ _ rfl rfl hv2 rfl (by omega) hs2 ?_; intro v3 w3 hv3 _ hb4; rw [← hlb.out] at hv3; have hb24:=hb2.trans hb4; replace ho:=ho.keep hb24; have hb5:=bt hb1 hb24 hb1.size; have H2:=Lib.hid (ih.out (b ++ [(k:Int)]) v3 w3 (by have:=hbn.out; have:=hlb.out; omega) (hv3.base (Nat.zero_le _))); clear hb1 hb2 hb4 hb24 hv2 hs2) | (go_at_call 106; refine H2.out.mono ?_; rintro e w4 ⟨r4,rfl,ho4,hb6⟩; replace ho:=ho.keep hb6; have hb7:=bt hb5 hb6 hb5.size; have hb7s:=hb7.size; clear hb5 hb6 hv3 H2) | (at_builtin; refine wpAppManyS rfl _ _ rfl rfl ho rfl ho4 (by omega) hb7s ?_; intro v5 w5 ho5 hb8 _; have hb9:=hb7.trans hb8; clear hb7 hb8 ho ho4))
     go_roundw
     case rel=>exact ⟨k+1,by omega,by go_num,by rw [e1.out,List.length_append]; exact ho5,hb9⟩
     case measure=>simp [intOf]; omega
   ·obtain rfl:k=n:=by omega
    go_wp2
    go_ret
    exact ⟨_,rfl,ho,hb⟩
def everyL (n:Nat):List (List Int):=furF n n []
theorem every (n:Nat) (hn:n≤5) (w:World) :
  Calls Tryz.prog 59 #[.int .i64 n] w fun e w'=>∃ r,e = .returned r∧OII w' w.heap.size r (everyL n).length (everyL n)∧Below w.heap.size w w':=by
 have H:=Lib.hid (further n hn n [] (.slice none 0 0) w (by simp) (OI.nil _ _))
 go_enter Tryz.func59,Tryz.ntmps59
 go_wp2_with (go_at_call 106; refine H.out.mono ?_; rintro e w1 ⟨r,rfl,ho,hb⟩)
 go_ret
 exact ⟨_,rfl,ho,hb⟩
def allL (n:Int):List (List Int):=if numE n=0 then everyL n.toNat else []
def RII (w:World) (l:List (List Int)) (E:Int) (e:Ending) (w':World):Prop:=
 ∃ r,e = .returned (.tuple #[r,.int .i64 E])∧OII w' w.heap.size r l.length l∧Below w.heap.size w w'
theorem RII.none {w w':World} {l:List (List Int)} {E E':Int} (hl:l = []) (hE:E'=E) (hb:Below w.heap.size w w') :
  RII w l E (.returned (.tuple #[.slice none 0 0,.int .i64 E'])) w':=by
 subst hl; subst hE; exact ⟨_,rfl,OII.nil _ _,hb⟩
theorem RII.some {w w':World} {l l':List (List Int)} {E:Int} {r:Value} {n B:Nat} (hl:l=l') (hE:E=0) (ho:OII w' B r n l') (hB:w.heap.size≤B) (hb:Below w.heap.size w w') :
  RII w l E (.returned (.tuple #[r,.int .i64 0])) w':=by
 subst hl; subst hE; obtain rfl:=ho.length; exact ⟨_,rfl,ho.base hB,hb⟩
end Go.Proofs.YtmikofeildnpdaaGreat
