/- Texts of this claim, put together: ZA RA RD RE. -/
import Derived.Test.YtmikofeildnpdaaGreatKUzd
import Derived.Test.YtmikofeildnpdaaGreatKUzb
import Derived.Lib.SliceRun
import Derived.Test.YtmikofeildnpdaaGreatKUs
import Derived.Test.YtmikofeildnpdaaGreatKUz
import Derived.Test.YtmikofeildnpdaaGreatKUm
import Derived.Test.YtmikofeildnpdaaGreatKUk
import Derived.Test.YtmikofeildnpdaaGreatKUd
import Derived.Test.YtmikofeildnpdaaGreatKUt
import Derived.Test.YtmikofeildnpdaaGreatKUe
import Derived.Test.YtmikofeildnpdaaGreatKUc
import Derived.Test.YtmikofeildnpdaaGreatKUf

set_option maxRecDepth 100000
set_option maxHeartbeats 12800000
/- inclusion.Equivalent. -/
namespace Go.Proofs.YtmikofeildnpdaaGreat
open Go.RowKit
theorem equivC {w:World} {u v:Value} {m n:Int} {aa bb:List (List (List Int))} (ha:AdvC w u m aa) (hb:AdvC w v n bb) (he:eqErr m n aa bb=0) (wa:WfS aa) (wb:WfS bb) (la:aa.length≤100) (lb:bb.length≤100) (ma:∀ s∈aa,s.length≤50000) (mb:∀ s∈bb,s.length≤50000) (mna:movesN aa≤1000000000) (mnb:movesN bb≤1000000000) :
  Calls Tryz.prog 43 #[u,v] w fun e w'=>∃ l r,e = .returned (.tuple #[l,.bool r,.int .i64 0])∧(r=true↔eqW aa bb)∧Below w.heap.size w w':=by
 have HA:=Lib.hid ha
 have HB:=Lib.hid hb
 obtain ⟨xa,xc,hu⟩:=advShape' ha.adv
 obtain ⟨ya,yc,hv⟩:=advShape' hb.adv
 subst hu hv
 obtain ⟨W1,hW1⟩:=exF ((w.alloc (.cells #[.int .i64 m,.slice xa aa.length xc] 24)).alloc (.cells #[.int .i64 n,.slice ya bb.length yc] 24))
 obtain ⟨hb1,⟨p0,p1⟩,⟨q0,q1⟩,_,_⟩:=boxAdv2 hW1
 have HX:=bothC (ha.adv.keep hb1) (hb.adv.keep hb1) mna mnb
 rw [he] at HX
 replace HX:=Lib.hid HX
 have HS:=Lib.hid (fun W (h:Below W1.heap.size W1 W)=>searchC ((HA.out.keep hb1).keep h) ((HB.out.keep hb1).keep h) wa wb la lb ma mb)
 have hK:=Lib.hid (fun W (hb:Below W1.heap.size W1 W)=>And.intro (cell_kept hb p0) (And.intro (cell_kept hb p1) (And.intro (cell_kept hb q0) (cell_kept hb q1))))
 clear ha hb he wa wb la lb ma mb mna mnb
 go_enter Tryz.func43, Tryz.ntmps43
 go_wp2_with fail
 rw [← hW1]
 replace hW1:=Lib.hid hW1
 refine HX.out.mono ?_
 rintro e W2 ⟨rfl,hb2⟩
 clear p0 p1 q0 q1
 obtain ⟨k0,k1,k2,k3⟩:=hK.out W2 hb2
 go_wp2_with fail
 refine (HS.out W2 hb2).mono ?_
 rintro e W3 ⟨l,wd,rfl,hor,hb3⟩
 have hb13:=bt hb1 (btt hb2 hb3) hb1.size
 clear k0 k1 k2 k3 hK HS HX HA HB
 rcases hor with ⟨heq,rfl⟩ | ⟨hne,p,k,c,rfl,hk⟩
 ·have hq:=Lib.run_eql_slice_nil (P:=Tryz.prog) W3 78 87 none 0 0 0 0 (by kernel_rfl)
  simp only [Option.isNone_none] at hq
  go_wp2
  go_ret3
  exact ⟨_,true,rfl,⟨fun _=>heq,fun _=>rfl⟩,hb13⟩
 ·have hq:=Lib.run_eql_slice_nil (P:=Tryz.prog) W3 78 87 (some p) k c 0 0 (by kernel_rfl)
  simp only [Option.isNone_some] at hq
  go_wp2
  go_ret3
  exact ⟨_,false,rfl,⟨fun h=>(by cases h),fun h=>absurd h hne⟩,hb13⟩
end Go.Proofs.YtmikofeildnpdaaGreat

/- graph.Permute: its walk, with graph.made. -/
namespace Go.Proofs.YtmikofeildnpdaaGreat
open Go.RowKit
theorem setP_of {n:Nat} {a:List Int} {s:Int} (h1:1≤n) (h5:n≤5) (ha:IsP n a) (h0:0≤s) (hs:s < 2 ^ n):setP a s=imgP a s n∧setE a s=0:=by
 have hz:=chk_of h1 h5 ha
 have hw:wrap64 (2 ^ n)=2 ^ n:=by
  have:n=1∨n=2∨n=3∨n=4∨n=5:=by omega
  rcases this with rfl | rfl | rfl | rfl | rfl <;> decide +kernel
 have he:setE a s=0:=by rw [setE,if_neg (fun h=>h hz),if_neg (by rw [ha.1,hw]; omega)]
 exact ⟨by rw [setP,if_pos he,ha.1],he⟩
theorem permRow {w:World} {bp bg bk n q p:Nat} {a bl:List Int} {u v:Value} {h:Int} (h1:1≤n) (h5:n≤5) (ha:IsP n a) (cp:w.cell? ⟨bp,0,none⟩=some u) (hu:Ints w u a) (ck:w.cell? ⟨bk,0,none⟩=some v) (hv:Ints w v bl)
  (hq:q < bl.length) (hbq:bl.getD q 0=(p:Int)) (hp:p < 5) (cg:w.cell? ⟨bg,1+p,none⟩=some (.int .i64 h)) (h0:0≤h) (hlt:h < 2 ^ n) :
  Calls Tryz.prog 132 #[.int .i64 (q:Int),.pointer (some ⟨bp,0,none⟩),.pointer (some ⟨bg,0,none⟩),.pointer (some ⟨bk,0,none⟩)] w fun e w'=>e = .returned (.int .i64 (imgP a h n))∧Below w.heap.size w w':=by
 obtain ⟨e1,e2⟩:=setP_of h1 h5 ha h0 hlt
 have hmx : Tryz.prog.follows .mixedOrders=true:=by kernel_rfl
 have HS:Hid (∀ W,Below w.heap.size w W→Calls Tryz.prog 96 #[u,.int .i64 h] W (R2 W (imgP a h n) 0)):=fun W hW=>by
  have:=setCall (hu.keep hW) h
  rwa [e1,e2] at this
 obtain ⟨va,vc,vb,vo,rfl,hva,hvc,_⟩:=hv
 obtain rfl:=hva (by omega)
 have cq:=hvc q hq
 rw [hbq] at cq
 have KS:Hid (∀ W,Below w.heap.size w W→W.cell? ⟨bp,0,none⟩=some u∧W.cell? ⟨bk,0,none⟩=some (.slice (some ⟨vb,vo,none⟩) bl.length vc)∧W.cell? ⟨vb,vo+q,none⟩=some (.int .i64 (p:Int))∧W.cell? ⟨bg,1+p,none⟩=some (.int .i64 h)):=
  fun W hW=>⟨cell_kept hW cp,cell_kept hW ck,cell_kept hW cq,cell_kept hW cg⟩
 have hqi:(q:Int) < (bl.length:Int):=by omega
 have hpi:(p:Int) < 5:=by omega
 clear hva hvc hu e1 e2 hbq cp ck cq cg
 go_enter Tryz.func132, Tryz.ntmps132
 go_wp2_with fail
 refine wp_region_bw hmx (by kernel_rfl) ?_
 repeat (refine WQ.step (fun K hK => ?_)
         go_simp
         first
           | (refine hK _ ?_; clear hK K)
           | (apply Exists.intro
              refine ⟨fun wq hC => ?_, hK _ ?_⟩
              · (first | with_reducible rfl | (obtain ⟨k1,k2,k3,k4⟩:=KS.out wq hC; go_simp; first | done | with_reducible rfl | with_reducible exact ⟨rfl,rfl⟩) | (refine (HS.out wq hC).mono ?_; rintro e w' ⟨rfl,hb⟩; exact ⟨rfl,btt hC hb⟩))
              clear hK K))
 refine WQ.nil ?_
 intro w4 hq4
 go_wp2
 go_ret
 exact ⟨rfl,hq4⟩
theorem five {x:List Int} (h:x.length=5):∃ a b c d e,x = [a,b,c,d,e]:=by
 match x,h with
 | [a,b,c,d,e],_=>exact ⟨a,b,c,d,e,rfl⟩
def mdR (row:Nat→Int) (k:Nat):List Int:=(List.range 5).map fun j=>if j < k then row j else 0
theorem mdR_zero (row:Nat→Int):mdR row 0 = [0,0,0,0,0]:=by simp [mdR,List.range_succ]
theorem mdR_set (row:Nat→Int) {k:Nat} (_:k < 5):(mdR row k).set k (row k)=mdR row (k+1):=by
 refine List.ext_getElem (by simp [mdR]) fun j h1 h2=>?_
 have hj:j < 5:=by simpa [mdR] using h2
 rw [List.getElem_set]
 simp only [mdR,List.getElem_map,List.getElem_range]
 by_cases e:k=j
 ·subst e; rw [if_pos rfl,if_pos (by omega)]
 ·rw [if_neg e]
  by_cases e2:j < k
  ·rw [if_pos e2,if_pos (by omega)]
  ·rw [if_neg e2,if_neg (by omega)]
theorem mdR_len (row:Nat→Int) (k:Nat):(mdR row k).length=5:=by simp [mdR]
theorem mdR_end (row:Nat→Int) {n:Nat} (hn:n≤5) {l:List Int} (hl:l.length=n) (h:∀ j,j < n→l.getD j 0=row j):mdR row n=l++List.replicate (5 - n) 0:=by
 refine List.ext_getElem (by simp [mdR,hl]; omega) fun j h1 h2=>?_
 simp only [mdR,List.getElem_map,List.getElem_range]
 by_cases e:j < n
 ·rw [if_pos e,← h j e,getD_eq (by omega),List.getElem_append_left]
 ·rw [if_neg e,List.getElem_append_right (by omega),List.getElem_replicate]
def gBox (n:Int) (l:List Int):Obj:=.cells (((n::l).map (Value.int .i64)).toArray) 85
theorem gBox_set {W:World} {b k:Nat} {n y:Int} {l:List Int} (h:W.heap[b]? = some (gBox n l)):(W.setCell ⟨b,1+k,none⟩ (.int .i64 y)).heap[b]? = some (gBox n (l.set k y)):=by
 unfold gBox at h ⊢
 rw [heap_setCell_same W b (1+k) _ _ _ h]
 congr 2
 rw [show 1+k=k+1 by omega,List.map_cons,List.map_cons,List.map_set]
 simp
theorem gBox_cell {W:World} {b k:Nat} {n:Int} {l:List Int} (h:W.heap[b]? = some (gBox n l)) (hk:k < l.length):W.cell? ⟨b,1+k,none⟩=some (.int .i64 (l.getD k 0)):=by
 unfold gBox at h
 rw [cell_of_row _ _ _ _ _ _ h,show 1+k=k+1 by omega]
 simp [hk]
theorem gBox_free {W:World} {b j:Nat} {n:Int} {l:List Int} (h:W.heap[b]? = some (gBox n l)):W.frozen? ⟨b,j,none⟩=false:=by
 unfold gBox at h
 simp [World.frozen?,h]
theorem madeC {w:World} {n:Nat} {row:Nat→Int} {caps:Array Value} {l:List Int} (h5:n≤5) (hl:l.length=n) (hrow:∀ j,j < n→l.getD j 0=row j)
  (HF:∀ W,Below w.heap.size w W→∀ q,q < n→Calls Tryz.prog 132 (#[.int .i64 (q:Int)]++caps) W fun e w'=>e = .returned (.int .i64 (row q))∧Below W.heap.size W w') :
  Calls Tryz.prog 131 #[.int .i64 (n:Int),.func (.func 132) #[] caps] w fun e w'=>e = .returned (.agg (((n::(l++List.replicate (5 - n) 0):List Int).map (Value.int .i64)).toArray))∧Below w.heap.size w w':=by
 have hfin:=mdR_end row h5 hl hrow
 replace HF:=Lib.hid HF
 replace hfin:=Lib.hid hfin
 clear hrow hl
 obtain ⟨W2,hW2⟩:=exF ((w.alloc (.cells #[.int .i64 0,.int .i64 0,.int .i64 0,.int .i64 0,.int .i64 0,.int .i64 0] 85)).alloc (.cells #[.int .i64 (n:Int),.int .i64 0,.int .i64 0,.int .i64 0,.int .i64 0,.int .i64 0] 85))
 have hb2:Below w.heap.size w W2:=by rw [hW2]; exact ((Below.refl _ _).alloc (Nat.le_refl _) _).alloc (by simp) _
 have hs2:W2.heap.size=w.heap.size+2:=by rw [hW2]; simp
 have m1:W2.heap[w.heap.size]? = some (.cells #[.int .i64 0,.int .i64 0,.int .i64 0,.int .i64 0,.int .i64 0,.int .i64 0] 85):=by rw [hW2]; exact (Below.heap_alloc _ _ _ (by simp)).trans (heap_alloc_new _ _)
 have m2:W2.heap[w.heap.size+1]? = some (gBox n (mdR row 0)):=by
  rw [mdR_zero,hW2]
  have:=heap_alloc_new (w.alloc (.cells #[.int .i64 0,.int .i64 0,.int .i64 0,.int .i64 0,.int .i64 0,.int .i64 0] 85)) (.cells #[.int .i64 (n:Int),.int .i64 0,.int .i64 0,.int .i64 0,.int .i64 0,.int .i64 0] 85)
  rwa [World.size_alloc] at this
 go_enter Tryz.func131, Tryz.ntmps131
 go_wp2_with fail
 rw [← hW2]
 replace hW2:=Lib.hid hW2
 go_loopw [10] (fun i wr=>∃ k:Nat,k≤n∧i = .int .i64 (k:Int)∧wr.heap[w.heap.size+1]? = some (gBox n (mdR row k))∧wr.heap[w.heap.size]? = some (.cells #[.int .i64 0,.int .i64 0,.int .i64 0,.int .i64 0,.int .i64 0,.int .i64 0] 85)∧Hid (Below w.heap.size w wr)) (fun i _=>n - (intOf i).toNat)
 case atStart=>exact ⟨0,Nat.zero_le _,rfl,m2,m1,hb2⟩
 case round=>
  clear hb2 hs2 m1 m2 hW2
  obtain ⟨k,hk,rfl,c2,c1,hb⟩:=hrel
  by_cases hlt:k < n
  ·have hltI:(k:Int) < (n:Int):=by omega
   have HC:=Lib.hid (HF.out wr hb.out k hlt)
   go_wp2_with (go_at_call 132; refine HC.out.mono ?_; rintro e w1 ⟨rfl,hb1⟩; have d2:=(hb1.block _ (Array.getElem?_eq_some_iff.1 c2).1).trans c2; have d1:=(hb1.block _ (Array.getElem?_eq_some_iff.1 c1).1).trans c1; have fz:=gBox_free (j:=1+k) d2; have cc:=gBox_cell (k:=k) d2 (by rw [mdR_len]; omega))
   go_roundw
   case rel=>exact ⟨k+1,by omega,by go_num,by rw [← mdR_set row (by omega)]; exact gBox_set d2,(Below.heap_setCell _ _ _ _ (by simp)).trans d1,(bt hb.out hb1 hb.out.size).setCell (p:=⟨w.heap.size+1,1+k,none⟩) (by simp) _⟩
   case measure=>simp [intOf]; omega
  ·obtain rfl:k=n:=by omega
   obtain ⟨g,hg⟩:=exE (l++List.replicate (5 - k) 0)
   have hfin2:=hfin.out
   rw [hg] at hfin2
   have hgl:g.length=5:=by rw [← hfin2,mdR_len]
   obtain ⟨g0,g1,g2,g3,g4,rfl⟩:=five hgl
   rw [hfin2] at c2
   obtain ⟨q0,q1,q2,q3,q4,q5⟩:=boxL6 (show wr.heap[w.heap.size+1]? = some (.cells #[.int .i64 (k:Int),.int .i64 g0,.int .i64 g1,.int .i64 g2,.int .i64 g3,.int .i64 g4] 85) from c2)
   clear hfin hfin2 HF c2
   obtain ⟨z0,z1,z2,z3,z4,z5⟩:=boxL6 c1
   obtain ⟨f0,f1,f2,f3,f4,f5⟩:=freeL6 c1
   go_wp2
   refine storeEnd6 (u0:=.int .i64 (k:Int)) (u1:=.int .i64 g0) (u2:=.int .i64 g1) (u3:=.int .i64 g2) (u4:=.int .i64 g3) (u5:=.int .i64 g4) c1 ?_
   intro W9 hW9 hb9 _ _ e0 e1 e2 e3 e4 e5
   rw [← hW9]
   refine bodyPost_ret (v:=.agg #[.int .i64 (k:Int),.int .i64 g0,.int .i64 g1,.int .i64 g2,.int .i64 g3,.int .i64 g4]) (by simp [results,Tryz.results131,go_sem,e0,e1,e2,e3,e4,e5]) rfl ?_
   exact ⟨by rw [hg]; rfl,hb9 _ _ (Nat.le_refl _) hb.out⟩
theorem moved_back {n:Nat} {a v:List Int} (h1:1≤n) (h5:n≤5) (ha:IsP n a) {q:Nat} (hq:q < n):∃ p:Nat,p < n∧(backL a).getD q 0=(p:Int)∧(movedL a v).getD q 0=v.getD p 0:=by
 obtain ⟨p,hp,hpq⟩:=perm_onto h1 h5 ha hq
 refine ⟨p,hp,?_,?_⟩
 ·have:=moved_at (v:=oneL n) ha hp
  rw [hpq,Int.toNat_natCast,oneL_getD hp] at this
  rw [backL,ha.1]; exact this
 ·have:=moved_at (v:=v) ha hp
  rwa [hpq,Int.toNat_natCast] at this
def gVal (n:Nat) (hs:List Int):Value:=.agg ((((n:Int)::(hs++List.replicate (5 - n) 0)).map (Value.int .i64)).toArray)
theorem graphPerm {w:World} {u:Value} {n:Nat} {a hs:List Int} {f:Int} (h1:1≤n) (h5:n≤5) (hR:RdN n hs f) (ha:IsP n a) (hu:Ints w u a) :
  Calls Tryz.prog 95 #[gVal n hs,u] w fun e w'=>e = .returned (.tuple #[gVal n (movedL a (hs.map fun x=>imgP a x n)),.int .i64 0])∧Below w.heap.size w w':=by
 have hz:=chkRd_mk h1 h5 hR
 have hml:(movedL a (hs.map fun x=>imgP a x n)).length=n:=by rw [movedL_length,ha.1]
 obtain ⟨pad,hpad⟩:=exE (hs++List.replicate (5 - n) 0)
 have hpl:pad.length=5:=by rw [← hpad]; simp [hR.len]; omega
 have hpg:∀ p,p < n→pad.getD p 0=hs.getD p 0:=fun p hp=>by rw [← hpad,getD_app2 (by rw [hR.len]; exact hp)]
 obtain ⟨g0,g1,g2,g3,g4,rfl⟩:=five hpl
 have hv:gVal n hs = .agg #[.int .i64 (n:Int),.int .i64 g0,.int .i64 g1,.int .i64 g2,.int .i64 g3,.int .i64 g4]:=by rw [gVal,hpad]; rfl
 have hzg:chkGr (n:Int) [g0,g1,g2,g3,g4]=0:=by
  have e:mkR n hs f = [(n:Int),g0,g1,g2,g3,g4,f]:=by rw [mkR,← List.append_assoc,hpad]; rfl
  rw [e] at hz
  by_cases k:chkGr (n:Int) [g0,g1,g2,g3,g4]=0
  ·exact k
  ·rw [chkRd_1 k] at hz; exact absurd hz k
 have HC:=graphCheck (n:Int) g0 g1 g2 g3 g4
 rw [hzg] at HC
 replace HC:=Lib.hid HC
 have HI:=Lib.hid (fun W (hW:Below w.heap.size w W)=>inverseP h1 h5 ha (hu.keep hW))
 rw [hv]
 clear hz hpad hpl hzg hv
 obtain ⟨row,hrow⟩:∃ row:Nat→Int,row=fun q=>(movedL a (hs.map fun x=>imgP a x n)).getD q 0:=⟨_,rfl⟩
 have hrw:Hid (∀ q,q < n→∃ p h,(backL a).getD q 0=((p:Nat):Int)∧p < 5∧p < n∧[g0,g1,g2,g3,g4].getD p 0=h∧0≤h∧h < 2 ^ n∧row q=imgP a h n):=fun q hq=>by
  obtain ⟨p,hp,e1,e2⟩:=moved_back (v:=hs.map fun x=>imgP a x n) h1 h5 ha hq
  refine ⟨p,hs.getD p 0,e1,by omega,hp,hpg p hp,(hR.rng _ (getD_mem (by rw [hR.len]; exact hp))).1,(hR.rng _ (getD_mem (by rw [hR.len]; exact hp))).2,?_⟩
  rw [hrow]
  show (movedL a _).getD q 0=_
  rw [e2,getD_eq (by rw [List.length_map,hR.len]; exact hp),List.getElem_map,getD_eq (by rw [hR.len]; exact hp)]
 have hRO:Hid (∀ j,j < n→(movedL a (hs.map fun x=>imgP a x n)).getD j 0=row j):=fun j _=>by rw [hrow]
 clear hrow hpg
 obtain ⟨L,hL⟩:∃ L,movedL a (hs.map fun x=>imgP a x n)=L:=⟨_,rfl⟩
 rw [hL] at hRO hml ⊢
 clear hL hR
 have hub:=ha.1
 have hu':=Lib.hid hu
 obtain ⟨aa,ac,ab,ao,rfl,haa,-,-⟩:=hu
 obtain rfl:=haa (by omega)
 rw [hub] at hu' ⊢
 rw [hub] at HI
 replace hub:=Lib.hid hub
 obtain ⟨W1,hW1⟩:=exF (((w.alloc (.cells #[.int .i64 (n:Int),.int .i64 g0,.int .i64 g1,.int .i64 g2,.int .i64 g3,.int .i64 g4] 85)).alloc (.cells #[.slice (some ⟨ab,ao,none⟩) n ac] 25)).alloc (.cells #[.int .i64 0,.int .i64 0,.int .i64 0,.int .i64 0,.int .i64 0,.int .i64 0] 85))
 have hb1:Below w.heap.size w W1:=by rw [hW1]; exact (((Below.refl _ _).alloc (Nat.le_refl _) _).alloc (by simp) _).alloc (by simp; omega) _
 have m0:W1.heap[w.heap.size]? = some (gBox n [g0,g1,g2,g3,g4]):=by rw [hW1]; exact (Below.heap_alloc _ _ _ (by simp; omega)).trans ((Below.heap_alloc _ _ _ (by simp)).trans (heap_alloc_new _ _))
 have m1:W1.heap[w.heap.size+1]? = some (.cells #[.slice (some ⟨ab,ao,none⟩) n ac] 25):=by
  rw [hW1]
  have:=heap_alloc_new (w.alloc (.cells #[.int .i64 (n:Int),.int .i64 g0,.int .i64 g1,.int .i64 g2,.int .i64 g3,.int .i64 g4] 85)) (.cells #[.slice (some ⟨ab,ao,none⟩) n ac] 25)
  rw [World.size_alloc] at this
  exact (Below.heap_alloc _ _ _ (by simp)).trans this
 have m2:W1.heap[w.heap.size+2]? = some (.cells #[.int .i64 0,.int .i64 0,.int .i64 0,.int .i64 0,.int .i64 0,.int .i64 0] 85):=by
  rw [hW1]
  have:=heap_alloc_new ((w.alloc (.cells #[.int .i64 (n:Int),.int .i64 g0,.int .i64 g1,.int .i64 g2,.int .i64 g3,.int .i64 g4] 85)).alloc (.cells #[.slice (some ⟨ab,ao,none⟩) n ac] 25)) (.cells #[.int .i64 0,.int .i64 0,.int .i64 0,.int .i64 0,.int .i64 0,.int .i64 0] 85)
  simpa using this
 have hs1:Hid (W1.heap.size=w.heap.size+3):=by rw [hW1]; simp [Hid]
 obtain ⟨p0,p1,p2,p3,p4,p5⟩:=boxL6 (show W1.heap[w.heap.size]? = some (.cells #[.int .i64 (n:Int),.int .i64 g0,.int .i64 g1,.int .i64 g2,.int .i64 g3,.int .i64 g4] 85) from m0)
 have q0:=cell_of_one m1
 go_enter Tryz.func95, Tryz.ntmps95
 go_wp2_with fail
 rw [← hW1]
 replace hW1:=Lib.hid hW1
 refine (HC.out _).mono ?_
 rintro e w2 ⟨rfl,hb2⟩
 replace q0:=cell_kept hb2 q0
 replace p0:=cell_kept hb2 p0
 replace m0:=(hb2.block _ (Array.getElem?_eq_some_iff.1 m0).1).trans m0
 replace m1:=(hb2.block _ (Array.getElem?_eq_some_iff.1 m1).1).trans m1
 replace m2:=(hb2.block _ (Array.getElem?_eq_some_iff.1 m2).1).trans m2
 replace hb2:=bt hb1 hb2 hb1.size
 clear p1 p2 p3 p4 p5
 go_wp2_with fail
 refine (HI.out w2 hb2).mono ?_
 rintro e w3 ⟨r,rfl,hO,hb3⟩
 replace q0:=cell_kept hb3 q0
 replace p0:=cell_kept hb3 p0
 replace m0:=(hb3.block _ (Array.getElem?_eq_some_iff.1 m0).1).trans m0
 replace m1:=(hb3.block _ (Array.getElem?_eq_some_iff.1 m1).1).trans m1
 replace m2:=(hb3.block _ (Array.getElem?_eq_some_iff.1 m2).1).trans m2
 replace hb3:=bt hb2 hb3 hb2.size
 have hbl:(backL a).length=n:=by rw [backL,movedL_length,hub.out]
 have hOi:=hO.ints (by omega)
 obtain ⟨ra,rc,rfl⟩:=hO.shape
 rw [hbl] at hOi ⊢
 obtain ⟨W4,hW4⟩:=exF (w3.alloc (.cells #[.slice ra n rc] 25))
 have hb4:Below w3.heap.size w3 W4:=by rw [hW4]; exact (Below.refl _ _).alloc (Nat.le_refl _) _
 have m4:W4.heap[w3.heap.size]? = some (.cells #[.slice ra n rc] 25):=by rw [hW4]; exact heap_alloc_new _ _
 have p0':=cell_kept hb4 p0
 have q0':=cell_kept hb4 q0
 have HM:=madeC (w:=W4) (n:=n) (row:=row) (caps:=#[.pointer (some ⟨w.heap.size+1,0,none⟩),.pointer (some ⟨w.heap.size,0,none⟩),.pointer (some ⟨w3.heap.size,0,none⟩)]) (l:=L) h5 hml hRO.out fun W hW q hq=>by
  obtain ⟨p,h,k1,k2,k3,k4,k5,k6,k7⟩:=hrw.out q hq
  have g0':=(hW.block _ (Array.getElem?_eq_some_iff.1 ((hb4.block _ (Array.getElem?_eq_some_iff.1 m0).1).trans m0)).1).trans ((hb4.block _ (Array.getElem?_eq_some_iff.1 m0).1).trans m0)
  have cg:=gBox_cell (k:=p) g0' (by simpa using k2)
  rw [k4] at cg
  rw [k7]
  exact permRow h1 h5 ha (cell_kept hW q0') (hu'.out.keep (hb3.trans ((hb4.trans (hW.mono hb4.size)).mono hb3.size))) (cell_kept hW (cell_of_one m4)) (hOi.keep (hb4.trans (hW.mono hb4.size))) (by omega) k1 k2 cg k5 k6
 replace HM:=Lib.hid HM
 have m2':=(hb4.block _ (Array.getElem?_eq_some_iff.1 m2).1).trans m2
 rw [hW4] at p0' q0'
 clear m4 m0 m1 m2 p0 q0 hO hOi
 go_wp2_with fail
 rw [← hW4]
 replace hW4:=Lib.hid hW4
 refine HM.out.mono ?_
 rintro e w5 ⟨rfl,hb5⟩
 have m5:=(hb5.block _ (Array.getElem?_eq_some_iff.1 m2').1).trans m2'
 obtain ⟨pad',hpad'⟩:∃ pad,L++List.replicate (5 - n) 0=pad:=⟨_,rfl⟩
 have hpl':pad'.length=5:=by rw [← hpad']; simp [hml]; omega
 obtain ⟨k0,k1,k2,k3,k4,rfl⟩:=five hpl'
 rw [hpad']
 replace hpad':=Lib.hid hpad'
 simp only [List.map_cons,List.map_nil]
 obtain ⟨z0,z1,z2,z3,z4,z5⟩:=boxL6 m5
 obtain ⟨f0,f1,f2,f3,f4,f5⟩:=freeL6 m5
 clear p0' q0' m2' HM HI HC hrw hRO hu' hpl'
 go_wp2
 refine storeEnd6 (u0:=.int .i64 (n:Int)) (u1:=.int .i64 k0) (u2:=.int .i64 k1) (u3:=.int .i64 k2) (u4:=.int .i64 k3) (u5:=.int .i64 k4) m5 ?_
 intro W9 hW9 hb9 _ _ e0 e1 e2 e3 e4 e5
 rw [← hW9]
 refine bodyPost_ret (v:=.tuple #[.agg #[.int .i64 (n:Int),.int .i64 k0,.int .i64 k1,.int .i64 k2,.int .i64 k3,.int .i64 k4],.int .i64 0]) (by simp [results,Tryz.results95,go_sem,e0,e1,e2,e3,e4,e5]) rfl ?_
 exact ⟨by rw [gVal,hpad'.out]; rfl,hb9 _ _ (by omega) (hb3.trans ((hb4.trans (hb5.mono hb4.size)).mono hb3.size))⟩
end Go.Proofs.YtmikofeildnpdaaGreat

/- round.Permute, and the moves of symmetry: walks. -/
namespace Go.Proofs.YtmikofeildnpdaaGreat
open Go.RowKit
def rVal (r:List Int):Value:=.agg ((r.map (Value.int .i64)).toArray)
theorem roundPerm {w:World} {u:Value} {n:Nat} {a hs:List Int} {f:Int} (h1:1≤n) (h5:n≤5) (hR:RdN n hs f) (ha:IsP n a) (hu:Ints w u a) :
  Calls Tryz.prog 46 #[rVal (mkR n hs f),u] w fun e w'=>e = .returned (.tuple #[rVal (renR a (mkR n hs f)),.int .i64 0])∧Below w.heap.size w w':=by
 have hz:=chkRd_mk h1 h5 hR
 have hml:(movedL a (hs.map fun x=>imgP a x n)).length=n:=by rw [movedL_length,ha.1]
 have HGP:=Lib.hid (fun W (hW:Below w.heap.size w W)=>graphPerm h1 h5 hR ha (hu.keep hW))
 have HSP:Hid (∀ W,Below w.heap.size w W→Calls Tryz.prog 96 #[u,.int .i64 f] W (R2 W (imgP a f n) 0)):=fun W hW=>by
  have:=setCall (hu.keep hW) f
  rwa [(setP_of h1 h5 ha hR.f0 hR.f1).1,(setP_of h1 h5 ha hR.f0 hR.f1).2] at this
 rw [renR_mk ha h5 hR.len]
 obtain ⟨L,hL⟩:∃ L,movedL a (hs.map fun x=>imgP a x n)=L:=⟨_,rfl⟩
 rw [hL] at HGP hml ⊢
 obtain ⟨pad,hpad⟩:=exE (hs++List.replicate (5 - n) 0)
 obtain ⟨pad',hpad'⟩:∃ pad,L++List.replicate (5 - n) 0=pad:=⟨_,rfl⟩
 have hpl:pad.length=5:=by rw [← hpad]; simp [hR.len]; omega
 have hpl':pad'.length=5:=by rw [← hpad']; simp [hml]; omega
 obtain ⟨g0,g1,g2,g3,g4,rfl⟩:=five hpl
 obtain ⟨k0,k1,k2,k3,k4,rfl⟩:=five hpl'
 have eR:mkR n hs f = [(n:Int),g0,g1,g2,g3,g4,f]:=by rw [mkR,← List.append_assoc,hpad]; rfl
 have eR':∀ x,mkR n L x = [(n:Int),k0,k1,k2,k3,k4,x]:=fun x=>by rw [mkR,← List.append_assoc,hpad']; rfl
 simp only [gVal,hpad,hpad'] at HGP
 rw [eR] at hz ⊢
 rw [eR']
 have HC:=roundCheck (n:Int) g0 g1 g2 g3 g4 f
 rw [hz] at HC
 replace HC:=Lib.hid HC
 obtain ⟨F,hF⟩:=exE (imgP a f n)
 rw [hF] at HSP ⊢
 simp only [rVal,List.map_cons,List.map_nil]
 clear hpad hpad' hpl hpl' eR eR' hz hL hml hF hR
 obtain ⟨aa,ac,ab,ao,rfl,-,-,-⟩:=hu
 obtain ⟨W1,hW1⟩:=exF ((w.alloc (.cells #[.int .i64 (n:Int),.int .i64 g0,.int .i64 g1,.int .i64 g2,.int .i64 g3,.int .i64 g4,.int .i64 f] 87)).alloc (.cells #[.int .i64 0,.int .i64 0,.int .i64 0,.int .i64 0,.int .i64 0,.int .i64 0,.int .i64 0] 87))
 have hb1:Below w.heap.size w W1:=by rw [hW1]; exact ((Below.refl _ _).alloc (Nat.le_refl _) _).alloc (by simp) _
 have m0:W1.heap[w.heap.size]? = some (.cells #[.int .i64 (n:Int),.int .i64 g0,.int .i64 g1,.int .i64 g2,.int .i64 g3,.int .i64 g4,.int .i64 f] 87):=by rw [hW1]; exact (Below.heap_alloc _ _ _ (by simp)).trans (heap_alloc_new _ _)
 have m1:W1.heap[w.heap.size+1]? = some (.cells #[.int .i64 0,.int .i64 0,.int .i64 0,.int .i64 0,.int .i64 0,.int .i64 0,.int .i64 0] 87):=by
  rw [hW1]
  have:=heap_alloc_new (w.alloc (.cells #[.int .i64 (n:Int),.int .i64 g0,.int .i64 g1,.int .i64 g2,.int .i64 g3,.int .i64 g4,.int .i64 f] 87)) (.cells #[.int .i64 0,.int .i64 0,.int .i64 0,.int .i64 0,.int .i64 0,.int .i64 0,.int .i64 0] 87)
  rwa [World.size_alloc] at this
 have HK:Hid (∀ W,Below W1.heap.size W1 W→W.cell? ⟨w.heap.size,0,none⟩=some (.int .i64 (n:Int))∧W.cell? ⟨w.heap.size,1,none⟩=some (.int .i64 g0)∧W.cell? ⟨w.heap.size,2,none⟩=some (.int .i64 g1)∧W.cell? ⟨w.heap.size,3,none⟩=some (.int .i64 g2)∧W.cell? ⟨w.heap.size,4,none⟩=some (.int .i64 g3)∧W.cell? ⟨w.heap.size,5,none⟩=some (.int .i64 g4)∧W.cell? ⟨w.heap.size,6,none⟩=some (.int .i64 f)):=fun W hW=>boxL7 ((hW.block _ (Array.getElem?_eq_some_iff.1 m0).1).trans m0)
 obtain ⟨p0,p1,p2,p3,p4,p5,p6⟩:=HK.out W1 (Below.refl _ _)
 clear m0
 go_enter Tryz.func46, Tryz.ntmps46
 go_wp2_with fail
 rw [← hW1]
 replace hW1:=Lib.hid hW1
 refine (HC.out _).mono ?_
 rintro e w2 ⟨rfl,hb2⟩
 clear p0 p1 p2 p3 p4 p5 p6
 obtain ⟨p0,p1,p2,p3,p4,p5,p6⟩:=HK.out w2 hb2
 have hw2:=bt hb1 hb2 hb1.size
 go_wp2_with fail
 refine (HGP.out w2 hw2).mono ?_
 rintro e w3 ⟨rfl,hb3⟩
 clear p0 p1 p2 p3 p4 p5 p6
 obtain ⟨W4,hW4⟩:=exF (w3.alloc (.cells #[.int .i64 (n:Int),.int .i64 k0,.int .i64 k1,.int .i64 k2,.int .i64 k3,.int .i64 k4] 85))
 have hb4:Below w3.heap.size w3 W4:=by rw [hW4]; exact (Below.refl _ _).alloc (Nat.le_refl _) _
 have m4:W4.heap[w3.heap.size]? = some (.cells #[.int .i64 (n:Int),.int .i64 k0,.int .i64 k1,.int .i64 k2,.int .i64 k3,.int .i64 k4] 85):=by rw [hW4]; exact heap_alloc_new _ _
 have hb14:Below W1.heap.size W1 W4:=btt hb2 (btt hb3 hb4)
 obtain ⟨p0,p1,p2,p3,p4,p5,p6⟩:=HK.out W4 hb14
 have hb4':Below w.heap.size w W4:=hw2.trans ((hb3.trans (hb4.mono hb3.size)).mono hw2.size)
 have m1':=(hb14.block _ (Array.getElem?_eq_some_iff.1 m1).1).trans m1
 obtain ⟨j0,j1,j2,j3,j4,j5⟩:=boxL6 m4
 rw [hW4] at p0 p1 p2 p3 p4 p5 p6
 simp only [List.map_cons,List.map_nil]
 go_wp2_with fail
 rw [← hW4]
 replace hW4:=Lib.hid hW4
 refine (HSP.out _ hb4').mono ?_
 rintro e w5 ⟨rfl,hb5⟩
 replace j0:=cell_kept hb5 j0
 replace j1:=cell_kept hb5 j1
 replace j2:=cell_kept hb5 j2
 replace j3:=cell_kept hb5 j3
 replace j4:=cell_kept hb5 j4
 replace j5:=cell_kept hb5 j5
 have m5:=(hb5.block _ (Array.getElem?_eq_some_iff.1 m1').1).trans m1'
 obtain ⟨z0,z1,z2,z3,z4,z5,z6⟩:=boxL7 m5
 obtain ⟨f0,f1,f2,f3,f4,f5,f6⟩:=freeL7 m5
 clear p0 p1 p2 p3 p4 p5 p6 m1' m1 m4 HGP HSP HC HK
 go_wp2
 refine storeEnd7 (u0:=.int .i64 (n:Int)) (u1:=.int .i64 k0) (u2:=.int .i64 k1) (u3:=.int .i64 k2) (u4:=.int .i64 k3) (u5:=.int .i64 k4) (u6:=.int .i64 F) m5 ?_
 intro W9 hW9 hb9 _ _ e0 e1 e2 e3 e4 e5 e6
 rw [← hW9]
 refine bodyPost_ret (v:=.tuple #[.agg #[.int .i64 (n:Int),.int .i64 k0,.int .i64 k1,.int .i64 k2,.int .i64 k3,.int .i64 k4,.int .i64 F],.int .i64 0]) (by simp [results,Tryz.results46,go_sem,e0,e1,e2,e3,e4,e5,e6]) rfl ?_
 exact ⟨rfl,hb9 _ _ (by omega) (bt hb4' hb5 hb4'.size)⟩
end Go.Proofs.YtmikofeildnpdaaGreat

/- roundtableref03.Renamed, roundtableref15.Renamed: walks. -/
namespace Go.Proofs.YtmikofeildnpdaaGreat
open Go.RowKit
def tgR (a hs:List Int) (n:Nat):Nat→List Int
 | 0=>[0,0,0,0,0]
 | k+1=>(tgR a hs n k).set (a.getD k 0).toNat (imgR a (hs.getD k 0) n)
theorem tgR_len (a hs:List Int) (n:Nat):∀ k,(tgR a hs n k).length=5
 | 0=>rfl
 | k+1=>by rw [tgR,List.length_set,tgR_len a hs n k]
theorem IsP.inj {n:Nat} {a:List Int} (ha:IsP n a) {i j:Nat} (hi:i < n) (hj:j < n) (e:(a.getD i 0).toNat=(a.getD j 0).toNat):i=j:=by
 have h1:=ha.good i (by rw [ha.1]; exact hi)
 have h2:=ha.good j (by rw [ha.1]; exact hj)
 exact nodup_getD ha.2.2 (by rw [ha.1]; exact hi) (by rw [ha.1]; exact hj) (by omega)
theorem tgR_z {n:Nat} {a hs:List Int} (ha:IsP n a):∀ k p,k≤p→p < n→(tgR a hs n k).getD (a.getD p 0).toNat 0=0
 | 0,p,_,hp=>by
  have h1:=ha.good p (by rw [ha.1]; exact hp)
  rw [tgR,List.getD_eq_getElem?_getD]
  obtain ⟨j,hj⟩:=exE ((a.getD p 0).toNat)
  rw [hj]
  match j with
  | 0=>rfl
  | 1=>rfl
  | 2=>rfl
  | 3=>rfl
  | 4=>rfl
  | j+5=>rfl
 | k+1,p,hk,hp=>by
  rw [tgR,List.getD_eq_getElem?_getD,List.getElem?_set_ne (fun e=>by have:=ha.inj (i:=k) (j:=p) (by omega) hp e; omega),← List.getD_eq_getElem?_getD]
  exact tgR_z ha k p (by omega) hp
theorem tgR_at {n:Nat} {a hs:List Int} (h5:n≤5) (ha:IsP n a):∀ k p,p < k→k≤n→(tgR a hs n k).getD (a.getD p 0).toNat 0=imgR a (hs.getD p 0) n
 | k+1,p,hp,hk=>by
  have h1:=ha.good p (by rw [ha.1]; omega)
  rw [tgR]
  by_cases e:p=k
  ·subst e
   rw [List.getD_eq_getElem?_getD,List.getElem?_set_self (by rw [tgR_len]; omega)]; rfl
  ·rw [List.getD_eq_getElem?_getD,List.getElem?_set_ne (fun h=>by have:=ha.inj (i:=k) (j:=p) (by omega) (by omega) h; omega),← List.getD_eq_getElem?_getD]
   exact tgR_at h5 ha k p (by omega) (by omega)
theorem tgR_hi {n:Nat} {a hs:List Int} (ha:IsP n a):∀ k j,n≤j→k≤n→(tgR a hs n k).getD j 0=0
 | 0,j,_,_=>by
  rw [tgR]
  match j with
  | 0=>rfl
  | 1=>rfl
  | 2=>rfl
  | 3=>rfl
  | 4=>rfl
  | j+5=>rfl
 | k+1,j,hj,hk=>by
  have h1:=ha.good k (by rw [ha.1]; omega)
  rw [tgR,List.getD_eq_getElem?_getD,List.getElem?_set_ne (by omega),← List.getD_eq_getElem?_getD]
  exact tgR_hi ha k j hj (by omega)
theorem imgR_eq {n:Nat} {a:List Int} (h1:1≤n) (h5:n≤5) (ha:IsP n a) {s:Int} (s0:0≤s) (hs:s < 2 ^ n):imgR a s n=imgP a s n:=by
 have:=List.all_eq_true.1 (perm_all img_same (chk_of h1 h5 ha)) s.toNat (List.mem_range.2 (by
  have:(2:Int) ^ n≤32:=by
   have:n=1∨n=2∨n=3∨n=4∨n=5:=by omega
   rcases this with rfl | rfl | rfl | rfl | rfl <;> decide
  omega))
 have:=of_decide_eq_true this
 rw [ha.1,Int.toNat_of_nonneg s0] at this
 exact this
theorem tgR_end {n:Nat} {a hs:List Int} {f:Int} (h1:1≤n) (h5:n≤5) (hR:RdN n hs f) (ha:IsP n a):tgR a hs n n=movedL a (hs.map fun x=>imgP a x n)++List.replicate (5 - n) 0:=by
 have hml:(movedL a (hs.map fun x=>imgP a x n)).length=n:=by rw [movedL_length,ha.1]
 refine List.ext_getElem (by rw [tgR_len]; simp [hml]; omega) fun j j1 j2=>?_
 rw [← getD_eq j1 0,← getD_eq j2 0]
 by_cases hj:j < n
 ·obtain ⟨p,hp,hpj⟩:=perm_onto h1 h5 ha hj
  have e1:=tgR_at (hs:=hs) h5 ha n p hp (Nat.le_refl _)
  have e2:=moved_at (v:=hs.map fun x=>imgP a x n) ha hp
  rw [hpj,Int.toNat_natCast] at e1 e2
  rw [getD_app2 (by rw [hml]; exact hj),e1,e2,getD_eq (xs:=hs) (by rw [hR.len]; exact hp),getD_eq (by rw [List.length_map,hR.len]; exact hp),List.getElem_map]
  exact imgR_eq h1 h5 ha (hR.rng _ (List.getElem_mem _)).1 (hR.rng _ (List.getElem_mem _)).2
 ·rw [tgR_hi ha n j (by omega) (Nat.le_refl _),List.getD_eq_getElem?_getD,List.getElem?_append_right (by omega),hml,List.getElem?_replicate]
  rw [tgR_len] at j1
  rw [if_pos (by omega)]; rfl
theorem tgR_row0 {n:Nat} {a hs:List Int} (ha:IsP n a) {k:Nat} (hk:k < n):(tgR a hs n k).set (a.getD k 0).toNat (imgR a (hs.getD k 0) 0)=tgR a hs n k:=by
 have hz:=tgR_z (hs:=hs) ha k k (Nat.le_refl _) hk
 refine List.ext_getElem (by rw [List.length_set]) fun j j1 j2=>?_
 rw [List.getElem_set]
 split
 next e=>subst e; rw [getD_eq j2] at hz; rw [hz]; rfl
 next e=>rfl
theorem hasI_and {s:Int} {k:Nat} (h0:0≤s) (h1:s≤31) (hk:k≤4):(bits BinOp.and IntKind.i64 (s / 2 ^ k) 1 == 1)=hasI s (k:Int):=by
 have:=and1 (x:=s) (p:=(k:Int)) h0 h1 (by omega) (by omega)
 rw [twoI_pow (by omega)] at this
 rw [this]
 cases hasI s (k:Int) <;> rfl
theorem cell_kept' {w w':World} (h:Below w.heap.size w w') {p:Addr} {v:Value} (hc:w.cell? p=some v):w'.cell? p=some v:=cell_kept h hc
theorem refGraphRen {w:World} {u:Value} {n:Nat} {a hs:List Int} {f:Int} (h1:1≤n) (h5:n≤5) (hR:RdN n hs f) (ha:IsP n a) (hu:Ints w u a) :
  Calls Tryz.prog 136 #[gVal n hs,u] w fun e w'=>e = .returned (gVal n (movedL a (hs.map fun x=>imgP a x n)))∧Below w.heap.size w w':=by
 have hend:=Lib.hid (tgR_end h1 h5 hR ha)
 obtain ⟨pad,hpad⟩:=exE (hs++List.replicate (5 - n) 0)
 have hpl:pad.length=5:=by rw [← hpad]; simp [hR.len]; omega
 have hpg:∀ p,p < n→pad.getD p 0=hs.getD p 0:=fun p hp=>by rw [← hpad,getD_app2 (by rw [hR.len]; exact hp)]
 have hrg:Hid (∀ p,p < n→0≤hs.getD p 0∧hs.getD p 0≤31):=fun p hp=>by
  have:=hR.rng _ (getD_mem (l:=hs) (d:=0) (k:=p) (by rw [hR.len]; exact hp))
  have h32:(2:Int) ^ n≤32:=by
   have:n=1∨n=2∨n=3∨n=4∨n=5:=by omega
   rcases this with rfl | rfl | rfl | rfl | rfl <;> decide
  omega
 have hst:=Lib.hid (fun k (hk:k < n)=>tgR_row0 (hs:=hs) ha hk)
 have hgd:Hid (∀ k,k < n→∃ p:Nat,a.getD k 0=(p:Int)∧p < 5):=fun k hk=>by
  have:=ha.good k (by rw [ha.1]; exact hk)
  exact ⟨(a.getD k 0).toNat,by omega,by omega⟩
 have hgi:Hid (∀ k,k < n→0≤a.getD k 0∧a.getD k 0 < 5):=fun k hk=>by
  have:=ha.good k (by rw [ha.1]; exact hk)
  omega
 obtain ⟨g0,g1,g2,g3,g4,rfl⟩:=five hpl
 have hv:gVal n hs = .agg #[.int .i64 (n:Int),.int .i64 g0,.int .i64 g1,.int .i64 g2,.int .i64 g3,.int .i64 g4]:=by rw [gVal,hpad]; rfl
 rw [hv]
 have hmx : Tryz.prog.follows .mixedOrders=true:=by kernel_rfl
 have han:=ha.1
 obtain ⟨aa,ac,ab,ao,rfl,haa,hac,-⟩:=hu
 obtain rfl:=haa (by omega)
 rw [han]
 replace hac:Hid (∀ k,k < n→w.cell? ⟨ab,ao+k,none⟩=some (.int .i64 (a.getD k 0))):=fun k hk=>hac k (by rw [han]; exact hk)
 replace hpg:=Lib.hid hpg
 clear hpad hpl hv hR ha han haa
 obtain ⟨W1,hW1⟩:=exF (((w.alloc (.cells #[.int .i64 (n:Int),.int .i64 g0,.int .i64 g1,.int .i64 g2,.int .i64 g3,.int .i64 g4] 85)).alloc (.cells #[.int .i64 0,.int .i64 0,.int .i64 0,.int .i64 0,.int .i64 0,.int .i64 0] 85)).alloc (.cells #[.int .i64 (n:Int),.int .i64 0,.int .i64 0,.int .i64 0,.int .i64 0,.int .i64 0] 85))
 have hb1:Below w.heap.size w W1:=by rw [hW1]; exact (((Below.refl _ _).alloc (Nat.le_refl _) _).alloc (by simp) _).alloc (by simp; omega) _
 have m0:W1.heap[w.heap.size]? = some (gBox n [g0,g1,g2,g3,g4]):=by rw [hW1]; exact (Below.heap_alloc _ _ _ (by simp; omega)).trans ((Below.heap_alloc _ _ _ (by simp)).trans (heap_alloc_new _ _))
 have m1:W1.heap[w.heap.size+1]? = some (.cells #[.int .i64 0,.int .i64 0,.int .i64 0,.int .i64 0,.int .i64 0,.int .i64 0] 85):=by
  rw [hW1]
  have:=heap_alloc_new (w.alloc (.cells #[.int .i64 (n:Int),.int .i64 g0,.int .i64 g1,.int .i64 g2,.int .i64 g3,.int .i64 g4] 85)) (.cells #[.int .i64 0,.int .i64 0,.int .i64 0,.int .i64 0,.int .i64 0,.int .i64 0] 85)
  rw [World.size_alloc] at this
  exact (Below.heap_alloc _ _ _ (by simp)).trans this
 have m2:W1.heap[w.heap.size+2]? = some (gBox n (tgR a hs n 0)):=by
  rw [hW1]
  have:=heap_alloc_new ((w.alloc (.cells #[.int .i64 (n:Int),.int .i64 g0,.int .i64 g1,.int .i64 g2,.int .i64 g3,.int .i64 g4] 85)).alloc (.cells #[.int .i64 0,.int .i64 0,.int .i64 0,.int .i64 0,.int .i64 0,.int .i64 0] 85)) (.cells #[.int .i64 (n:Int),.int .i64 0,.int .i64 0,.int .i64 0,.int .i64 0,.int .i64 0] 85)
  rw [World.size_alloc,World.size_alloc] at this
  exact this
 go_enter Tryz.func136, Tryz.ntmps136
 go_wp2_with fail
 rw [← hW1]
 replace hW1:=Lib.hid hW1
 go_loopw [6] (fun i wr=>∃ k:Nat,k≤n∧i = .int .i64 (k:Int)∧wr.heap[w.heap.size+2]? = some (gBox n (tgR a hs n k))∧wr.heap[w.heap.size+1]? = some (.cells #[.int .i64 0,.int .i64 0,.int .i64 0,.int .i64 0,.int .i64 0,.int .i64 0] 85)∧wr.heap[w.heap.size]? = some (gBox n [g0,g1,g2,g3,g4])∧Hid (Below w.heap.size w wr)) (fun i _=>n - (intOf i).toNat)
 case atStart=>exact ⟨0,Nat.zero_le _,rfl,m2,m1,m0,hb1⟩
 case round=>
  clear hb1 m2 m1 m0 hW1
  obtain ⟨k,hk,rfl,c2,c1,c0,hb⟩:=hrel
  obtain ⟨p0,p1,p2,p3,p4,p5⟩:=boxL6 (show wr.heap[w.heap.size]? = some (.cells #[.int .i64 (n:Int),.int .i64 g0,.int .i64 g1,.int .i64 g2,.int .i64 g3,.int .i64 g4] 85) from c0)
  clear p1 p2 p3 p4 p5
  by_cases hlt:k < n
  ·have hltI:(k:Int) < (n:Int):=by omega
   rw [← hst.out k hlt] at c2
   obtain ⟨wo,hwo⟩:=exF (wr)
   subst hwo
   go_wp2_with fail
   go_loopw [7] (fun i wr=>∃ q:Nat,q≤n∧i = .int .i64 (q:Int)∧wr.heap[w.heap.size+2]? = some (gBox n ((tgR a hs n k).set (a.getD k 0).toNat (imgR a (hs.getD k 0) q)))∧wr.heap[w.heap.size+1]? = some (.cells #[.int .i64 0,.int .i64 0,.int .i64 0,.int .i64 0,.int .i64 0,.int .i64 0] 85)∧wr.heap[w.heap.size]? = some (gBox n [g0,g1,g2,g3,g4])∧Hid (Below w.heap.size w wr)) (fun i _=>n - (intOf i).toNat)
   case atStart=>exact ⟨0,Nat.zero_le _,rfl,c2,c1,c0,hb⟩
   case round=>
    clear c2 c1 c0 hb p0
    obtain ⟨q,hq,rfl,c2,c1,c0,hb⟩:=hrel
    obtain ⟨p0,p1,p2,p3,p4,p5⟩:=boxL6 (show wr.heap[w.heap.size]? = some (.cells #[.int .i64 (n:Int),.int .i64 g0,.int .i64 g1,.int .i64 g2,.int .i64 g3,.int .i64 g4] 85) from c0)
    clear p1 p2 p3 p4 p5
    by_cases hltq:q < n
    ·have hltQ:(q:Int) < (n:Int):=by omega
     have cg:=gBox_cell (k:=k) c0 (by simp; omega)
     rw [hpg.out k hlt] at cg
     have hh:=hrg.out k hlt
     obtain ⟨h,hhd⟩:=exE (hs.getD k 0)
     rw [hhd] at cg hh
     have HH:=Lib.hid (refHas h (q:Int) wr hh.1 (by omega) (by omega) (by omega))
     have hkb:(k:Int) < 5:=by omega
     obtain ⟨p,hpe,hp5⟩:=hgd.out k hlt
     obtain ⟨e,hee⟩:=exE (a.getD q 0)
     have heb:=hgi.out q hltq
     have cak:=cell_kept' hb.out (hac.out k hlt)
     have caq:=cell_kept' hb.out (hac.out q hltq)
     rw [hee] at heb caq
     rw [hpe] at cak c2
     rw [Int.toNat_natCast,hhd] at c2
     have hs1:=imgR_succ a h q
     rw [hee,imgRs,hasI_and hh.1 hh.2 (by omega)] at hs1
     have cp:=gBox_cell (k:=p) c2 (by rw [List.length_set,tgR_len]; exact hp5)
     rw [List.getD_eq_getElem?_getD,List.getElem?_set_self (by rw [tgR_len]; exact hp5),Option.getD_some] at cp
     obtain ⟨o,ho⟩:=exE (imgR a h q)
     rw [ho] at cp hs1
     have hpb:(p:Int) < 5:=by omega
     by_cases hhas:hasI h (q:Int)=true
     ·rw [hhas] at HH
      rw [if_pos hhas] at hs1
      replace hs1:=Lib.hid hs1
      have fz:=gBox_free (j:=1+p) c2
      replace c2:=Lib.hid c2
      clear hhas hee
      replace hpe:=Lib.hid hpe
      replace hhd:=Lib.hid hhd
      replace ho:=Lib.hid ho
      go_wp2_with fail
      refine HH.out.mono ?_
      rintro e1 w1 ⟨rfl,rfl⟩
      go_wp2_with fail
      refine wp_region_qtail 15 hmx (by kernel_rfl) (by kernel_rfl) ?_ ?_
      ·rintro ⟨a,wx,h⟩
       first | exact h | (obtain ⟨h,_⟩:=h; cases h; done) | (obtain ⟨_,h,_⟩:=h; cases h; done) | (obtain ⟨_,_,h,_⟩:=h; cases h; done)
      ·intro ops'
       simp only [List.take_succ_cons,List.take_zero,List.drop_succ_cons,List.drop_zero]
       repeat (quiet_step (fail))
       refine wpQuiet_nil ?_
       intro d
       go_wp2
       go_roundw
       case rel=>
        refine ⟨q+1,by omega,by go_num,by rw [hpe.out,Int.toNat_natCast,hhd.out,hs1.out,← List.set_set (a:=imgR a h q)]; exact gBox_set (W:=wr.drewN d) (ho.out ▸ c2.out),(Below.heap_setCell _ _ _ _ (by simp)).trans c1,(Below.heap_setCell _ _ _ _ (by simp; omega)).trans c0,(below_drewN hb.out d).setCell (p:=⟨w.heap.size+2,1+p,none⟩) (by simp) _⟩
       case measure=>simp [intOf]; omega
     ·replace hhas:hasI h (q:Int)=false:=by simpa using hhas
      rw [hhas] at HH
      rw [if_neg (by rw [hhas]; decide)] at hs1
      replace hs1:=Lib.hid hs1
      replace hpe:=Lib.hid hpe
      replace hhd:=Lib.hid hhd
      replace ho:=Lib.hid ho
      replace c2:=Lib.hid c2
      clear hhas hee cak caq cp
      go_wp2_with fail
      refine HH.out.mono ?_
      rintro e1 w1 ⟨rfl,rfl⟩
      go_wp2_with fail
      go_roundw
      case rel=>exact ⟨q+1,by omega,by go_num,by rw [hpe.out,Int.toNat_natCast,hhd.out,hs1.out,← ho.out]; exact c2.out,c1,c0,hb⟩
      case measure=>simp [intOf]; omega
    ·obtain rfl:q=n:=by omega
     clear hst hrg
     go_wp2
     go_roundw
     case rel=>exact ⟨k+1,by omega,by go_num,c2,c1,c0,hb⟩
     case measure=>simp [intOf]; omega
  ·obtain rfl:k=n:=by omega
   obtain ⟨l,hl⟩:∃ l,movedL a (hs.map fun x=>imgP a x k)=l:=⟨_,rfl⟩
   obtain ⟨g,hg⟩:=exE (l++List.replicate (5 - k) 0)
   have hend2:=hend.out
   rw [hl,hg] at hend2
   have hgl:g.length=5:=by rw [← hend2,tgR_len]
   obtain ⟨k0,k1,k2,k3,k4,rfl⟩:=five hgl
   rw [hend2] at c2
   obtain ⟨q0,q1,q2,q3,q4,q5⟩:=boxL6 (show wr.heap[w.heap.size+2]? = some (.cells #[.int .i64 (k:Int),.int .i64 k0,.int .i64 k1,.int .i64 k2,.int .i64 k3,.int .i64 k4] 85) from c2)
   obtain ⟨z0,z1,z2,z3,z4,z5⟩:=boxL6 c1
   obtain ⟨f0,f1,f2,f3,f4,f5⟩:=freeL6 c1
   replace hg:=Lib.hid hg
   replace hl:=Lib.hid hl
   clear hend hend2 c2 c0 hst hrg hgd hgi hgl hpg
   go_wp2
   refine storeEnd6 (u0:=.int .i64 (k:Int)) (u1:=.int .i64 k0) (u2:=.int .i64 k1) (u3:=.int .i64 k2) (u4:=.int .i64 k3) (u5:=.int .i64 k4) c1 ?_
   intro W9 hW9 hb9 _ _ e0 e1 e2 e3 e4 e5
   rw [← hW9]
   refine bodyPost_ret (v:=.agg #[.int .i64 (k:Int),.int .i64 k0,.int .i64 k1,.int .i64 k2,.int .i64 k3,.int .i64 k4]) (by simp [results,Tryz.results136,go_sem,e0,e1,e2,e3,e4,e5]) rfl ?_
   exact ⟨by rw [gVal,hl.out,hg.out]; rfl,hb9 _ _ (by omega) hb.out⟩
end Go.Proofs.YtmikofeildnpdaaGreat
