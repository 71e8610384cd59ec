/- Texts of this claim, put together: CB AP G5 F3 CL J1 J2. -/
import Derived.Test.YtmikofeildnpdaaGreatKYj
import Derived.Test.YtmikofeildnpdaaGreatKYh
import Derived.Test.YtmikofeildnpdaaGreatKYd
import Derived.Test.YtmikofeildnpdaaGreatKYo
import Derived.Deep.RegionHeld3
import Derived.Deep.DeepCutAuto
import Derived.Deep.AppendLies
import Derived.Maps.AppendAt
import Derived.Test.YtmikofeildnpdaaGreatKYi
import Derived.Laws.AppendOwnNone
import Derived.Lib.SliceRun
import Derived.IntWalk
import Derived.Laws.IdiomCopy
import Derived.Test.YtmikofeildnpdaaGreatKYf
import Derived.Test.YtmikofeildnpdaaGreatKYm

set_option maxRecDepth 100000
set_option maxHeartbeats 12800000
/- Rounds in ascending order, each once: plain lists. -/
namespace Go.Proofs.YtmikofeildnpdaaGreat
theorem asc_unique {l1 l2:List (List Int)} (h1:AscL l1) (h2:AscL l2) (h:∀ x,x∈l1↔x∈l2):l1=l2:=sorted_unique (lt:=fun a b=>cmpL a b < 0) cmpL_asymm h1 h2 h
end Go.Proofs.YtmikofeildnpdaaGreat

/- append onto rows that a call made: at any world, and at a step of a region that draws its order; no program in sight. -/
namespace Go.Proofs.YtmikofeildnpdaaGreat
open Go.RowKit
def NewAt (w:World) (v v':Value):Prop:=v'.ownBlock=v.ownBlock∨v'.ownBlock=some w.heap.size
section
variable {α:Type} {E:TypeId} {k:Nat} {El:World→List Value→α→Prop} {B n:Nat} {v:Value} {xs:List α}
theorem run_appX {P:Program} {T ty:TypeId} {z:Value} {bytes:Nat} (hE:ElemK P T E z k bytes) (hby:bytes≤128) (hk:0 < k) (hS:Stab E El) {w:World} {cs:List Value} {x:α}
  (hown:OwX E k El w B v n xs) (ad:Addr) (c:Nat) (hcs:cs.length=k) (hnews:∀ j u,cs[j]? = some u→w.cell? (ad.add j)=some u) (hc1:∀ u∈cs,u.oneCell'=true) (hEl:El w cs x) (hn:n≤1000000000000) (hB:B≤w.heap.size) :
  ∃ v' w',(Builtin.append_ #[T,T] ty #[v,.slice (some ad) 1 c]).run P w = .ok v' w'∧OwX E k El w' B v' (n+1) (xs ++ [x])∧w.grownBy w' v.ownBlock∧NewAt w v v'∧Below B w w'∧KeepX E w w':=by
 obtain ⟨i0,hi,hz0,hz1,hz2⟩:=info_parts hE.2.1
 obtain ⟨vs,k1,k2,k3,k4⟩:=hown
 have hvl:vs.length=n * k:=k1.1
 have hbd:(n+1) * bytes≤140737488355328:=by
  have:(n+1) * bytes≤1000000000001 * 128:=Nat.mul_le_mul (by omega) hby
  omega
 obtain ⟨v',w',hr,h1,hg,_,h5⟩:=run_append_own_at (P:=P) w B T ty E i0 z k bytes hE.1 hi hz0 hz1 hz2 hE.2.2 hk v n vs k1 ad 1 c cs (by simpa using hcs) hnews hc1 (by unfold maxLen; omega) hbd hB
 have hX:KeepX E w w':=KeepX.own k1 hg
 refine ⟨v',w',hr,⟨vs++cs,h1,by simp [k2],?_,fun j x' hj=>?_⟩,hg,h5,(Below.refl B w).grown hg hB (fun k hk=>(k1.lt k hk).1),hX⟩
 ·intro u hu
  rcases List.mem_append.1 hu with hu | hu
  ·exact k3 u hu
  ·exact hc1 u hu
 ·by_cases hjn:j < n
  ·rw [List.getElem?_append_left (by omega)] at hj
   have hle:j * k+k≤n * k:=by rw [← Nat.succ_mul]; exact Nat.mul_le_mul_right _ hjn
   rw [List.drop_append_of_le_length (by omega),List.take_append_of_le_length (by rw [List.length_drop]; omega)]
   exact hS _ _ _ _ (k4 j x' hj) hX
  ·rw [List.getElem?_append_right (by omega)] at hj
   have hj0:j - xs.length=0:=by
    have:=(List.getElem?_eq_some_iff.1 hj).1
    simpa using this
   rw [hj0] at hj
   simp only [List.getElem?_cons_zero,Option.some.injEq] at hj
   subst hj
   obtain rfl:j=n:=by omega
   rw [← hvl,List.drop_left,List.take_of_length_le (by omega)]
   exact hS _ _ _ _ hEl hX
theorem wp_appX {P:Program} {T:TypeId} {z:Value} {bytes:Nat} (hE:ElemK P T E z k bytes) (hby:bytes≤128) (hk:0 < k) (hS:Stab E El) {w:World} {cs:List Value} {x:α} {o:Oper} {a:Act} {K:Act→World→Prop} {Q:Exit→Act→World→Prop} (s y:Operand)
  (ho:o.op = .call { callee:=.builtin .append,args:=#[s,y],argTypes:=#[T,T] }) (hs:a.eval s=v) (hown:OwX E k El w B v n xs) (ad:Addr) (c:Nat) (hx:a.eval y = .slice (some ad) 1 c) (hcs:cs.length=k)
  (hnews:∀ j u,cs[j]? = some u→w.cell? (ad.add j)=some u) (hc1:∀ u∈cs,u.oneCell'=true) (hEl:El w cs x) (hn:n≤1000000000000) (hB:B≤w.heap.size)
  (h:∀ v' w',OwX E k El w' B v' (n+1) (xs ++ [x])→w.grownBy w' v.ownBlock→NewAt w v v'→Below B w w'→KeepX E w w'→K (a.put o.dst v') w'):o.wp P a w K Q:=by
 obtain ⟨v',w',hr,h2,h3,h4,h5,h6⟩:=run_appX (P:=P) (ty:=o.type) hE hby hk hS hown ad c hcs hnews hc1 hEl hn hB
 unfold Oper.wp execOp
 simp only [ho,resolve,invoke,builtin,Sem.run_bind,Sem.run_pure,Result.andThen_ok,List.map_toArray,List.map_cons,List.map_nil,hs,hx,hr]
 exact h v' w' h2 h3 h4 h5 h6
end
end Go.Proofs.YtmikofeildnpdaaGreat

/- The references: Same of adversaries; Classes. -/
namespace Go.Proofs.YtmikofeildnpdaaGreat
open Go.RowKit Go.ChangeMaps Go.MapKept
theorem boxAdv2 {w:World} {m n:Int} {a b:Option Addr} {l c l' c':Nat} {w1:World} (hw:w1=(w.alloc (.cells #[.int .i64 m,.slice a l c] 24)).alloc (.cells #[.int .i64 n,.slice b l' c'] 24)) :
  Below w.heap.size w w1∧(w1.cell? ⟨w.heap.size,0,none⟩=some (.int .i64 m)∧w1.cell? ⟨w.heap.size,1,none⟩=some (.slice a l c))∧(w1.cell? ⟨w.heap.size+1,0,none⟩=some (.int .i64 n)∧w1.cell? ⟨w.heap.size+1,1,none⟩=some (.slice b l' c'))∧
  w1.heap[w.heap.size+1]? = some (.cells #[.int .i64 n,.slice b l' c'] 24)∧w1.heap.size=w.heap.size+2:=by
 obtain ⟨b1,p0,p1,_⟩:=boxAdv (w:=w) (n:=m) (a:=a) (l:=l) (c:=c) rfl
 obtain ⟨b2,q0,q1,q2⟩:=boxAdv hw
 rw [World.size_alloc] at q0 q1 q2
 exact ⟨bt b1 b2 b1.size,⟨cell_kept b2 p0,cell_kept b2 p1⟩,⟨q0,q1⟩,q2,by rw [hw]; simp⟩
theorem sameRef {w:World} {u v:Value} {m n:Int} {xs ys:List (List (List Int))} (hx:AdvV w u m xs) (hy:AdvV w v n ys) :
  Calls Tryz.prog 17 #[u,v] w fun e w'=>e = .returned (.bool (decide (m=n) && decide (xs=ys)))∧Below w.heap.size w w':=by
 obtain ⟨su,rfl,hu⟩:=hx
 obtain ⟨sv,rfl,hv⟩:=hy
 obtain ⟨xa,xc,xb,xo,rfl,hxa,hxc,_⟩:=hu
 obtain ⟨ya,yc,yb,yo,rfl,hya,hyc,_⟩:=hv
 obtain ⟨W1,hW1⟩:=exF ((w.alloc (.cells #[.int .i64 m,.slice xa xs.length xc] 24)).alloc (.cells #[.int .i64 n,.slice ya ys.length yc] 24))
 obtain ⟨hb1,⟨p0,p1⟩,⟨r0,r1⟩,_⟩:=boxAdv2 hW1
 by_cases hmn:m=n
 ·subst hmn
  rw [decide_eq_true rfl,Bool.true_and]
  obtain ⟨B,hB⟩:∃ B,decide (xs=ys)=B:=⟨_,rfl⟩
  rw [hB]
  replace hB:=Lib.hid hB
  by_cases hlen:xs.length=ys.length
  ·rw [← hlen] at hW1 r1 ⊢
   replace hlen:=Lib.hid hlen
   have hxc:=Lib.hid (fun j (hj:j < xs.length)=>show ∃ u,W1.cell? ⟨xb,xo+j,none⟩=some u∧KS 8 W1 u (xs.getD j []) from let ⟨u,h1,h2⟩:=hxc j hj; ⟨u,cell_kept hb1 h1,h2.keep hb1⟩)
   have hyc:=Lib.hid (fun j (hj:j < ys.length)=>show ∃ u,W1.cell? ⟨yb,yo+j,none⟩=some u∧KS 8 W1 u (ys.getD j []) from let ⟨u,h1,h2⟩:=hyc j hj; ⟨u,cell_kept hb1 h1,h2.keep hb1⟩)
   have h0:Hid (xs.take 0=ys.take 0):=rfl
   go_enter Tryz.func17, Tryz.ntmps17
   go_wp2_with fail
   rw [← hW1]
   replace hW1:=Lib.hid hW1
   go_wp2_with fail
   go_loopw [5] (fun iv wr=>∃ i:Nat,iv = .int .i64 i∧i≤xs.length∧Hid (xs.take i=ys.take i)∧Qt W1 wr) (fun iv _=>xs.length - (intOf iv).toNat)
   case atStart=>exact ⟨0,rfl,by omega,h0,Qt.refl _⟩
   case round=>
    clear h0
    obtain ⟨i,rfl,hi,ht,n,rfl⟩:=hrel
    by_cases hlt:i < xs.length
    ·obtain rfl:=hxa (by omega)
     obtain rfl:=hya (by rw [← hlen.out]; omega)
     have hlt':i < ys.length:=by rw [← hlen.out]; exact hlt
     obtain ⟨u1,hxi,hxk⟩:=hxc.out i hlt
     obtain ⟨u2,hyi,hyk⟩:=hyc.out i hlt'
     obtain ⟨x,hx⟩:=exE (xs.getD i [])
     obtain ⟨y,hy⟩:=exE (ys.getD i [])
     rw [hx] at hxk
     rw [hy] at hyk
     have hyes:Hid (x=y→xs.take (i+1)=ys.take (i+1)):=fun h=>takes_next ht.out hlt hlt' (d:=[]) (by rw [hx,hy,h])
     have hno:Hid (x ≠ y→B=false):=fun h=>by
      rw [← hB.out]
      exact decide_eq_false fun h2=>h (by rw [← hx,← hy,h2])
     obtain ⟨ma,mc,mb,mo,rfl,hma,hmc,_⟩:=hxk
     obtain ⟨na,nc,nb,no,rfl,hna,hnc,_⟩:=hyk
     replace hmc:=Lib.hid hmc
     replace hnc:=Lib.hid hnc
     have hix:(i:Int) < (xs.length:Int):=by omega
     clear hx hy ht
     by_cases hl2:x.length=y.length
     ·rw [← hl2] at hyi
      have hl2':=Lib.hid hl2
      have h00:Hid (x.take 0=y.take 0):=rfl
      clear hl2
      go_wp2_with fail
      go_quiet (fail)
      go_wp2_with fail
      go_loopw [6] (fun jv wr=>∃ j:Nat,jv = .int .i64 j∧j≤x.length∧Hid (x.take j=y.take j)∧Qt W1 wr) (fun jv _=>x.length - (intOf jv).toNat)
      case atStart=>exact ⟨0,rfl,by omega,h00,by first | exact (Qt.mk' W1 n).step nq | exact Qt.mk' W1 _⟩
      case round=>
       clear h00
       obtain ⟨j,rfl,hj,ht,k,rfl⟩:=hrel
       by_cases hltj:j < x.length
       ·obtain rfl:=hma (by omega)
        obtain rfl:=hna (by rw [← hl2'.out]; omega)
        have hltj':j < y.length:=by rw [← hl2'.out]; exact hltj
        obtain ⟨hx8,hxj⟩:=hmc.out j hltj
        obtain ⟨hy8,hyj⟩:=hnc.out j hltj'
        obtain ⟨p,hp⟩:=exE (x.getD j [])
        obtain ⟨q,hq⟩:=exE (y.getD j [])
        rw [hp] at hx8 hxj
        rw [hq] at hy8 hyj
        obtain ⟨x0,x1,x2,x3,x4,x5,x6,x7,rfl⟩:=eight hx8
        obtain ⟨y0,y1,y2,y3,y4,y5,y6,y7,rfl⟩:=eight hy8
        obtain ⟨c0,c1,c2,c3,c4,c5,c6,c7⟩:=hxj.all8
        obtain ⟨d0,d1,d2,d3,d4,d5,d6,d7⟩:=hyj.all8
        have hjx:(j:Int) < (x.length:Int):=by omega
        clear hxj hyj hx8 hy8
        by_cases he : [x0,x1,x2,x3,x4,x5,x6,x7] = [y0,y1,y2,y3,y4,y5,y6,y7]
        ·have hE:eqL [x0,x1,x2,x3,x4,x5,x6,x7] [y0,y1,y2,y3,y4,y5,y6,y7]=true:=eqL_true.2 he
         have ht2:Hid (x.take (j+1)=y.take (j+1)):=takes_next ht.out hltj hltj' (by rw [hp,hq,he])
         clear hp hq he ht
         go_wp2_with fail
         go_quiet (fail)
         go_wp2_with fail
         go_roundw
         case rel=>exact ⟨j+1,by go_num,hltj,ht2,by first | exact (Qt.mk' W1 k).step nq | exact Qt.mk' W1 _⟩
         case measure=>simp [intOf]; omega
        ·have hE:eqL [x0,x1,x2,x3,x4,x5,x6,x7] [y0,y1,y2,y3,y4,y5,y6,y7]=false:=eqL_false.2 he
         have hBf:Hid (B=false):=hno.out fun h=>he (by rw [← hp,← hq,h])
         clear hp hq he ht hyes hno
         go_wp2_with fail
         go_quiet (fail)
         go_wp2_with fail
         go_ret
         exact ⟨by rw [hBf.out]; rfl,by first | exact below_drewN hb1 _ | exact below_drewN (below_drewN hb1 _) _⟩
       ·have ht2:Hid (xs.take (i+1)=ys.take (i+1)):=hyes.out (takes_all ht.out (by omega) (by rw [← hl2'.out]; omega))
        clear hyes hno ht
        go_wp2_with fail
        go_roundw
        case rel=>exact ⟨i+1,by go_num,hlt,ht2,Qt.mk' W1 _⟩
        case measure=>simp [intOf]; omega
     ·have hBf:Hid (B=false):=hno.out fun h=>hl2 (by rw [h])
      have h1:((x.length:Int) == (y.length:Int))=false:=by simp; omega
      clear hyes hno
      go_wp2_with fail
      go_quiet (fail)
      go_wp2_with fail
      go_ret
      exact ⟨by rw [hBf.out]; rfl,by first | exact below_drewN hb1 _ | exact below_drewN (below_drewN hb1 _) _⟩
    ·have hBt:Hid (B=true):=by
      show _=_
      rw [← hB.out]
      exact decide_eq_true (takes_all ht.out (by omega) (by rw [← hlen.out]; omega))
     clear ht
     go_wp2_with fail
     go_ret
     exact ⟨by rw [hBt.out]; rfl,below_drewN hb1 _⟩
  ·have hBf:B=false:=by rw [← hB.out]; exact decide_eq_false fun h=>hlen (by rw [h])
   subst hBf
   have h1:((xs.length:Int) == (ys.length:Int))=false:=by simp; omega
   go_enter Tryz.func17, Tryz.ntmps17
   go_wp2_with fail
   rw [← hW1]
   go_ret
   exact ⟨rfl,hb1⟩
 ·have h1:(m == n)=false:=by simp [hmn]
  rw [decide_eq_false hmn,Bool.false_and]
  go_enter Tryz.func17, Tryz.ntmps17
  go_wp2_with fail
  rw [← hW1]
  go_ret
  exact ⟨rfl,hb1⟩
end Go.Proofs.YtmikofeildnpdaaGreat

/- The reference: To. -/
namespace Go.Proofs.YtmikofeildnpdaaGreat
open Go.RowKit
theorem refTo {w:World} {v:Value} {n:Int} {ss:List (List (List Int))} (hA:AdvV w v n ss) {i:Nat} (hi:i < ss.length) (r0 r1 r2 r3 r4 r5 r6:Int) :
  Calls Tryz.prog 215 #[v,.int .i64 (i:Int),.agg #[.int .i64 r0,.int .i64 r1,.int .i64 r2,.int .i64 r3,.int .i64 r4,.int .i64 r5,.int .i64 r6]] w fun e w'=>
   e = .returned (.int .i64 (toI [r0,r1,r2,r3,r4,r5,r6] (ss.getD i [])))∧Below w.heap.size w w':=by
 obtain ⟨sv,rfl,hK⟩:=hA
 obtain ⟨sa,sc,sb,so,rfl,hsa,hsc,_⟩:=hK
 obtain rfl:=hsa (by omega)
 obtain ⟨W1,hW1⟩:=exF (w.alloc (.cells #[.int .i64 n,.slice (some ⟨sb,so,none⟩) ss.length sc] 24))
 obtain ⟨hb1,p0,p1,_⟩:=boxAdv hW1
 have hs1:W1.heap.size=w.heap.size+1:=by rw [hW1]; simp
 obtain ⟨W2,hW2⟩:=exF (W1.alloc (.cells #[.int .i64 r0,.int .i64 r1,.int .i64 r2,.int .i64 r3,.int .i64 r4,.int .i64 r5,.int .i64 r6] 87))
 have hb2:Below W1.heap.size W1 W2:=by rw [hW2]; exact (Below.refl _ _).alloc (Nat.le_refl _) _
 have m2:W2.heap[W1.heap.size]? = some (.cells #[.int .i64 r0,.int .i64 r1,.int .i64 r2,.int .i64 r3,.int .i64 r4,.int .i64 r5,.int .i64 r6] 87):=by rw [hW2]; exact heap_alloc_new _ _
 have hc2:=box7CI m2
 rw [hs1] at hc2
 have hb02:=bt hb1 hb2 hb1.size
 have q1:=cell_kept hb2 p1
 obtain ⟨u,hcu,hu⟩:=hsc i hi
 have hcu:=cell_kept hb02 hcu
 have hu:=hu.keep hb02
 obtain ⟨ms,hms⟩:=exE (ss.getD i [])
 rw [hms] at hu ⊢
 obtain ⟨ma,mc,mb,mo,rfl,hma,hmc,_⟩:=hu
 replace hmc:=Lib.hid hmc
 replace hc2:=Lib.hid hc2
 obtain ⟨z,hz⟩:=exE (toI [r0,r1,r2,r3,r4,r5,r6] ms)
 have hz0:Hid (toI [r0,r1,r2,r3,r4,r5,r6] (ms.drop 0)=z):=by show _=_; rw [List.drop_zero]; exact hz
 rw [hz]
 have hs2a:W2.heap.size≤w.heap.size+2:=by rw [hW2]; simp; omega
 have hs2b:w.heap.size+2≤W2.heap.size:=by rw [hW2]; simp; omega
 rw [hW1] at hW2
 clear hsc hms hz m2 p0 p1 hb1
 have q1':=q1
 have hcu':=hcu
 rw [hW2] at q1' hcu'
 go_enter Tryz.func215, Tryz.ntmps215
 go_wp2
 rw [← hW2]
 replace hW2:=Lib.hid hW2
 obtain ⟨d0,d1,d2,d3,d4,d5,d6⟩:=hc2.out.all7
 simp only [Nat.zero_add] at d0 d1 d2 d3 d4 d5 d6
 go_loopw [8] (fun jv wr=>∃ k:Nat,jv = .int .i64 k∧k≤ms.length∧Hid (toI [r0,r1,r2,r3,r4,r5,r6] (ms.drop k)=z)∧Qt W2 wr) (fun jv _=>ms.length - (intOf jv).toNat)
 case atStart=>exact ⟨0,rfl,by omega,hz0,Qt.refl _⟩
 case round=>
  clear hz0
  obtain ⟨k,rfl,hk,hzk,nd,rfl⟩:=hrel
  by_cases hlt:k < ms.length
  ·obtain rfl:=hma (by omega)
   obtain ⟨hx8,hxi⟩:=hmc.out k hlt
   obtain ⟨x,hx⟩:=exE (ms.getD k [])
   have hdr:=drop_cons hlt ([]:List Int)
   rw [hx] at hx8 hxi hdr
   rw [hdr] at hzk
   obtain ⟨x0,x1,x2,x3,x4,x5,x6,x7,rfl⟩:=eight hx8
   obtain ⟨c0,c1,c2,c3,c4,c5,c6,c7⟩:=hxi.all8
   clear hxi hx8 hx hdr
   by_cases he : [x0,x1,x2,x3,x4,x5,x6] = [r0,r1,r2,r3,r4,r5,r6]
   ·have hE:eqL [x0,x1,x2,x3,x4,x5,x6] [r0,r1,r2,r3,r4,r5,r6]=true:=eqL_true.2 he
    have hzx:x7=z:=by
     have h:=hzk.out
     rw [toI,if_pos (show rdOf [x0,x1,x2,x3,x4,x5,x6,x7]=_ from he)] at h
     exact h
    subst hzx
    clear he hzk
    go_wp2
    go_quiet (fail)
    go_wp2
    go_ret
    exact ⟨rfl,below_drewN hb02 _⟩
   ·have hE:eqL [x0,x1,x2,x3,x4,x5,x6] [r0,r1,r2,r3,r4,r5,r6]=false:=eqL_false.2 he
    have hz2:Hid (toI [r0,r1,r2,r3,r4,r5,r6] (ms.drop (k+1))=z):=by
     have h:=hzk.out
     rwa [toI,if_neg (show ¬ rdOf [x0,x1,x2,x3,x4,x5,x6,x7]=_ from he)] at h
    clear he hzk
    go_wp2
    go_quiet (fail)
    go_wp2
    go_roundw
    case rel=>exact ⟨k+1,by go_num,hlt,hz2,Qt.mk' _ _⟩
    case measure=>simp [intOf]; omega
  ·have hzx : -1=z:=by
    have h:=hzk.out
    rw [List.drop_eq_nil_of_le (by omega),toI] at h
    exact h
   subst hzx
   clear hzk
   go_wp2
   go_ret
   exact ⟨rfl,below_drewN hb02 _⟩
end Go.Proofs.YtmikofeildnpdaaGreat

/- append of a whole slice of structs of ints onto a row that a call made. -/
namespace Go.Proofs.YtmikofeildnpdaaGreat
open Go.RowKit
theorem chunks_eq {α:Type} {k:Nat}:∀ (n:Nat) (a b:List α),a.length=n * k→b.length=n * k→(∀ j,j < n→(a.drop (j * k)).take k=(b.drop (j * k)).take k)→a=b
 | 0,a,b,ha,hb,_=>by
  rw [Nat.zero_mul] at ha hb
  rw [List.length_eq_zero_iff.1 ha,List.length_eq_zero_iff.1 hb]
 | n+1,a,b,ha,hb,h=>by
  rw [Nat.succ_mul] at ha hb
  rw [← List.take_append_drop k a,← List.take_append_drop k b]
  have h0:=h 0 (by omega)
  rw [Nat.zero_mul,List.drop_zero,List.drop_zero] at h0
  rw [h0,chunks_eq (k:=k) n (a.drop k) (b.drop k) (by rw [List.length_drop]; omega) (by rw [List.length_drop]; omega) fun j hj=>?_]
  have:=h (j+1) (by omega)
  rw [Nat.succ_mul,Nat.add_comm (j * k) k] at this
  rwa [List.drop_drop,List.drop_drop]
theorem OwX.lens {E:TypeId} {k:Nat} {w:World} {B n:Nat} {v:Value} {xs:List (List Int)} (h:OwX E k EI w B v n xs):∀ x∈xs,x.length=k:=fun x hx=>by
 obtain ⟨vs,h1,h2,h3,h4⟩:=h
 obtain ⟨j,hj,rfl⟩:=List.getElem_of_mem hx
 have he:(vs.drop (j * k)).take k=xs[j].map (Value.int .i64):=h4 j _ (List.getElem?_eq_getElem hj)
 have hvl:vs.length=n * k:=h1.1
 have hle:j * k+k≤n * k:=by rw [← Nat.succ_mul]; exact Nat.mul_le_mul_right _ (by omega)
 have:=congrArg List.length he
 rw [List.length_take,List.length_drop,List.length_map] at this
 omega
theorem OwX.flatV {E:TypeId} {k:Nat} {w:World} {B n:Nat} {v:Value} {xs:List (List Int)} (h:OwX E k EI w B v n xs):w.ownsRow B E k v n (xs.flatten.map (Value.int .i64)):=by
 have hl:=h.lens
 obtain ⟨vs,h1,h2,h3,h4⟩:=h
 have hvl:vs.length=n * k:=h1.1
 have:vs=xs.flatten.map (Value.int .i64):=by
  refine chunks_eq n _ _ hvl (by rw [List.length_map,flat_len hl,h2]) fun j hj=>?_
  have hx:xs[j]? = some xs[j]:=List.getElem?_eq_getElem (by omega)
  have he:(vs.drop (j * k)).take k=xs[j].map (Value.int .i64):=h4 j _ hx
  rw [he,← List.map_drop,← List.map_take,flat_get hl hx]
 rw [← this]; exact h1
theorem run_appXs {P:Program} {T E ty:TypeId} {z:Value} {k bytes:Nat} (hE:ElemK P T E z k bytes) (hby:bytes≤128) (hk:0 < k) {w:World} {B n:Nat} {v:Value} {xs ys:List (List Int)}
  (hown:OwX E k EI w B v n xs) {ya:Option Addr} {yc:Nat} (hy:KS k w (.slice ya ys.length yc) ys) (hz:ya=none→yc=0) (hn:n+ys.length≤1000000) (hB:B≤w.heap.size) :
  ∃ v' w',(Builtin.append_ #[T,T] ty #[v,.slice ya ys.length yc]).run P w = .ok v' w'∧OwX E k EI w' B v' (n+ys.length) (xs++ys)∧w.grownBy w' v.ownBlock∧Below B w w'∧KeepX E w w':=by
 obtain ⟨i0,hi,hz0,hz1,hz2⟩:=info_parts hE.2.1
 have hfl:=hown.flatV
 have hlx:=hown.lens
 have hxn:=hown.length
 obtain ⟨a',c',b,off,he,ha,hc,_⟩:=hy
 injection he with he1 he2 he3
 subst he1 he3
 have hly:=KS.lens hc
 have hlens:∀ x∈xs++ys,x.length=k:=fun x hx=>by
  rcases List.mem_append.1 hx with h | h
  ·exact hlx x h
  ·exact hly x h
 cases ya with
 | none=>
  obtain rfl:=hz rfl
  have h0:ys.length=0:=by
   rcases Nat.eq_zero_or_pos ys.length with h | h
   ·exact h
   ·cases ha h
  obtain rfl:=List.length_eq_zero_iff.1 h0
  exact ⟨v,w,run_append_owned_none (P:=P) (w:=w) B T ty E i0 k hE.1 hi v n _ hfl,by rw [List.append_nil]; exact hown,⟨rfl,rfl,rfl,Nat.le_refl _,fun _ _ _=>rfl⟩,Below.refl _ _,KeepX.below (Below.refl _ _)⟩
 | some ad=>
  have hnews:∀ j u,(ys.flatten.map (Value.int .i64))[j]? = some u→w.cell? (ad.add j)=some u:=fun j u hj=>by
   have hpos:0 < ys.length:=by
    rcases Nat.eq_zero_or_pos ys.length with h | h
    ·rw [List.length_eq_zero_iff.1 h] at hj; simp at hj
    ·exact h
   have:=ha hpos
   injection this with this
   subst this
   rw [Addr.add_lit]
   exact KS.flat hc j u hj
  have hone:∀ u∈ys.flatten.map (Value.int .i64),u.oneCell'=true:=fun u hu=>by
   obtain ⟨i,_,rfl⟩:=List.mem_map.1 hu; rfl
  have hbd:(n+ys.length) * bytes≤140737488355328:=by
   have:(n+ys.length) * bytes≤1000000 * 128:=Nat.mul_le_mul hn hby
   omega
  obtain ⟨v',w',hr,h1,hg,_,_⟩:=run_append_own_at (P:=P) w B T ty E i0 z k bytes hE.1 hi hz0 hz1 hz2 hE.2.2 hk v n _ hfl ad ys.length yc (ys.flatten.map (Value.int .i64)) (by rw [List.length_map,flat_len hly]) hnews hone (by unfold maxLen; omega) hbd hB
  refine ⟨v',w',hr,OwX.ofFlat (by rw [List.flatten_append,List.map_append]; exact h1) hlens (by rw [List.length_append,hxn]),hg,(Below.refl B w).grown hg hB (fun k hk=>(hfl.lt k hk).1),KeepX.own hfl hg⟩
theorem wpList_appXs {P:Program} {T E:TypeId} {z:Value} {k bytes:Nat} (hE:ElemK P T E z k bytes) (hby:bytes≤128) (hk:0 < k) {w:World} {ops:Array Oper} {rest:List Oper} {o:Oper} {a:Act} {Q:Exit→Act→World→Prop} (hgd:o.guard=none) (s y:Operand)
  (ho:o.op = .call { callee:=.builtin .append,args:=#[s,y],argTypes:=#[T,T] }) {B n:Nat} {v:Value} {xs ys:List (List Int)} (hs:a.eval s=v)
  (hown:OwX E k EI w B v n xs) {ya:Option Addr} {yc m:Nat} (hx:a.eval y = .slice ya m yc) (hm:m=ys.length) (hy:KS k w (.slice ya ys.length yc) ys) (hz:ya=none→yc=0) (hn:n+ys.length≤1000000) (hB:B≤w.heap.size)
  (h:∀ v' w',OwX E k EI w' B v' (n+ys.length) (xs++ys)→w.grownBy w' v.ownBlock→Below B w w'→KeepX E w w'→wpList P ops Q rest (a.put o.dst v') w'):wpList P ops Q (o::rest) a w:=by
 subst hm
 refine wpList_plain hgd fun K hK=>?_
 obtain ⟨v',w',hr,h2,h3,h4,h5⟩:=run_appXs (P:=P) (ty:=o.type) hE hby hk hown hy hz hn hB
 unfold Oper.wp execOp
 simp only [ho,resolve,invoke,builtin,Sem.run_bind,Sem.run_pure,Result.andThen_ok,List.map_toArray,List.map_cons,List.map_nil,hs,hx,hr]
 exact hK _ _ (h v' w' h2 h3 h4 h5)
theorem OwX.cap {α:Type} {E:TypeId} {k:Nat} {El:World→List Value→α→Prop} {w:World} {B n m c:Nat} {a:Option Addr} {xs:List α} (h:OwX E k El w B (.slice a m c) n xs):n≤c:=by
 obtain ⟨vs,h1,_⟩:=h
 rcases h1.2 with ⟨he,h0⟩ | ⟨g,cap,cur,he,_,_,hc,_⟩
 ·omega
 ·injection he with _ _ e3
  subst e3; exact hc
theorem OwX.nilc {α:Type} {E:TypeId} {k:Nat} {El:World→List Value→α→Prop} {w:World} {B n m c:Nat} {a:Option Addr} {xs:List α} (h:OwX E k El w B (.slice a m c) n xs):a=none→c=0∧xs.length=0:=fun ha=>by
 obtain ⟨vs,h1,h2,_⟩:=h
 rcases h1.2 with ⟨he,h0⟩ | ⟨g,cap,cur,he,_⟩
 ·injection he with _ e2 e3
  exact ⟨e3,by omega⟩
 ·injection he with e1 _ _
  rw [ha] at e1; cases e1
theorem KS.front {k:Nat} {w:World} {a:Option Addr} {c:Nat} {xs:List (List Int)} (h:KS k w (.slice a xs.length c) xs) (m:Nat) (hm:m≤xs.length):KS k w (.slice a (xs.take m).length c) (xs.take m):=by
 obtain ⟨a',c',b,off,he,ha,hc,hl⟩:=h
 injection he with he1 _ he3
 subst he1 he3
 refine ⟨a,c,b,off,rfl,fun h=>ha (by rw [List.length_take] at h; omega),fun j hj=>?_,by rw [List.length_take]; omega⟩
 rw [List.length_take] at hj
 have:=hc j (by omega)
 rwa [show (xs.take m).getD j []=xs.getD j [] by rw [List.getD_eq_getElem?_getD,List.getElem?_take,if_pos (by omega),← List.getD_eq_getElem?_getD]]
theorem KS.back {k:Nat} {w:World} {b off c:Nat} {xs:List (List Int)} (h:KS k w (.slice (some ⟨b,off,none⟩) xs.length c) xs) (m:Nat) (hm:m≤xs.length) (c':Nat) (ad:Option Addr) (had:m < xs.length→ad=some ⟨b,off+m * k,none⟩):KS k w (.slice ad (xs.drop m).length c') (xs.drop m):=by
 obtain ⟨a',c1,b',off',he,ha,hc,hl⟩:=h
 injection he with he1 _ he3
 refine ⟨ad,c',b,off+m * k,rfl,fun h=>had (by rw [List.length_drop] at h; omega),fun j hj=>?_,by rw [List.length_drop]; omega⟩
 rw [List.length_drop] at hj
 have h2:=ha (by omega)
 rw [← he1] at h2
 injection h2 with h2
 injection h2 with hb ho
 subst hb ho
 have:=hc (m+j) (by omega)
 rw [show (xs.drop m).getD j []=xs.getD (m+j) [] by rw [List.getD_eq_getElem?_getD,List.getElem?_drop,← List.getD_eq_getElem?_getD],show off+m * k+j * k=off+(m+j) * k by rw [Nat.add_mul]; omega]
 exact this
theorem OwX.rest {E:TypeId} {k:Nat} {w:World} {B n c:Nat} {a:Option Addr} {xs:List (List Int)} (h:OwX E k EI w B (.slice a n c) n xs) (hn:n≤2199023255552) {m:Nat} (hm:m≤n) :
  KS k w (.slice (if c=m then a else a.map (fun p:Addr=>p.add (m * k))) (xs.drop m).length (c - m)) (xs.drop m)∧((if c=m then a else a.map (fun p:Addr=>p.add (m * k)))=none→c - m=0):=by
 have hc:=h.cap
 have hz:=h.nilc
 have hl:=h.length
 subst hl
 have hks:=h.ks hn
 constructor
 ·cases a with
  | none=>
   obtain ⟨_,h0⟩:=hz rfl
   obtain rfl:=List.length_eq_zero_iff.1 h0
   rw [List.drop_nil]
   exact KS.nil _ _ _ _
  | some ad=>
   obtain ⟨a',c',b,off,he,ha,hcs,_⟩:=id hks
   injection he with he1 _ he3
   rcases Nat.eq_zero_or_pos xs.length with h0 | h0
   ·obtain rfl:=List.length_eq_zero_iff.1 h0
    rw [List.drop_nil]
    exact KS.nil _ _ _ _
   ·have:=ha h0
    rw [← he1] at this
    injection this with this
    subst this
    refine hks.back m hm _ _ fun hlt=>?_
    rw [if_neg (by omega)]
    show some (Addr.add _ _)=_
    rw [Addr.add_lit]
 ·intro h1
  cases a with
  | none=>obtain ⟨h2,_⟩:=hz rfl; omega
  | some ad=>
   split at h1
   ·cases h1
   ·cases h1
end Go.Proofs.YtmikofeildnpdaaGreat

/- slices.Compact at rows of rounds. -/
namespace Go.Proofs.YtmikofeildnpdaaGreat
open Go.RowKit
theorem OwX.store7 {w:World} {B g n cap:Nat} {xs:List (List Int)} (h:OwX 87 7 EI w B (.slice (some ⟨g,0,none⟩) n cap) n xs) {j:Nat} (hj:j < n) (y0 y1 y2 y3 y4 y5 y6:Int) :
  OwX 87 7 EI (((((((w.setCell ⟨g,j * 7,none⟩ (.int .i64 y0)).setCell ⟨g,j * 7+1,none⟩ (.int .i64 y1)).setCell ⟨g,j * 7+2,none⟩ (.int .i64 y2)).setCell ⟨g,j * 7+3,none⟩ (.int .i64 y3)).setCell ⟨g,j * 7+4,none⟩ (.int .i64 y4)).setCell ⟨g,j * 7+5,none⟩ (.int .i64 y5)).setCell ⟨g,j * 7+6,none⟩ (.int .i64 y6)) B (.slice (some ⟨g,0,none⟩) n cap) n (xs.set j [y0,y1,y2,y3,y4,y5,y6]):=by
 have hl:=h.length
 obtain ⟨h7,_⟩:=h.intCells hj
 have h0:=(h.storeI hj (i:=0) (by decide) y0).1
 have h1:=(h0.storeI hj (i:=1) (by decide) y1).1
 have h2:=(h1.storeI hj (i:=2) (by decide) y2).1
 have h3:=(h2.storeI hj (i:=3) (by decide) y3).1
 have h4:=(h3.storeI hj (i:=4) (by decide) y4).1
 have h5:=(h4.storeI hj (i:=5) (by decide) y5).1
 have h6:=(h5.storeI hj (i:=6) (by decide) y6).1
 have hg:∀ (a:List Int),(xs.set j a).getD j []=a:=fun a=>by
  rw [List.getD_eq_getElem?_getD,List.getElem?_set_self (by omega)]; rfl
 simp only [hg,List.set_set] at h6
 obtain ⟨a,b,c,d,e,f,i,hx⟩:=seven h7
 rw [hx] at h6
 exact h6
theorem below7 {w w':World} {B g:Nat} {a b c d e f i:Nat} {va vb vc vd ve vf vi:Value} (h:Below B w w') (hg:B≤g) :
  Below B w (((((((w'.setCell ⟨g,a,none⟩ va).setCell ⟨g,b,none⟩ vb).setCell ⟨g,c,none⟩ vc).setCell ⟨g,d,none⟩ vd).setCell ⟨g,e,none⟩ ve).setCell ⟨g,f,none⟩ vf).setCell ⟨g,i,none⟩ vi):=by
 have h1:=h.setCell (p:=⟨g,a,none⟩) hg va
 have h2:=h1.setCell (p:=⟨g,b,none⟩) hg vb
 have h3:=h2.setCell (p:=⟨g,c,none⟩) hg vc
 have h4:=h3.setCell (p:=⟨g,d,none⟩) hg vd
 have h5:=h4.setCell (p:=⟨g,e,none⟩) hg ve
 have h6:=h5.setCell (p:=⟨g,f,none⟩) hg vf
 exact h6.setCell (p:=⟨g,i,none⟩) hg vi
end Go.Proofs.YtmikofeildnpdaaGreat

/- round.Compare as the library's sort asks it; slices.SortFunc at rounds. -/
namespace Go.Proofs.YtmikofeildnpdaaGreat
open Go.RowKit
theorem graphCompareG (n h0 h1 h2 h3 h4 m g0 g1 g2 g3 g4:Int) (w:World):Calls Tryz.prog 135 #[.agg #[.int .i64 n,.int .i64 h0,.int .i64 h1,.int .i64 h2,.int .i64 h3,.int .i64 h4],.agg #[.int .i64 m,.int .i64 g0,.int .i64 g1,.int .i64 g2,.int .i64 g3,.int .i64 g4]] w fun e w'=>e = .returned (.int .i64 (cmpL [n,h0,h1,h2,h3,h4] [m,g0,g1,g2,g3,g4]))∧Below w.heap.size w w'∧w.drawn≤w'.drawn:=by
 by_cases he : [n,h0,h1,h2,h3,h4] = [m,g0,g1,g2,g3,g4]
 ·have hE:=Lib.hid (show cmpL [n,h0,h1,h2,h3,h4] [m,g0,g1,g2,g3,g4]=0 by rw [he]; exact cmpL_self _)
  have he':=Lib.hid (eqL_true.2 he)
  clear he
  go_enter Tryz.func135, Tryz.ntmps135
  have he1:=he'.out
  go_wp2
  go_ret
  exact ⟨ret_int hE.out.symm,(((Below.refl w.heap.size w).alloc (Nat.le_refl _) _).alloc (by simp) _),(by first | exact Nat.le_refl _ | exact hd1 | exact Nat.le_add_right _ _ | exact Nat.le_trans (Nat.le_add_right _ _) (Nat.le_add_right _ _))⟩
 ·have he':=eqL_false.2 he
  clear he
  obtain ⟨E,hE⟩:=exE (cmpL [n,h0,h1,h2,h3,h4] [m,g0,g1,g2,g3,g4])
  rw [hE]
  by_cases hn:n=m
  ·have hE0:=Lib.hid (show cmpL [h0,h1,h2,h3,h4] [g0,g1,g2,g3,g4]=E by rw [← hE]; exact (cmpL_hd (cmpI_zero.2 hn)).symm)
   have hn':(n != m)=false:=by simp [hn]
   replace hn:=Lib.hid hn
   clear hE
   go_enter Tryz.func135, Tryz.ntmps135
   go_wp2
   go_loopw [20] (fun iv wr=>∃ (k:Int) (dn:Nat),wr=((w.alloc (.cells #[.int .i64 n,.int .i64 h0,.int .i64 h1,.int .i64 h2,.int .i64 h3,.int .i64 h4] 85)).alloc (.cells #[.int .i64 m,.int .i64 g0,.int .i64 g1,.int .i64 g2,.int .i64 g3,.int .i64 g4] 85)).drewN dn∧iv = .int .i64 k∧((k=0∧Hid (cmpL [h0,h1,h2,h3,h4] [g0,g1,g2,g3,g4]=E))∨(k=1∧Hid (cmpL [h1,h2,h3,h4] [g1,g2,g3,g4]=E))∨(k=2∧Hid (cmpL [h2,h3,h4] [g2,g3,g4]=E))∨(k=3∧Hid (cmpL [h3,h4] [g3,g4]=E))∨(k=4∧Hid (cmpL [h4] [g4]=E))∨(k=5∧Hid (cmpL [] []=E)))) (fun iv _=>5 - (intOf iv).toNat)
   case atStart=>exact ⟨0,0,(by first | rfl | simp),rfl,.inl ⟨rfl,hE0⟩⟩
   case round=>
    clear hE0
    obtain ⟨k,dn,rfl,rfl,hk⟩:=hrel
    rcases hk with ⟨rfl,hg⟩ | ⟨rfl,hg⟩ | ⟨rfl,hg⟩ | ⟨rfl,hg⟩ | ⟨rfl,hg⟩ | ⟨rfl,hg⟩
    ·obtain ⟨c,hc⟩:=exE (cmpI h0 g0)
     have hq:=fun W=>cmpIntQ h0 g0 W
     simp only [hc] at hq
     replace hq:=Lib.hid hq
     by_cases hz0:c=0
     ·subst hz0
      have hz:=Lib.hid hc
      clear hc
      go_wp2
      go_quiet ((go_at_call 111; exact quietOn (hq.out _)))
      go_wp2
      go_roundw
      case rel=>exact ⟨1,_,(by first | exact rfl | exact World.drewN_drewN _ _ _),rfl,.inr (.inl ⟨rfl,by show _=_; rw [← hg.out,cmpL_hd hz.out]⟩)⟩
      case measure=>simp [intOf]
     ·have hz':(c != 0)=true:=by simpa using hz0
      have hz:=Lib.hid (show ¬ cmpI h0 g0=0 by rw [hc]; exact hz0)
      replace hc:=Lib.hid hc
      clear hz0
      go_wp2
      go_quiet ((go_at_call 111; exact quietOn (hq.out _)))
      go_wp2
      go_ret
      exact ⟨ret_int (by rw [← hg.out,cmpL_ne hz.out,hc.out]),(by first | exact below_drewN (((Below.refl w.heap.size w).alloc (Nat.le_refl _) _).alloc (by simp) _) _ | exact below_drewN (below_drewN (((Below.refl w.heap.size w).alloc (Nat.le_refl _) _).alloc (by simp) _) _) _ | exact below_drewN (below_drewN (below_drewN (((Below.refl w.heap.size w).alloc (Nat.le_refl _) _).alloc (by simp) _) _) _) _),(by first | exact Nat.le_refl _ | exact hd1 | exact Nat.le_add_right _ _ | exact Nat.le_trans (Nat.le_add_right _ _) (Nat.le_add_right _ _))⟩
    ·obtain ⟨c,hc⟩:=exE (cmpI h1 g1)
     have hq:=fun W=>cmpIntQ h1 g1 W
     simp only [hc] at hq
     replace hq:=Lib.hid hq
     by_cases hz0:c=0
     ·subst hz0
      have hz:=Lib.hid hc
      clear hc
      go_wp2
      go_quiet ((go_at_call 111; exact quietOn (hq.out _)))
      go_wp2
      go_roundw
      case rel=>exact ⟨2,_,(by first | exact rfl | exact World.drewN_drewN _ _ _),rfl,.inr (.inr (.inl ⟨rfl,by show _=_; rw [← hg.out,cmpL_hd hz.out]⟩))⟩
      case measure=>simp [intOf]
     ·have hz':(c != 0)=true:=by simpa using hz0
      have hz:=Lib.hid (show ¬ cmpI h1 g1=0 by rw [hc]; exact hz0)
      replace hc:=Lib.hid hc
      clear hz0
      go_wp2
      go_quiet ((go_at_call 111; exact quietOn (hq.out _)))
      go_wp2
      go_ret
      exact ⟨ret_int (by rw [← hg.out,cmpL_ne hz.out,hc.out]),(by first | exact below_drewN (((Below.refl w.heap.size w).alloc (Nat.le_refl _) _).alloc (by simp) _) _ | exact below_drewN (below_drewN (((Below.refl w.heap.size w).alloc (Nat.le_refl _) _).alloc (by simp) _) _) _ | exact below_drewN (below_drewN (below_drewN (((Below.refl w.heap.size w).alloc (Nat.le_refl _) _).alloc (by simp) _) _) _) _),(by first | exact Nat.le_refl _ | exact hd1 | exact Nat.le_add_right _ _ | exact Nat.le_trans (Nat.le_add_right _ _) (Nat.le_add_right _ _))⟩
    ·obtain ⟨c,hc⟩:=exE (cmpI h2 g2)
     have hq:=fun W=>cmpIntQ h2 g2 W
     simp only [hc] at hq
     replace hq:=Lib.hid hq
     by_cases hz0:c=0
     ·subst hz0
      have hz:=Lib.hid hc
      clear hc
      go_wp2
      go_quiet ((go_at_call 111; exact quietOn (hq.out _)))
      go_wp2
      go_roundw
      case rel=>exact ⟨3,_,(by first | exact rfl | exact World.drewN_drewN _ _ _),rfl,.inr (.inr (.inr (.inl ⟨rfl,by show _=_; rw [← hg.out,cmpL_hd hz.out]⟩)))⟩
      case measure=>simp [intOf]
     ·have hz':(c != 0)=true:=by simpa using hz0
      have hz:=Lib.hid (show ¬ cmpI h2 g2=0 by rw [hc]; exact hz0)
      replace hc:=Lib.hid hc
      clear hz0
      go_wp2
      go_quiet ((go_at_call 111; exact quietOn (hq.out _)))
      go_wp2
      go_ret
      exact ⟨ret_int (by rw [← hg.out,cmpL_ne hz.out,hc.out]),(by first | exact below_drewN (((Below.refl w.heap.size w).alloc (Nat.le_refl _) _).alloc (by simp) _) _ | exact below_drewN (below_drewN (((Below.refl w.heap.size w).alloc (Nat.le_refl _) _).alloc (by simp) _) _) _ | exact below_drewN (below_drewN (below_drewN (((Below.refl w.heap.size w).alloc (Nat.le_refl _) _).alloc (by simp) _) _) _) _),(by first | exact Nat.le_refl _ | exact hd1 | exact Nat.le_add_right _ _ | exact Nat.le_trans (Nat.le_add_right _ _) (Nat.le_add_right _ _))⟩
    ·obtain ⟨c,hc⟩:=exE (cmpI h3 g3)
     have hq:=fun W=>cmpIntQ h3 g3 W
     simp only [hc] at hq
     replace hq:=Lib.hid hq
     by_cases hz0:c=0
     ·subst hz0
      have hz:=Lib.hid hc
      clear hc
      go_wp2
      go_quiet ((go_at_call 111; exact quietOn (hq.out _)))
      go_wp2
      go_roundw
      case rel=>exact ⟨4,_,(by first | exact rfl | exact World.drewN_drewN _ _ _),rfl,.inr (.inr (.inr (.inr (.inl ⟨rfl,by show _=_; rw [← hg.out,cmpL_hd hz.out]⟩))))⟩
      case measure=>simp [intOf]
     ·have hz':(c != 0)=true:=by simpa using hz0
      have hz:=Lib.hid (show ¬ cmpI h3 g3=0 by rw [hc]; exact hz0)
      replace hc:=Lib.hid hc
      clear hz0
      go_wp2
      go_quiet ((go_at_call 111; exact quietOn (hq.out _)))
      go_wp2
      go_ret
      exact ⟨ret_int (by rw [← hg.out,cmpL_ne hz.out,hc.out]),(by first | exact below_drewN (((Below.refl w.heap.size w).alloc (Nat.le_refl _) _).alloc (by simp) _) _ | exact below_drewN (below_drewN (((Below.refl w.heap.size w).alloc (Nat.le_refl _) _).alloc (by simp) _) _) _ | exact below_drewN (below_drewN (below_drewN (((Below.refl w.heap.size w).alloc (Nat.le_refl _) _).alloc (by simp) _) _) _) _),(by first | exact Nat.le_refl _ | exact hd1 | exact Nat.le_add_right _ _ | exact Nat.le_trans (Nat.le_add_right _ _) (Nat.le_add_right _ _))⟩
    ·obtain ⟨c,hc⟩:=exE (cmpI h4 g4)
     have hq:=fun W=>cmpIntQ h4 g4 W
     simp only [hc] at hq
     replace hq:=Lib.hid hq
     by_cases hz0:c=0
     ·subst hz0
      have hz:=Lib.hid hc
      clear hc
      go_wp2
      go_quiet ((go_at_call 111; exact quietOn (hq.out _)))
      go_wp2
      go_roundw
      case rel=>exact ⟨5,_,(by first | exact rfl | exact World.drewN_drewN _ _ _),rfl,.inr (.inr (.inr (.inr (.inr (⟨rfl,by show _=_; rw [← hg.out,cmpL_hd hz.out]⟩)))))⟩
      case measure=>simp [intOf]
     ·have hz':(c != 0)=true:=by simpa using hz0
      have hz:=Lib.hid (show ¬ cmpI h4 g4=0 by rw [hc]; exact hz0)
      replace hc:=Lib.hid hc
      clear hz0
      go_wp2
      go_quiet ((go_at_call 111; exact quietOn (hq.out _)))
      go_wp2
      go_ret
      exact ⟨ret_int (by rw [← hg.out,cmpL_ne hz.out,hc.out]),(by first | exact below_drewN (((Below.refl w.heap.size w).alloc (Nat.le_refl _) _).alloc (by simp) _) _ | exact below_drewN (below_drewN (((Below.refl w.heap.size w).alloc (Nat.le_refl _) _).alloc (by simp) _) _) _ | exact below_drewN (below_drewN (below_drewN (((Below.refl w.heap.size w).alloc (Nat.le_refl _) _).alloc (by simp) _) _) _) _),(by first | exact Nat.le_refl _ | exact hd1 | exact Nat.le_add_right _ _ | exact Nat.le_trans (Nat.le_add_right _ _) (Nat.le_add_right _ _))⟩
    ·go_wp2
     go_ret
     exact ⟨ret_int hg.out,(by first | exact below_drewN (((Below.refl w.heap.size w).alloc (Nat.le_refl _) _).alloc (by simp) _) _ | exact below_drewN (below_drewN (((Below.refl w.heap.size w).alloc (Nat.le_refl _) _).alloc (by simp) _) _) _ | exact below_drewN (below_drewN (below_drewN (((Below.refl w.heap.size w).alloc (Nat.le_refl _) _).alloc (by simp) _) _) _) _),(by first | exact Nat.le_refl _ | exact hd1 | exact Nat.le_add_right _ _ | exact Nat.le_trans (Nat.le_add_right _ _) (Nat.le_add_right _ _))⟩
  ·have hE0:=Lib.hid (show cmpI n m=E by rw [← hE,cmpL_ne (fun h=>hn (cmpI_zero.1 h))])
   have hn':(n != m)=true:=by simpa using hn
   clear hE hn
   go_enter Tryz.func135, Tryz.ntmps135
   go_wp2_with (go_at_call 111; refine (cmpInt _ _ _).mono ?_; rintro e w1 ⟨rfl,rfl⟩)
   go_ret
   exact ⟨ret_int hE0.out,(((Below.refl w.heap.size w).alloc (Nat.le_refl _) _).alloc (by simp) _),(by first | exact Nat.le_refl _ | exact hd1 | exact Nat.le_add_right _ _ | exact Nat.le_trans (Nat.le_add_right _ _) (Nat.le_add_right _ _))⟩
theorem roundCompareG (n h0 h1 h2 h3 h4 f m g0 g1 g2 g3 g4 g:Int) (w:World):Calls Tryz.prog 101 #[.agg #[.int .i64 n,.int .i64 h0,.int .i64 h1,.int .i64 h2,.int .i64 h3,.int .i64 h4,.int .i64 f],.agg #[.int .i64 m,.int .i64 g0,.int .i64 g1,.int .i64 g2,.int .i64 g3,.int .i64 g4,.int .i64 g]] w fun e w'=>e = .returned (.int .i64 (cmpL [n,h0,h1,h2,h3,h4,f] [m,g0,g1,g2,g3,g4,g]))∧Below w.heap.size w w'∧w.drawn≤w'.drawn:=by
 have hb:Below w.heap.size w ((w.alloc (.cells #[.int .i64 n,.int .i64 h0,.int .i64 h1,.int .i64 h2,.int .i64 h3,.int .i64 h4,.int .i64 f] 87)).alloc (.cells #[.int .i64 m,.int .i64 g0,.int .i64 g1,.int .i64 g2,.int .i64 g3,.int .i64 g4,.int .i64 g] 87)):=((Below.refl _ _).alloc (Nat.le_refl _) _).alloc (by simp) _
 have HG:=Lib.hid (fun W=>graphCompareG n h0 h1 h2 h3 h4 m g0 g1 g2 g3 g4 W)
 by_cases he : [n,h0,h1,h2,h3,h4,f] = [m,g0,g1,g2,g3,g4,g]
 ·have hE:=Lib.hid (show cmpL [n,h0,h1,h2,h3,h4,f] [m,g0,g1,g2,g3,g4,g]=0 from cmpL_zero.2 he)
  have he':=Lib.hid (eqL_true.2 he)
  clear he
  go_enter Tryz.func101, Tryz.ntmps101
  have he1:=he'.out
  go_wp2
  go_ret
  exact ⟨ret_int hE.out.symm,hb,(by first | exact Nat.le_refl _ | exact hd1 | exact Nat.le_add_right _ _ | exact Nat.le_trans (Nat.le_add_right _ _) (Nat.le_add_right _ _))⟩
 ·have he':=eqL_false.2 he
  clear he
  by_cases hg : [n,h0,h1,h2,h3,h4] = [m,g0,g1,g2,g3,g4]
  ·have hE:=Lib.hid (cmp7_2 (f:=f) (g:=g) hg)
   have hg':=Lib.hid (eqL_true.2 hg)
   clear hg
   go_enter Tryz.func101, Tryz.ntmps101
   have hg1:=hg'.out
   go_wp2_with fail
   refine (cmpInt f g _).mono ?_; rintro e w1 ⟨rfl,rfl⟩
   go_wp2
   go_ret
   exact ⟨ret_int hE.out.symm,hb,(by first | exact Nat.le_refl _ | exact hd1 | exact Nat.le_add_right _ _ | exact Nat.le_trans (Nat.le_add_right _ _) (Nat.le_add_right _ _))⟩
  ·have hE:=Lib.hid (cmp7_1 (f:=f) (g:=g) hg)
   have hg':=eqL_false.2 hg
   clear hg
   go_enter Tryz.func101, Tryz.ntmps101
   go_wp2_with fail
   refine (HG.out _).mono ?_; rintro e w1 ⟨rfl,hb1,hd1⟩
   go_wp2
   go_ret
   exact ⟨ret_int hE.out.symm,bt hb hb1 hb.size,(by first | exact Nat.le_refl _ | exact hd1 | exact Nat.le_add_right _ _ | exact Nat.le_trans (Nat.le_add_right _ _) (Nat.le_add_right _ _))⟩
open Go.Shelf Go.Lib Go.Sort
theorem grown_of {w w':World} (hb:Go.RowKit.Below w.heap.size w w') (hd:w.drawn≤w'.drawn):∃ q os,w'=grow (w.drewN q) os:=by
 refine ⟨w'.drawn - w.drawn,w'.heap.extract w.heap.size w'.heap.size,?_⟩
 have hh:w'.heap=w.heap++w'.heap.extract w.heap.size w'.heap.size:=by
  apply Array.ext_getElem?
  intro k
  by_cases hk:k < w.heap.size
  ·rw [Array.getElem?_append_left hk]; exact hb.block k hk
  ·have hs:=hb.size
   rw [Array.getElem?_append_right (by omega),Array.getElem?_extract]
   by_cases hk2:k < w'.heap.size
   ·rw [if_pos (by omega)]; congr 1; omega
   ·rw [if_neg (by omega),Array.getElem?_eq_none (by omega)]
 have h1:=hb.os
 have h2:=hb.tape
 have h3:=hb.output
 have hdd:w.drawn+(w'.drawn - w.drawn)=w'.drawn:=by omega
 cases w with
 | mk heap tape drawn os output=>
  cases w' with
  | mk heap' tape' drawn' os' output'=>
   simp only at h1 h2 h3 hh hdd
   subst h1 h2 h3
   simp only [grow,World.drewN]
   rw [hdd,← hh]
theorem heap_sortWorld_other {α:Type} [Inhabited α] {enc:α→Value} {w:World} {blk k:Nat} (off n:Nat) (d:Array α) (os:Array Obj) (hne:k ≠ blk) (hk:k < w.heap.size):(sortWorld enc w blk off n d os).heap[k]? = w.heap[k]?:=by
 simp only [sortWorld,grow,putRow,mapBlock,Sort.ahead]
 rw [Array.getElem?_append_left (by simpa using hk),Array.getElem?_modify,if_neg (fun h=>hne h.symm)]
theorem heap_sortWorld_same {α:Type} [Inhabited α] {enc:α→Value} {w:World} {blk:Nat} (off n:Nat) (d:Array α) (os:Array Obj) {cs:Array Value} {t:TypeId} {fz:Nat × Nat} (h:w.heap[blk]? = some (.cells cs t fz)):(sortWorld enc w blk off n d os).heap[blk]? = some (.cells (putCells enc off d cs) t fz):=by
 simp only [sortWorld,grow,putRow,mapBlock,Sort.ahead]
 rw [Array.getElem?_append_left (by simpa using (Array.getElem?_eq_some_iff.1 h).1),Array.getElem?_modify,if_pos rfl,h]
 rfl
theorem below_sortWorld {α:Type} [Inhabited α] {enc:α→Value} {w:World} {blk:Nat} (n:Nat) (d:Array α) (os:Array Obj) {B:Nat} (hB:B≤blk) (hb:blk < w.heap.size):Go.RowKit.Below B w (sortWorld enc w blk 0 n d os):=by
 refine ⟨rfl,rfl,rfl,?_,fun k hk=>heap_sortWorld_other _ _ _ _ (by omega) (by omega)⟩
 simp [sortWorld,grow,putRow,mapBlock,Sort.ahead]
theorem putCells_take {α:Type} [Inhabited α] (enc:α→Value) (d:Array α) (cs:Array Value) (hd:d.size≤cs.size):(putCells enc 0 d cs).toList.take d.size=d.toList.map enc:=by
 apply List.ext_getElem?
 intro k
 rw [List.getElem?_take]
 by_cases hk:k < d.size
 ·rw [if_pos hk,Array.getElem?_toList]
  simp only [putCells,Array.getElem?_mapIdx]
  rw [Array.getElem?_eq_getElem (by omega:k < cs.size)]
  simp [hk]
 ·rw [if_neg hk,List.getElem?_eq_none (by simp; omega)]
end Go.Proofs.YtmikofeildnpdaaGreat
