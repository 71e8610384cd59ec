/- Texts of this claim, put together: YJ1 L2 T1 YJ. -/
import Derived.Test.YtmikofeildnpdaaGreatKUza
import Derived.Test.YtmikofeildnpdaaGreatKUk
import Derived.Test.YtmikofeildnpdaaGreatKUe
import Derived.Test.YtmikofeildnpdaaGreatKUj
import Derived.Test.YtmikofeildnpdaaGreatKUs
import Derived.Lib.SmallJoins
import Derived.Test.YtmikofeildnpdaaGreatKUq
import Derived.Lib.AppendZeros
import Derived.Test.YtmikofeildnpdaaGreatKUi
import Derived.Test.YtmikofeildnpdaaGreatKUr
import Derived.Test.YtmikofeildnpdaaGreatKUzj

set_option maxRecDepth 100000
set_option maxHeartbeats 12800000
/- A word among the arguments; roundtableref15.Word. -/
namespace Go.Proofs.YtmikofeildnpdaaGreat
open Go.RowKit Go.ChangeShapes Go.WideShapes Go.ChangeAt Go.Deep Go.WideElems
section
variable {H:Type} {enc:TypeId × Value→H} {w:World} {base:Nat} {spare:Nat→Bool} {held:Bool}
theorem sevenL21 {cs:List Value} (h:cs.length=7):∃ a b c d e f g,cs = [a,b,c,d,e,f,g]:=by
 match cs,h with
 | [a,b,c,d,e,f,g],_=>exact ⟨a,b,c,d,e,f,g,rfl⟩
theorem rdInts21 {fuel:Nat} {cs:List Value} {x:DataW H × List MemPlace} (h:DataW.trod enc Tryz.prog w base spare held fuel 87 cs=some x):∃ xs:List Int,xs.length=7∧cs=xs.map (Value.int .i64):=by
 have k79 : Tryz.prog.cellsOf 87=7:=by kernel_rfl
 have k77 : Tryz.prog.cellsOf 85=6:=by kernel_rfl
 have k75 : Tryz.prog.cellsOf 83=5:=by kernel_rfl
 have k3 : Tryz.prog.cellsOf 3=1:=by kernel_rfl
 obtain ⟨z0,z1,n2,_,hl,g0,g1⟩:=trod_struct2 Tryz.underlying87 h
 rw [k79] at hl
 obtain ⟨c0,c1,c2,c3,c4,c5,c6,rfl⟩:=sevenL21 hl
 simp only [k77,k3,List.drop_zero,List.take_succ_cons,List.take_zero,List.drop_succ_cons] at g0 g1
 obtain ⟨i6,e6,_⟩:=DataW.trod_int Tryz.underlying3 g1
 obtain ⟨q0,q1,n3,_,_,f0,f1⟩:=trod_struct2 Tryz.underlying85 g0
 simp only [k75,k3,List.drop_zero,List.take_succ_cons,List.take_zero,List.drop_succ_cons] at f0 f1
 obtain ⟨i0,e0,_⟩:=DataW.trod_int Tryz.underlying3 f0
 obtain ⟨xs,m,_,_,_,hxl,hx⟩:=DataW.trod_array Tryz.underlying83 f1
 have hj:∀ (i:Nat) (c:Value),i < 5→(([c1,c2,c3,c4,c5]:List Value).drop i).take 1 = [c]→∃ k,c = .int .i64 k:=fun i c hi hc=>by
  have:=hx i hi
  rw [k3,Nat.mul_one,hc,List.getElem?_eq_getElem (by omega)] at this
  obtain ⟨k,e,_⟩:=DataW.trod_int Tryz.underlying3 this
  exact ⟨k,by simpa using e⟩
 obtain ⟨i1,rfl⟩:=hj 0 c1 (by omega) rfl
 obtain ⟨i2,rfl⟩:=hj 1 c2 (by omega) rfl
 obtain ⟨i3,rfl⟩:=hj 2 c3 (by omega) rfl
 obtain ⟨i4,rfl⟩:=hj 3 c4 (by omega) rfl
 obtain ⟨i5,rfl⟩:=hj 4 c5 (by omega) rfl
 obtain rfl:c0 = .int .i64 i0:=by simpa using e0
 obtain rfl:c6 = .int .i64 i6:=by simpa using e6
 exact ⟨[i0,i1,i2,i3,i4,i5,i6],rfl,rfl⟩
def RdsV (w:World) (v:Value) (xs:List (List Int)):Prop:=∃ a c b off,v = .slice a xs.length c∧(0 < xs.length→a=some ⟨b,off,none⟩)∧CK 7 w b off xs
theorem RdsV.ks {w:World} {v:Value} {xs:List (List Int)} (h:RdsV w v xs) (hl:xs.length≤2199023255552):KS 7 w v xs:=by
 obtain ⟨a,c,b,off,h1,h2,h3⟩:=h
 exact ⟨a,c,b,off,h1,h2,h3,hl⟩
theorem rds_of_trod {v:Value} {d:DataW H} {ps:List MemPlace} {fuel:Nat} (h:DataW.trod enc Tryz.prog w 0 (fun _=>true) true fuel 78 [v]=some (d,ps)) (hw:∀ n∈d.weights Tryz.prog 78,n≤reachBytes):∃ xs,RdsV w v xs:=by
 have k87 : Tryz.prog.cellsOf 87=7:=by kernel_rfl
 have b87 : Tryz.prog.bytesOf 87=56:=by kernel_rfl
 rcases open_slice Tryz.underlying78 h with ⟨h1,_⟩ | ⟨a,len,cap,m,n,D,Pl,h1,_,hl,hm,hmm,h2,hx⟩
 ·obtain rfl:v = .slice none 0 0:=by simpa using h1
  exact ⟨[],none,0,0,0,rfl,by simp,by intro j hj; simp at hj⟩
 ·obtain rfl:v = .slice (some a) len cap:=by simpa using h1
  simp only [if_true] at hmm
  subst hmm
  obtain ⟨rfl,_⟩:=Prod.mk.injEq .. ▸ h2
  have hsz:=hw ((len+(m - len)) * 56) (by simp [DataW.weights,Tryz.underlying78,b87])
  unfold reachBytes at hsz
  rw [k87] at hx
  obtain ⟨X,hX⟩:=choose_lt (α:=List Int) (n:=len) (p:=fun i xs=>xs.length=7∧∀ j,j < 7→w.cell? (a.add (i * 7+j))=some (.int .i64 (xs.getD j 0))) (fun i hi=>by
   obtain ⟨cs',g1,g2⟩:=hx i (by omega)
   obtain ⟨xs,hx8,rfl⟩:=rdInts21 g2
   obtain ⟨_,_,hcell⟩:=World.cells?_some g1
   refine ⟨xs,hx8,fun j hj=>?_⟩
   have:=hcell j (by omega)
   rw [add_add] at this
   rw [this,List.getElem?_map,List.getElem?_eq_getElem (by omega),getD_eq (by omega)]; rfl)
  have hall:∀ j,j < len→((List.range len).map X).getD j []=X j:=fun j hj=>by simp [hj]
  refine ⟨(List.range len).map X,some a,m,a.block,a.off,by simp,fun h0=>?_,fun j hj=>?_⟩
  ·have hk:=(hX 0 (by simpa using h0)).2 0 (by omega)
   rw [show a.add (0 * 7+0)=a by simp [Addr.add]] at hk
   rw [← addr_spot hk]
  ·have hj':j < len:=by simpa using hj
   rw [hall j hj']
   have hk0:=(hX 0 (by omega)).2 0 (by omega)
   rw [show a.add (0 * 7+0)=a by simp [Addr.add]] at hk0
   refine ⟨(hX j hj').1,fun i hi=>?_⟩
   have h3:=(hX j hj').2 i (by have:=(hX j hj').1; omega)
   have e:a.add (j * 7+i)=⟨a.block,a.off+j * 7+i,none⟩:=by
    have:=addr_spot hk0
    rw [this,Nat.add_assoc]
    exact add_plain _ _ _
   rw [← e]; exact h3
end
open Go.RowKit
def WdQ (n:Int) (ps:List (List Int)) (E:Int):Prop:=E=0→∀ r∈ps,chkRd r=0∧r.getD 0 0=n
def WdOut (w:World) (n:Int) (ps:List (List Int)) (e:Ending) (w':World):Prop:=∃ E:Int,e = .returned (.int .i64 E)∧WdQ n ps E∧Below w.heap.size w w'
theorem refWordC {w:World} {v:Value} {n:Int} {ps:List (List Int)} (h:KS 7 w v ps) (h1:1≤n) (h5:n≤5) (hl:ps.length≤1000) :
  Calls Tryz.prog 44 #[.int .i64 n,v] w (WdOut w n ps):=by
 have hmx : Tryz.prog.follows .mixedOrders=true:=by kernel_rfl
 have HP:=refProcs n w
 rw [show procE n=0 by unfold procE; (repeat' split) <;> first | rfl | omega] at HP
 replace HP:=Lib.hid HP
 obtain ⟨va,vc,vb,vo,rfl,hva,hvc,_⟩:=h
 replace hvc:Hid (∀ j,j < ps.length→(ps.getD j []).length=7∧CI w vb (vo+j * 7) (ps.getD j [])):=hvc
 have hd:decide ((1024:Int) < (ps.length:Int))=false:=decide_eq_false (by omega)
 have h0:Hid (∀ j,j < 0→chkRd (ps.getD j [])=0∧(ps.getD j []).getD 0 0=n):=fun j hj=>by omega
 go_enter Tryz.func44, Tryz.ntmps44
 go_wp2_with fail
 refine HP.out.mono ?_
 rintro e w1 ⟨rfl,rfl⟩
 go_wp2_with fail
 go_loopw [6] (fun iv wr=>∃ i:Nat,iv = .int .i64 (i:Int)∧i≤ps.length∧Hid (∀ j,j < i→chkRd (ps.getD j [])=0∧(ps.getD j []).getD 0 0=n)∧Hid (Below w.heap.size w wr)) (fun iv _=>ps.length - (intOf iv).toNat)
 case atStart=>exact ⟨0,rfl,Nat.zero_le _,h0,Below.refl _ _⟩
 case round=>
  clear h0
  obtain ⟨i,rfl,hi,hok,hbr⟩:=hrel
  by_cases hlt:i < ps.length
  ·have hltI:(i:Int) < (ps.length:Int):=by omega
   obtain rfl:=hva (by omega)
   obtain ⟨hx7,hxc⟩:=hvc.out i hlt
   obtain ⟨x,hx⟩:=exE (ps.getD i [])
   rw [hx] at hx7 hxc
   have hw6:chkRd x=0→0≤x.getD 6 0∧x.getD 6 0≤1000000:=fun hz=>(wfR_of hx7 hz).2 _ (by rw [getD_eq (by omega)]; exact List.getElem_mem _)
   obtain ⟨x0,x1,x2,x3,x4,x5,x6,rfl⟩:=seven hx7
   obtain ⟨p0,p1,p2,p3,p4,p5,p6⟩:=(hxc.keep hbr.out).all7
   have HC:=fun W=>refRoundCheck x0 x1 x2 x3 x4 x5 x6 W
   obtain ⟨E,hE⟩:=exE (chkRd [x0,x1,x2,x3,x4,x5,x6])
   simp only [hE] at HC
   rw [hE] at hw6
   replace HC:=Lib.hid HC
   by_cases hE0:E=0
   ·subst hE0
    obtain ⟨w60,w61⟩:=hw6 rfl
    replace w60:0≤x6:=w60
    replace w61:x6≤1000000:=w61
    by_cases hn:x0=n
    ·subst hn
     have hok2:Hid (∀ j,j < i+1→chkRd (ps.getD j [])=0∧(ps.getD j []).getD 0 0=x0):=fun j hj=>by
      by_cases e:j=i
      ·subst e; rw [hx]; exact ⟨hE,rfl⟩
      ·exact hok.out j (by omega)
     have hnf:(x0 != x0)=false:=by simp
     replace hx:=Lib.hid hx
     replace hE:=Lib.hid hE
     by_cases h0:0 < i
     ·have hz:=hok.out (i - 1) (by omega)
      obtain ⟨hy7,hyc⟩:=hvc.out (i - 1) (by omega)
      obtain ⟨y,hy⟩:=exE (ps.getD (i - 1) [])
      rw [hy] at hy7 hyc hz
      have hv6:=(wfR_of hy7 hz.1).2 (y.getD 6 0) (by rw [getD_eq (by omega)]; exact List.getElem_mem _)
      obtain ⟨y0,y1,y2,y3,y4,y5,y6,rfl⟩:=seven hy7
      obtain ⟨v60,v61⟩:=hv6
      replace v60:0≤y6:=v60
      replace v61:y6≤1000000:=v61
      have HI:=Lib.hid (fun W=>refInside y6 x6 W v60 v61 w60 w61)
      have hd1:decide ((0:Int) < (i:Int))=true:=decide_eq_true (by omega)
      have hw1:IntKind.i64.wrap ((i:Int) - 1)=(i:Int) - 1:=IntWalk.i64_in _ (by omega)
      have hi0:0≤(i:Int) - 1:=by omega
      have hi1:(i:Int) - 1 < (ps.length:Int):=by omega
      have hin2:((i:Int) - 1).toNat=i - 1:=by omega
      have h1k:(1:Int)≤(i:Int):=by omega
      obtain ⟨I,hI⟩:=exE (insideB y6 x6)
      rw [hI] at HI
      replace hy:=Lib.hid hy
      clear hz hok hI
      go_wp2_with fail
      refine (HC.out _).mono ?_
      rintro e w2 ⟨rfl,hb2⟩
      have hbw:=btt hbr.out hb2
      have hf:=Lib.hid (fun wq (hC:Below w2.heap.size w2 wq)=>And.intro ((hxc.keep hbw).keep hC).all7 ((hyc.keep hbw).keep hC).all7)
      obtain ⟨⟨q0,q1,q2,q3,q4,q5,q6⟩,_⟩:=hf.out w2 (Below.refl _ _)
      clear p0 p1 p2 p3 p4 p5 p6
      go_upto_region 14 with fail
      refine wp_region_bw hmx (by kernel_rfl) ?_
      repeat (refine WQ.step (fun K hK => ?_)
              go_simp
              first
                | (refine hK _ ?_; clear hK K)
                | (apply Exists.intro
                   refine ⟨fun wq hC => ?_, hK _ ?_⟩
                   · (first | with_reducible rfl | (obtain ⟨⟨d0,d1,d2,d3,d4,d5,d6⟩,e0,e1,e2,e3,e4,e5,e6⟩:=hf.out wq hC; go_simp; first | done | with_reducible rfl | with_reducible exact ⟨rfl,rfl⟩))
                   clear hK K))
      (refine WQ.step (fun K hK => ?_)
       go_simp
       first
         | (refine hK _ ?_; clear hK K)
         | (apply Exists.intro
            refine ⟨fun wq hC => ?_, hK _ ?_⟩
            · (refine (HI.out wq).mono ?_; rintro e w' ⟨rfl,rfl⟩; exact ⟨rfl,hC⟩)
            clear hK K))
      repeat (refine WQ.step (fun K hK => ?_)
              go_simp
              first
                | (refine hK _ ?_; clear hK K)
                | (apply Exists.intro
                   refine ⟨fun wq hC => ?_, hK _ ?_⟩
                   · (first | with_reducible rfl | (go_simp; first | done | with_reducible rfl | with_reducible exact ⟨rfl,rfl⟩))
                   clear hK K))
      refine WQ.nil ?_
      intro w4 hb4
      have hbf:Hid (Below w.heap.size w w4):=btt hbw hb4
      clear hf q0 q1 q2 q3 q4 q5 q6 hw1 hin2
      cases I with
      | true=>
       go_wp2_with fail
       go_roundw
       case rel=>exact ⟨i+1,by go_num,by omega,hok2,hbf⟩
       case measure=>simp [intOf]; omega
      | false=>
       go_wp2
       go_ret
       exact ⟨_,rfl,(fun h=>by cases h),hbf.out⟩
     ·have hd1:decide ((0:Int) < (i:Int))=false:=decide_eq_false (by omega)
      clear hok
      go_wp2_with fail
      refine (HC.out _).mono ?_
      rintro e w2 ⟨rfl,hb2⟩
      have hbw:=btt hbr.out hb2
      obtain ⟨q0,q1,q2,q3,q4,q5,q6⟩:=(hxc.keep hbw).all7
      clear p0 p1 p2 p3 p4 p5 p6
      go_upto_region 14 with fail
      refine wp_region_bw hmx (by kernel_rfl) ?_
      repeat (refine WQ.step (fun K hK => ?_)
              go_simp
              first
                | (refine hK _ ?_; clear hK K)
                | (apply Exists.intro
                   refine ⟨fun wq hC => ?_, hK _ ?_⟩
                   · (first | with_reducible rfl | (go_simp; first | done | with_reducible rfl | with_reducible exact ⟨rfl,rfl⟩))
                   clear hK K))
      refine WQ.nil ?_
      intro w4 hb4
      have hbf:Hid (Below w.heap.size w w4):=btt hbw hb4
      clear q0 q1 q2 q3 q4 q5 q6
      go_wp2_with fail
      go_roundw
      case rel=>exact ⟨i+1,by go_num,by omega,hok2,hbf⟩
      case measure=>simp [intOf]; omega
    ·have hnt:(x0 != n)=true:=by simp [hn]
     clear hok hx hE
     go_wp2_with fail
     refine (HC.out _).mono ?_
     rintro e w2 ⟨rfl,hb2⟩
     have hbw:=btt hbr.out hb2
     obtain ⟨q0,q1,q2,q3,q4,q5,q6⟩:=(hxc.keep hbw).all7
     clear p0 p1 p2 p3 p4 p5 p6
     go_wp2
     go_ret
     exact ⟨_,rfl,(fun h=>by cases h),hbw⟩
   ·have hEb:(E != 0)=true:=by simp [hE0]
    clear hok hx hE hw6
    go_wp2_with fail
    refine (HC.out _).mono ?_
    rintro e w2 ⟨rfl,hb2⟩
    have hbw:=btt hbr.out hb2
    clear p0 p1 p2 p3 p4 p5 p6
    go_wp2
    go_ret
    exact ⟨_,rfl,(fun h=>absurd h hE0),hbw⟩
  ·obtain rfl:i=ps.length:=by omega
   have hall:WdQ n ps 0:=fun _ r hr=>by
    obtain ⟨j,hj,rfl⟩:=List.mem_iff_getElem.1 hr
    have:=hok.out j hj
    rwa [getD_eq hj] at this
   have hbf:=hbr.out
   replace hall:=Lib.hid hall
   clear hok hvc
   go_wp2
   go_ret
   exact ⟨_,rfl,hall.out,hbf⟩
end Go.Proofs.YtmikofeildnpdaaGreat

/- Distinguish of the program and of the reference for all small adversaries and all numbers. -/
namespace Go.Proofs.YtmikofeildnpdaaGreat
open Go.RowKit
theorem KS.len {k:Nat} {w:World} {v:Value} {xs:List (List Int)} (h:KS k w v xs):xs.length≤2199023255552:=by obtain ⟨_,_,_,_,_,_,_,h⟩:=h; exact h
end Go.Proofs.YtmikofeildnpdaaGreat

/- State and Allows. -/
namespace Go.Proofs.YtmikofeildnpdaaGreat
open Go.RowKit Go.ChangeMaps Go.MapKept Go.WideMaps
theorem look_ent {ss:List (List (List Int))} {s:Nat} {r:List Int} (hM:LeadOK ss) (hA:∀ s∈ss,AscL (s.map rdOf)) (hs:s < ss.length) :
  (r ∉ ((ss.getD s []).map ent).map Prod.fst→toI r (ss.getD s []) < 0)∧∀ v,(r,v)∈(ss.getD s []).map ent→toI r (ss.getD s [])=(v:Int):=by
 have hmem:ss.getD s []∈ss:=by rw [getD_eq hs]; exact List.getElem_mem hs
 have h6:((ss.getD s []).map ent).map Prod.fst=(ss.getD s []).map rdOf:=by rw [List.map_map]; rfl
 refine ⟨fun h=>?_,fun v h=>?_⟩
 ·rw [h6] at h
  rw [toI_out h]; decide
 ·obtain ⟨m,hm,he⟩:=List.mem_map.1 h
  injection he with h1 h2
  subst h1
  subst h2
  have h3:=hM _ hmem m hm
  rw [toI_mem (hA _ hmem) hm]
  show _=((m.getD 7 0).toNat:Int)
  omega
def stA (ss:List (List (List Int))) (ps:List (List Int)):Int × Int:=if afterI ss ps 0 < 0 then (0,25) else (afterI ss ps 0,0)
theorem stateAt {w:World} {v wv:Value} {n:Int} {ss:List (List (List Int))} {ps:List (List Int)} (hA:AdvV w v n ss) (h0:chkA n ss=0) (hO:ClsOK ss) (hP:KS 7 w wv ps) (hw:∀ r∈ps,WfR r) :
  Calls Tryz.prog 97 #[v,wv] w fun e w'=>e = .returned (.tuple #[.int .i64 (stA ss ps).1,.int .i64 (stA ss ps).2])∧Below w.heap.size w w':=by
 have hM:=LeadOK.ofCls hO
 have hAs:=ascL_of h0
 have hl0:=hO.2.2.1
 have hl90:=hO.1
 have hmv:movesN ss≤1000000000:=by have:=hO.2.1; omega
 have hpl:=hP.len
 have hC:=Lib.hid (fun W (hb:Below w.heap.size w W)=>h0 ▸ checkA (hA.keep hb) hmv)
 have hI:=Lib.hid (fun W (hb:Below w.heap.size w W)=>indexCall (hA.keep hb) hO hAs)
 obtain ⟨sa,sc,hv⟩:=advShape' hA
 subst hv
 obtain ⟨ra,rc,rb,ro,rfl,hra,hrc,_⟩:=hP
 obtain ⟨W1,hW1⟩:=exF (w.alloc (.cells #[.int .i64 n,.slice sa ss.length sc] 24))
 obtain ⟨hb1,p0,p1,_⟩:=boxAdv hW1
 obtain ⟨z,hz⟩:=exE (afterI ss ps 0)
 have hz0:Hid (afterI ss (ps.drop 0) 0=z):=by show _=_; rw [List.drop_zero]; exact hz
 have hst:=Lib.hid (show stA ss ps=if z < 0 then (0,25) else (z,0) by rw [stA,hz])
 have hWf:Hid (∀ j,j < ss.length→∀ p∈(ss.getD j []).map ent,WfR p.1):=fun j hj p hp=>by
  obtain ⟨m,hm,rfl⟩:=List.mem_map.1 hp
  exact ((hO.2.2.2 _ (by rw [getD_eq hj]; exact List.getElem_mem hj)).2 m hm).1
 have hmx : Tryz.prog.follows .mixedOrders=true:=by kernel_rfl
 replace hrc:=Lib.hid hrc
 replace hM:=Lib.hid hM
 replace hAs:=Lib.hid hAs
 replace hw:=Lib.hid hw
 clear hA hz hO h0
 go_enter Tryz.func97, Tryz.ntmps97
 go_wp2_with fail
 rw [← hW1]
 replace hW1:=Lib.hid hW1
 refine (hC.out W1 hb1).mono ?_
 rintro e w2 ⟨rfl,hb2⟩
 have hb12:=bt hb1 hb2 hb1.size
 have q0:=cell_kept hb2 p0
 have q1:=cell_kept hb2 p1
 go_wp2_with fail
 refine (hI.out w2 hb12).mono ?_
 rintro e w3 ⟨g,rfl,hT,hb3⟩
 have hb13:=bt hb12 hb3 hb12.size
 clear p0 p1 q0 q1 hb2 hb3 hb12
 go_wp2_with fail
 go_loopw [8,22] (fun sv jv wr=>∃ s k:Nat,sv = .int .i64 s∧s < ss.length∧jv = .int .i64 k∧k≤ps.length∧Hid (afterI ss (ps.drop k) s=z)∧Below w3.heap.size w3 wr) (fun _ jv _=>ps.length - (intOf jv).toNat)
 case atStart=>exact ⟨0,0,rfl,hl0,rfl,by omega,hz0,Below.refl _ _⟩
 case round=>
  clear hz0
  obtain ⟨s,k,rfl,hs,rfl,hk,hzk,hbr⟩:=hrel
  by_cases hlt:k < ps.length
  ·obtain rfl:=hra (by omega)
   obtain ⟨hx7,hxi⟩:=hrc.out k hlt
   obtain ⟨x,hx⟩:=exE (ps.getD k [])
   have hdr:=drop_cons hlt ([]:List Int)
   have hwx:=hw.out x (by rw [← hx,getD_eq hlt]; exact List.getElem_mem hlt)
   rw [hx] at hx7 hxi hdr
   rw [hdr] at hzk
   have hb1r:=bt hb13 hbr hb13.size
   obtain ⟨b,hcb,hMX⟩:=hT.keep hbr s hs
   obtain ⟨W3,hW3⟩:=exF (wr.alloc (.cells ((x.map (Value.int .i64)).toArray) 87))
   have hb4:Below wr.heap.size wr W3:=by rw [hW3]; exact (Below.refl _ _).alloc (Nat.le_refl _) _
   have hcb3:=cell_kept hb4 hcb
   have hMX3:=hMX.keep (w':=W3) (hb4.block _ hMX.lt)
   have hb5:=btt hbr hb4
   have hz2:=hzk.out
   rw [afterI] at hz2
   obtain ⟨l1,l2⟩:=look_ent (r:=x) hM.out hAs.out hs
   obtain ⟨t,ht⟩:=exE (toI x (ss.getD s []))
   rw [ht] at l1 l2 hz2
   have hlq:=(toI_st hM.out hs x).2
   rw [ht] at hlq
   have hlook:(t < 0∧∀ d,(Instr.lookup 189 (.map (some b)) (rdV x) true).run Tryz.prog (W3.drewN d) = .ok (.tuple #[.int .i64 0,.bool false]) (W3.drewN d))∨
     (∃ q:Nat,t=(q:Int)∧∀ d,(Instr.lookup 189 (.map (some b)) (rdV x) true).run Tryz.prog (W3.drewN d) = .ok (.tuple #[.int .i64 (q:Int),.bool true]) (W3.drewN d)):=by
    by_cases hin:∃ v,(x,v)∈(ss.getD s []).map ent
    ·obtain ⟨v,hv⟩:=hin
     refine .inr ⟨v,l2 v hv,fun d=>?_⟩
     rcases MX.look keyX_round umRd (zInt (W3.drewN d)) (hMX3.keep (w':=W3.drewN d) rfl) (hWf.out s hs) hwx with ⟨h,_⟩ | ⟨v',hv',_,h⟩
     ·exact absurd (List.mem_map.2 ⟨_,hv,rfl⟩) h
     ·have:(v':Int)=(v:Int):=(l2 v' hv').symm.trans (l2 v hv)
      have h3:v'=v:=by omega
      subst h3; exact h
    ·have hn:x ∉ ((ss.getD s []).map ent).map Prod.fst:=fun h=>by
      obtain ⟨⟨a,v⟩,h1,h2⟩:=List.mem_map.1 h
      subst h2
      exact hin ⟨v,h1⟩
     refine .inl ⟨l1 hn,fun d=>?_⟩
     rcases MX.look keyX_round umRd (zInt (W3.drewN d)) (hMX3.keep (w':=W3.drewN d) rfl) (hWf.out s hs) hwx with ⟨_,_,h⟩ | ⟨v',hv',_,_⟩
     ·exact h
     ·exact absurd ⟨v',hv'⟩ hin
   obtain ⟨x0,x1,x2,x3,x4,x5,x6,rfl⟩:=seven hx7
   obtain ⟨c0,c1,c2,c3,c4,c5,c6⟩:=(hxi.keep hb1r).all7
   have m3:W3.heap[wr.heap.size]? = some (.cells #[.int .i64 x0,.int .i64 x1,.int .i64 x2,.int .i64 x3,.int .i64 x4,.int .i64 x5,.int .i64 x6] 87):=by rw [hW3]; exact heap_alloc_new _ _
   obtain ⟨e0,e1,e2,e3,e4,e5,e6⟩:=(box7CI m3).all7
   have hsl:(s:Int) < (ss.length:Int):=by omega
   replace hz2:=Lib.hid hz2
   clear hdr hzk hx hx7 hxi hcb hMX hMX3 l1 l2 ht hwx hWf hw
   simp only [List.map_cons,List.map_nil] at hW3
   rcases hlook with ⟨ht0,hlk⟩ | ⟨q,htq,hlk⟩
   ·have hf:Hid (stA ss ps=(0,25)):=by
     show _=_
     have h1:=hz2.out
     rw [if_pos ht0] at h1
     rw [hst.out,if_pos (by omega)]
    clear hz2 ht0 hlq
    simp only [rdV,List.map_cons,List.map_nil] at hlk
    go_wp2_with fail
    rw [← hW3]
    clear hW3
    go_quiet (fail)
    go_wp2
    go_ret2
    exact ⟨by rw [hf.out]; rfl,below_drewN (bt hb13 hb5 hb13.size) _⟩
   ·subst htq
    have hz3:Hid (afterI ss (ps.drop (k+1)) q=z):=by
     show _=_
     have h1:=hz2.out
     rw [if_neg (by omega),Int.toNat_natCast] at h1
     exact h1
    have hq:q < ss.length:=by omega
    clear hz2 hlq
    simp only [rdV,List.map_cons,List.map_nil] at hlk
    go_wp2_with fail
    rw [← hW3]
    clear hW3
    go_quiet (fail)
    go_wp2
    go_roundw
    case rel=>exact ⟨q,k+1,rfl,hq,by go_num,hlt,hz3,below_drewN hb5 _⟩
    case measure=>simp [intOf]; omega
  ·have hf:Hid (stA ss ps=((s:Int),0)):=by
    have h:=hzk.out
    rw [List.drop_eq_nil_of_le (by omega),afterI] at h
    show _=_
    rw [hst.out,← h,if_neg (by omega)]
   have hkl : ¬ ((k:Int) < (ps.length:Int)):=by omega
   clear hzk
   go_wp2
   go_ret2
   exact ⟨by rw [hf.out]; rfl,bt hb13 hbr hb13.size⟩
theorem allowsCall {w:World} {v wv:Value} {n:Int} {ss:List (List (List Int))} {ps:List (List Int)} (hA:AdvV w v n ss) (h0:chkA n ss=0) (hO:ClsOK ss) (hP:KS 7 w wv ps) (hw:∀ r∈ps,WfR r) :
  Calls Tryz.prog 47 #[v,wv] w fun e w'=>e = .returned (.tuple #[.bool (decide (0≤afterI ss ps 0)),.int .i64 0])∧Below w.heap.size w w':=by
 obtain ⟨sa,sc,hv⟩:=advShape' hA
 subst hv
 obtain ⟨ra,rc,hv⟩:=hP.shape
 subst hv
 obtain ⟨W1,hW1⟩:=exF (w.alloc (.cells #[.int .i64 n,.slice sa ss.length sc] 24))
 obtain ⟨hb1,p0,p1,_⟩:=boxAdv hW1
 have hS:=stateAt (hA.keep hb1) h0 hO (hP.keep hb1) hw
 obtain ⟨z,hz⟩:=exE (afterI ss ps 0)
 rw [stA,hz] at hS
 rw [hz]
 clear hA hP hw hO h0 hz
 by_cases hz0:z < 0
 ·have hd:decide (0≤z)=false:=decide_eq_false (by omega)
  rw [if_pos hz0] at hS
  rw [hd]
  clear hd hz0
  replace hS:=Lib.hid hS
  go_enter Tryz.func47, Tryz.ntmps47
  go_wp2_with fail
  rw [← hW1]
  replace hW1:=Lib.hid hW1
  refine hS.out.mono ?_
  rintro e w2 ⟨rfl,hb2⟩
  go_wp2
  go_ret2
  exact ⟨rfl,bt hb1 hb2 hb1.size⟩
 ·have hd:decide (0≤z)=true:=decide_eq_true (by omega)
  rw [if_neg hz0] at hS
  rw [hd]
  clear hd hz0
  replace hS:=Lib.hid hS
  go_enter Tryz.func47, Tryz.ntmps47
  go_wp2_with fail
  rw [← hW1]
  replace hW1:=Lib.hid hW1
  refine hS.out.mono ?_
  rintro e w2 ⟨rfl,hb2⟩
  go_wp2
  go_ret2
  exact ⟨rfl,bt hb1 hb2 hb1.size⟩
end Go.Proofs.YtmikofeildnpdaaGreat

/- The law SymmetryWords. -/
namespace Go.Proofs.YtmikofeildnpdaaGreat
open Go.RowKit
theorem alw_rd21 {n:Nat} {ss:List (List (List Int))} (h:WfN n ss):∀ {u:List (List Int)} {s:Nat},alw ss u s→∀ r∈u,∃ hs f,RdN n hs f∧r=mkR n hs f
 | [],_,_,r,hr=>by cases hr
 | x::u,s,hw,r,hr=>by
  obtain ⟨m,hm,rfl,h2⟩:=alw_cons_some hw
  rcases List.mem_cons.1 hr with rfl | hr
  ·obtain ⟨hl,hs,f,hR,hrd⟩:=h.mv _ (stIn hm).1 m hm
   exact ⟨hs,f,hR,hrd⟩
  ·exact alw_rd21 h h2 r hr
theorem renL_inj {n:Nat} {a:List Int} (h1:1≤n) (h5:n≤5) (ha:IsP n a):∀ {p u:List (List Int)},(∀ r∈p,∃ hs f,RdN n hs f∧r=mkR n hs f)→(∀ r∈u,∃ hs f,RdN n hs f∧r=mkR n hs f)→p.map (renR a)=u.map (renR a)→p=u
 | [],[],_,_,_=>rfl
 | [],_::_,_,_,e=>by cases e
 | _::_,[],_,_,e=>by cases e
 | x::p,y::u,hp,hu,e=>by
  rw [List.map_cons,List.map_cons] at e
  injection e with e1 e2
  obtain ⟨hs,f,r1,rfl⟩:=hp x (by simp)
  obtain ⟨hs',f',r2,rfl⟩:=hu y (by simp)
  rw [renR_inj h1 h5 ha r1 r2 e1,renL_inj h1 h5 ha (fun r hr=>hp r (by simp [hr])) (fun r hr=>hu r (by simp [hr])) e2]
theorem words_x {n:Nat} {ss:List (List (List Int))} {a:List Int} {ps:List (List Int)} (h:WfN n ss) (ha:IsP n a) (hp:∀ r∈ps,∃ hs f,RdN n hs f∧r=mkR n hs f) :
  decide (0≤afterI (renA a ss) (ps.map (renR a)) 0)=decide (0≤afterI ss ps 0):=by
 rw [Bool.eq_iff_iff,decide_eq_true_eq,decide_eq_true_eq,← alw_after,← alw_after,ren_alw h ha]
 constructor
 ·rintro ⟨u,hu,e⟩
  rwa [renL_inj h.h1 h.h5 ha hp (alw_rd21 h hu) e]
 ·exact fun hu=>⟨ps,hu,rfl⟩
theorem words_z {n:Nat} {ss:List (List (List Int))} {a:List Int} {ps:List (List Int)} (h:WfN n ss) (ha:IsP n a) (hp:∀ r∈ps,∃ hs f,RdN n hs f∧r=mkR n hs f) (hk:kpG ss a=true) :
  decide (0≤afterI ss (ps.map (renR a)) 0)=decide (0≤afterI ss ps 0):=by
 rw [← words_x h ha hp,Bool.eq_iff_iff,decide_eq_true_eq,decide_eq_true_eq,← alw_after,← alw_after]
 exact kpG_iff.1 hk _
theorem rd_wf {n:Nat} {r:List Int} (h1:1≤n) (h5:n≤5) (h:∃ hs f,RdN n hs f∧r=mkR n hs f):WfR r:=by
 obtain ⟨hs,f,hR,rfl⟩:=h
 exact wfR_of (mkR_len h5 hR.len) (chkRd_mk h1 h5 hR)
theorem rd_ren {n:Nat} {a r:List Int} (h1:1≤n) (h5:n≤5) (ha:IsP n a) (h:∃ hs f,RdN n hs f∧r=mkR n hs f):∃ hs f,RdN n hs f∧renR a r=mkR n hs f:=by
 obtain ⟨hs,f,hR,rfl⟩:=h
 exact ⟨_,_,hR.ren h1 h5 ha,by rw [renR_mk ha h5 hR.len]⟩
theorem roundRen {w:World} {u:Value} {n:Nat} {a r:List Int} (h1:1≤n) (h5:n≤5) (hr:∃ hs f,RdN n hs f∧r=mkR n hs f) (ha:IsP n a) (hu:Ints w u a) :
  Calls Tryz.prog 46 #[rVal r,u] w fun e w'=>e = .returned (.tuple #[rVal (renR a r),.int .i64 0])∧Below w.heap.size w w':=by
 obtain ⟨hs,f,hR,rfl⟩:=hr
 exact roundPerm h1 h5 hR ha hu
theorem lawWordsS {w:World} {v u x:Value} {n:Int} {ss:List (List (List Int))} {a:List Int} {ps:List (List Int)} (hA:AdvC w v n ss) (hu:Ints w u a) (hx:RdsV w x ps) :
  Calls Tryz.prog 10 #[v,u,x] w (Yes w):=by
 obtain ⟨xa,xc,hv⟩:=advShape' hA.adv
 subst hv
 obtain ⟨ua,uc,hus⟩:∃ ua uc,u = .slice ua a.length uc:=by obtain ⟨ua,uc,_,_,h,_⟩:=hu; exact ⟨ua,uc,h⟩
 obtain ⟨ya,yc,hxs⟩:∃ ya yc,x = .slice ya ps.length yc:=by obtain ⟨ua,uc,_,_,h,_⟩:=hx; exact ⟨ua,uc,h⟩
 subst hus hxs
 obtain ⟨W1,hW1⟩:=exF (w.alloc (.cells #[.int .i64 n,.slice xa ss.length xc] 24))
 obtain ⟨hb1,p0,p1,_⟩:=boxAdv hW1
 have hK:=Lib.hid (fun W (hb:Below W1.heap.size W1 W)=>And.intro (cell_kept hb p0) (cell_kept hb p1))
 have hA1:=Lib.hid (fun W (hb:Below W1.heap.size W1 W)=>((hA.keep hb1).keep hb))
 have hu1:=Lib.hid (fun W (hb:Below W1.heap.size W1 W)=>((hu.keep hb1).keep hb))
 have HF:=refFew (hA1.out W1 (Below.refl _ _)).adv
 have HC:=fun W (hb:Below W1.heap.size W1 W)=>refCheckA (hA1.out W hb).adv
 have HP:=fun W (hb:Below W1.heap.size W1 W)=>refCheck (hu1.out W hb)
 obtain ⟨fx,hfx⟩:=exE (fewA ss)
 obtain ⟨E,hE⟩:=exE (chkA n ss)
 obtain ⟨P,hP⟩:=exE (chk a)
 rw [hfx] at HF
 simp only [hE] at HC
 simp only [hP] at HP
 replace HF:=Lib.hid HF
 replace HC:=Lib.hid HC
 replace HP:=Lib.hid HP
 clear hA hu
 cases fx
 ·clear hfx hE hP HC HP hA1 hu1 hx
  go_enter Tryz.func10, Tryz.ntmps10
  go_wp2_with fail
  rw [← hW1]
  replace hW1:=Lib.hid hW1
  refine HF.out.mono ?_
  rintro e W2 ⟨rfl,hb2⟩
  clear p0 p1
  obtain ⟨p0,p1⟩:=hK.out W2 hb2
  go_wp2_with fail
  clear p0 p1
  refine (awakeC (w:=W2)).mono ?_
  rintro e W9 ⟨rfl,hq⟩
  have hb9:=bt hb1 (btt hb2 hq) hb1.size
  go_wp2
  go_ret
  exact ⟨rfl,hb9⟩
 by_cases h1:E=0
 rotate_left
 ·have hEb:(E != 0)=true:=by simp [h1]
  clear hfx hE hP hA1 hu1 hx HP
  go_enter Tryz.func10, Tryz.ntmps10
  go_wp2_with fail
  rw [← hW1]
  replace hW1:=Lib.hid hW1
  refine HF.out.mono ?_
  rintro e W2 ⟨rfl,hb2⟩
  clear p0 p1
  obtain ⟨p0,p1⟩:=hK.out W2 hb2
  go_wp2_with fail
  refine (HC.out W2 hb2).mono ?_
  rintro e W3 ⟨rfl,hq⟩
  have hb3:=btt hb2 hq
  clear hq p0 p1
  obtain ⟨p0,p1⟩:=hK.out W3 hb3
  go_wp2_with fail
  clear p0 p1
  refine (awakeC (w:=W3)).mono ?_
  rintro e W9 ⟨rfl,hq⟩
  have hb9:=bt hb1 (btt hb3 hq) hb1.size
  go_wp2
  go_ret
  exact ⟨rfl,hb9⟩
 subst h1
 by_cases h2:P=0
 rotate_left
 ·have hPb:(P != 0)=true:=by simp [h2]
  clear hfx hE hP hA1 hu1 hx
  go_enter Tryz.func10, Tryz.ntmps10
  go_wp2_with fail
  rw [← hW1]
  replace hW1:=Lib.hid hW1
  refine HF.out.mono ?_
  rintro e W2 ⟨rfl,hb2⟩
  clear p0 p1
  obtain ⟨p0,p1⟩:=hK.out W2 hb2
  go_wp2_with fail
  refine (HC.out W2 hb2).mono ?_
  rintro e W3 ⟨rfl,hq⟩
  have hb3:=btt hb2 hq
  clear hq p0 p1
  obtain ⟨p0,p1⟩:=hK.out W3 hb3
  go_wp2_with fail
  refine (HP.out W3 hb3).mono ?_
  rintro e W4 ⟨rfl,hq⟩
  have hb4:=btt hb3 hq.below
  clear hq p0 p1
  obtain ⟨p0,p1⟩:=hK.out W4 hb4
  go_wp2_with fail
  clear p0 p1
  refine (awakeC (w:=W4)).mono ?_
  rintro e W9 ⟨rfl,hq⟩
  have hb9:=bt hb1 (btt hb4 hq) hb1.size
  go_wp2
  go_ret
  exact ⟨rfl,hb9⟩
 subst h2
 by_cases g0:(a.length:Int)=n
 rotate_left
 ·have hLb:((a.length:Int) != n)=true:=by simp [g0]
  clear hfx hE hP hA1 hu1 hx g0
  go_enter Tryz.func10, Tryz.ntmps10
  go_wp2_with fail
  rw [← hW1]
  replace hW1:=Lib.hid hW1
  refine HF.out.mono ?_
  rintro e W2 ⟨rfl,hb2⟩
  clear p0 p1
  obtain ⟨p0,p1⟩:=hK.out W2 hb2
  go_wp2_with fail
  refine (HC.out W2 hb2).mono ?_
  rintro e W3 ⟨rfl,hq⟩
  have hb3:=btt hb2 hq
  clear hq p0 p1
  obtain ⟨p0,p1⟩:=hK.out W3 hb3
  go_wp2_with fail
  refine (HP.out W3 hb3).mono ?_
  rintro e W4 ⟨rfl,hq⟩
  have hb4:=btt hb3 hq.below
  clear hq p0 p1
  obtain ⟨p0,p1⟩:=hK.out W4 hb4
  go_wp2_with fail
  clear p0 p1
  refine (awakeC (w:=W4)).mono ?_
  rintro e W9 ⟨rfl,hq⟩
  have hb9:=bt hb1 (btt hb4 hq) hb1.size
  go_wp2
  go_ret
  exact ⟨rfl,hb9⟩
 have hLf:((a.length:Int) != n)=false:=by simp [g0]
 by_cases g1:6 < ps.length
 ·have hMb:decide ((6:Int) < (ps.length:Int))=true:=decide_eq_true (by omega)
  clear hfx hE hP hA1 hu1 hx g0 g1
  go_enter Tryz.func10, Tryz.ntmps10
  go_wp2_with fail
  rw [← hW1]
  replace hW1:=Lib.hid hW1
  refine HF.out.mono ?_
  rintro e W2 ⟨rfl,hb2⟩
  clear p0 p1
  obtain ⟨p0,p1⟩:=hK.out W2 hb2
  go_wp2_with fail
  refine (HC.out W2 hb2).mono ?_
  rintro e W3 ⟨rfl,hq⟩
  have hb3:=btt hb2 hq
  clear hq p0 p1
  obtain ⟨p0,p1⟩:=hK.out W3 hb3
  go_wp2_with fail
  refine (HP.out W3 hb3).mono ?_
  rintro e W4 ⟨rfl,hq⟩
  have hb4:=btt hb3 hq.below
  clear hq p0 p1
  obtain ⟨p0,p1⟩:=hK.out W4 hb4
  go_wp2_with fail
  clear p0 p1
  refine (awakeC (w:=W4)).mono ?_
  rintro e W9 ⟨rfl,hq⟩
  have hb9:=bt hb1 (btt hb4 hq) hb1.size
  go_wp2
  go_ret
  exact ⟨rfl,hb9⟩
 have hMf:decide ((6:Int) < (ps.length:Int))=false:=decide_eq_false (by omega)
 obtain ⟨k,hk,hW⟩:=wfN_of (hA1.out W1 (Below.refl _ _)).adv hE
 have hal:a.length=k:=by omega
 have ha:IsP k a:=by have:=chk_isP hP; rwa [hal] at this
 have hF:=fewS_of hfx
 have hfl:=few_le hfx
 have hm:movesN ss≤1000000000:=by omega
 have h1:=hW.h1
 have h5:=hW.h5
 have hWr:=hW.ren ha
 have hks:=hx.ks (by omega)
 have hks1:=Lib.hid (fun W (hb:Below W1.heap.size W1 W)=>(hks.keep hb1).keep hb)
 subst hk
 have HWd:=Lib.hid (fun W (hb:Below W1.heap.size W1 W)=>refWordC (n:=(k:Int)) (hks1.out W hb) (by omega) (by omega) (by omega))
 have hO1:ClsOK ss:=clsOK_of (mem8 (hA1.out W1 (Below.refl _ _)).adv) hE (by omega) (by omega)
 have HAw:=Lib.hid (fun W (hb:Below W1.heap.size W1 W) (wv:Value) (qs:List (List Int)) (hq:KS 7 W wv qs) (hw:∀ r∈qs,WfR r)=>allowsCall (hA1.out W hb).adv hE hO1 hq hw)
 have HAr:=Lib.hid (fun W (r:Value) (hr:OwAdv W r k (renA a ss)) (wv:Value) (qs:List (List Int)) (hq:KS 7 W wv qs) (hw:∀ r∈qs,WfR r)=>allowsCall hr.advC.adv hWr.chk (clsOK_of (mem8 hr.advC.adv) hWr.chk (by rw [renA,List.length_map]; omega) (by rw [movesN_ren]; omega)) hq hw)
 have HPm:=Lib.hid (fun W (h:Below W1.heap.size W1 W)=>permuteGood (hA1.out W h).adv (hu1.out W h) hm hW ha)
 have HCk:=fun W (r:Value) (hr:OwAdv W r k (renA a ss))=>checkA hr.advC.adv (by rw [movesN_ren]; omega)
 simp only [hWr.chk] at HCk
 replace HCk:=Lib.hid HCk
 have HI:=fun W (hb:Below W1.heap.size W1 W)=>invariantC (hA1.out W hb) (hu1.out W hb) hF
 have hpe:perE k ss a=0:=perE_zero hW ha
 have hiv:invR k ss a=kpG ss a:=by rw [invR,if_pos hpe]
 simp only [hpe,hiv] at HI
 obtain ⟨S,hS⟩:=exE (kpG ss a)
 simp only [hS] at HI
 replace HI:=Lib.hid HI
 have hWh:=Lib.hid hW
 have hah:=Lib.hid ha
 obtain ⟨RS,hRS⟩:=exE (renA a ss)
 simp only [hRS] at HPm HAr HCk
 replace hRS:=Lib.hid hRS
 have hpl:ps.length≤6:=by omega
 replace hS:=Lib.hid hS
 clear hfx hE hP hal hF hfl hm hO1 hpe hiv hks hx g0 g1 ha hW hWr
 go_enter Tryz.func10, Tryz.ntmps10
 go_wp2_with fail
 rw [← hW1]
 replace hW1:=Lib.hid hW1
 refine HF.out.mono ?_
 rintro e W2 ⟨rfl,hb2⟩
 clear p0 p1
 obtain ⟨p0,p1⟩:=hK.out W2 hb2
 go_wp2_with fail
 refine (HC.out W2 hb2).mono ?_
 rintro e W3 ⟨rfl,hq⟩
 have hb3:=btt hb2 hq
 clear hq p0 p1
 obtain ⟨p0,p1⟩:=hK.out W3 hb3
 go_wp2_with fail
 refine (HP.out W3 hb3).mono ?_
 rintro e W4 ⟨rfl,hq⟩
 have hb4:=btt hb3 hq.below
 clear hq p0 p1
 obtain ⟨p0,p1⟩:=hK.out W4 hb4
 go_wp2_with fail
 refine (HWd.out W4 hb4).mono ?_
 rintro e W5 ⟨E2,rfl,hE2,hq⟩
 have hb5:=btt hb4 hq
 clear hq p0 p1 HF HC HP HWd
 by_cases h2:E2=0
 rotate_left
 ·have hEb:(E2 != 0)=true:=by simp [h2]
  go_wp2_with fail
  refine (awakeC (w:=W5)).mono ?_
  rintro e W9 ⟨rfl,hq⟩
  have hb9:=bt hb1 (btt hb5 hq) hb1.size
  go_wp2
  go_ret
  exact ⟨rfl,hb9⟩
 subst h2
 have hpv:Hid (∀ r∈ps,∃ hs f,RdN k hs f∧r=mkR k hs f):=fun r hr=>by
  obtain ⟨z1,z2⟩:=hE2 rfl r hr
  obtain ⟨va,vc,vb,vo,_,_,hvc,_⟩:=hks1.out W5 hb5
  obtain ⟨j,hj,e⟩:=List.mem_iff_getElem.1 hr
  have hl7:r.length=7:=by have:=(hvc j hj).1; rwa [getD_eq hj,e] at this
  exact (rd_of hl7 z1 z2).2
 have hrv:Hid (∀ r∈ps.map (renR a),WfR r):=fun r hr=>by
  obtain ⟨y,hy,rfl⟩:=List.mem_map.1 hr
  exact rd_wf h1 h5 (rd_ren h1 h5 hah.out (hpv.out y hy))
 have hpw:Hid (∀ r∈ps,WfR r):=fun r hr=>rd_wf h1 h5 (hpv.out r hr)
 have hX:=words_x hWh.out hah.out hpv.out
 have hZ:=fun h=>words_z hWh.out hah.out hpv.out (hS.out.trans h)
 obtain ⟨X,hXX⟩:=exE (decide (0≤afterI ss ps 0))
 obtain ⟨Z,hZZ⟩:=exE (decide (0≤afterI ss (ps.map (renR a)) 0))
 rw [hRS.out,hXX] at hX
 rw [hXX,hZZ] at hZ
 replace hZ:=Lib.hid hZ
 obtain ⟨p0,p1⟩:=hK.out W5 hb5
 clear hLf hMf hE2
 go_wp2_with fail
 refine (HPm.out W5 hb5).mono ?_
 rintro e W6 ⟨r6,rfl,hO6,hq⟩
 have hb6:=btt hb5 hq
 have hO6h:=Lib.hid hO6
 obtain ⟨sv6,rfl,hO6a,_⟩:=hO6
 obtain ⟨ra6,rc6,rfl⟩:=hO6a.shape
 obtain ⟨W7,hW7⟩:=exF (W6.alloc (.cells #[.int .i64 (k:Int),.slice ra6 RS.length rc6] 24))
 obtain ⟨hb7a,q0,q1,m7⟩:=boxAdv hW7
 have hb7:=btt hb6 hb7a
 have hO7:=Lib.hid (hO6h.out.keep hb7a)
 have HC7:=Lib.hid (HCk.out W7 _ hO7.out)
 clear hq p0 p1 hO6a hO6h HPm HCk
 go_upto_region 4 with fail
 rw [← hW7]
 replace hW7:=Lib.hid hW7
 go_wp2_with fail
 refine HC7.out.mono ?_
 rintro e W8 ⟨rfl,hq8⟩
 have hb8:=btt hb7 hq8
 have hB8:=Lib.hid (fun W (hb:Below W8.heap.size W8 W)=>And.intro (hO7.out.keep (btt hq8 hb)) (boxL2 (((btt hq8 hb).block _ (Array.getElem?_eq_some_iff.1 m7).1).trans m7)))
 have hown0:OwX 87 7 EI W8 W8.heap.size (.slice none 0 0) 0 ((ps.map (renR a)).take 0):=OwX.nil _ _
 have hbo0:=Below.refl W8.heap.size W8
 obtain ⟨M,hM⟩:=exE (ps.map (renR a))
 have hMl:Hid (M.length=ps.length):=by show _=_; rw [← hM,List.length_map]
 have hMi:Hid (∀ j,j < ps.length→M.getD j []=renR a (ps.getD j [])):=fun j hj=>by rw [← hM,getD_eq (by rw [List.length_map]; exact hj),List.getElem_map,getD_eq hj]
 rw [hM] at hown0 hrv hX hZZ
 replace hM:=Lib.hid hM
 clear q0 q1 HC7 hO7
 go_wp2_with fail
 go_loopw [9,70] (fun ov jv wr=>∃ j:Nat,jv = .int .i64 (j:Int)∧j≤ps.length∧OwX 87 7 EI wr W8.heap.size ov j (M.take j)∧Hid (Below W8.heap.size W8 wr)) (fun _ jv _=>ps.length - (intOf jv).toNat)
 case atStart=>exact ⟨0,rfl,Nat.zero_le _,hown0,hbo0⟩
 case round=>
  clear hown0 hbo0
  obtain ⟨j,rfl,hj,how,hbo⟩:=hrel
  obtain ⟨oa,oc,hov⟩:=how.shape
  subst hov
  have hbW:=btt hb8 hbo.out
  by_cases hltj:j < ps.length
  ·have hltJ:(j:Int) < (ps.length:Int):=by omega
   obtain ⟨va,vc,vb,vo,hve,hva,hvc,_⟩:=hks1.out wr hbW
   injection hve with hv1 hv2 hv3
   have hva:=hva (by omega)
   rw [← hv1] at hva
   subst hva
   obtain ⟨hx7,hxc⟩:=hvc j hltj
   obtain ⟨x,hx⟩:=exE (ps.getD j [])
   have hxv:=hpv.out x (by rw [← hx]; exact getD_mem hltj)
   have hstep:M.take (j+1)=M.take j ++ [renR a x]:=by rw [take_snoc (by rw [hMl.out]; exact hltj) [],hMi.out j hltj,hx]
   rw [hx] at hx7 hxc
   have hr7:(renR a x).length=7:=by
    obtain ⟨hs,f,hR,e⟩:=rd_ren h1 h5 hah.out hxv
    rw [e]; exact mkR_len h5 hR.len
   have HR:=fun W (hb:Below W1.heap.size W1 W)=>roundRen h1 h5 hxv hah.out (hu1.out W hb)
   obtain ⟨R,hR⟩:=exE (renR a x)
   rw [hR] at hstep hr7
   simp only [hR] at HR
   obtain ⟨k0,k1,k2,k3,k4,k5,k6,rfl⟩:=seven hr7
   obtain ⟨y0,y1,y2,y3,y4,y5,y6,rfl⟩:=seven hx7
   simp only [rVal,List.map_cons,List.map_nil] at HR
   replace HR:=Lib.hid HR
   obtain ⟨d0,d1,d2,d3,d4,d5,d6⟩:=hxc.all7
   obtain ⟨W9,hW9⟩:=exF (wr.alloc (.cells #[.int .i64 y0,.int .i64 y1,.int .i64 y2,.int .i64 y3,.int .i64 y4,.int .i64 y5,.int .i64 y6] 87))
   have hb9:Below wr.heap.size wr W9:=by rw [hW9]; exact (Below.refl _ _).alloc (Nat.le_refl _) _
   have m9:W9.heap[wr.heap.size]? = some (.cells #[.int .i64 y0,.int .i64 y1,.int .i64 y2,.int .i64 y3,.int .i64 y4,.int .i64 y5,.int .i64 y6] 87):=by rw [hW9]; exact heap_alloc_new _ _
   obtain ⟨z0,z1,z2,z3,z4,z5,z6⟩:=boxL7 m9
   replace hstep:=Lib.hid hstep
   clear hx hxv hR hr7 hx7 hxc hvc hv2 hv3 hv1 m9
   go_upto_region 10 with fail
   rw [← hW9]
   replace hW9:=Lib.hid hW9
   go_wp2_with fail
   refine (HR.out W9 (btt hbW hb9)).mono ?_
   rintro e W10 ⟨rfl,hq10⟩
   obtain ⟨W11,hW11⟩:=exF (W10.alloc (.cells #[.int .i64 k0,.int .i64 k1,.int .i64 k2,.int .i64 k3,.int .i64 k4,.int .i64 k5,.int .i64 k6] 87))
   have hb11:Below W10.heap.size W10 W11:=by rw [hW11]; exact (Below.refl _ _).alloc (Nat.le_refl _) _
   have m11:W11.heap[W10.heap.size]? = some (.cells #[.int .i64 k0,.int .i64 k1,.int .i64 k2,.int .i64 k3,.int .i64 k4,.int .i64 k5,.int .i64 k6] 87):=by rw [hW11]; exact heap_alloc_new _ _
   have hr11:=btt hb9 (btt hq10 hb11)
   have how11:=how.keep (EI.stab _) hr11
   have hbo11:Below W8.heap.size W8 W11:=btt hbo.out hr11
   have hsz11:=hbo11.size
   obtain ⟨j0,j1,j2,j3,j4,j5,j6⟩:=boxL7 m11
   have hEI:EI W11 [.int .i64 k0,.int .i64 k1,.int .i64 k2,.int .i64 k3,.int .i64 k4,.int .i64 k5,.int .i64 k6] [k0,k1,k2,k3,k4,k5,k6]:=rfl
   have hc7:∀ u∈(#[.int .i64 k0,.int .i64 k1,.int .i64 k2,.int .i64 k3,.int .i64 k4,.int .i64 k5,.int .i64 k6]:Array Value).toList,u.oneCell'=true:=fun u hu=>by
    simp only [List.mem_cons,List.not_mem_nil,or_false] at hu
    rcases hu with rfl | rfl | rfl | rfl | rfl | rfl | rfl <;> rfl
   clear z0 z1 z2 z3 z4 z5 z6 how m11 d0 d1 d2 d3 d4 d5 d6
   go_upto_region 11 with fail
   rw [← hW11]
   replace hW11:=Lib.hid hW11
   go_wp2_with (at_builtin; refine wpAppX elemRd (by decide) (by decide) (EI.stab _) rfl _ _ rfl rfl how11 rfl rfl rfl hc7 hEI (by omega) hsz11 ?_)
   intro v' w9 how9 _ hb9' _
   rw [← hstep.out] at how9
   have hbf:Hid (Below W8.heap.size W8 w9):=hbo11.trans hb9'
   clear how11 j0 j1 j2 j3 j4 j5 j6
   go_wp2_with fail
   go_roundw
   case rel=>exact ⟨j+1,by go_num,by omega,how9,hbf⟩
   case measure=>simp [intOf]; omega
  ·obtain rfl:j=ps.length:=by omega
   rw [List.take_of_length_le (by rw [hMl.out]; exact Nat.le_refl _)] at how
   have hksM:=Lib.hid (fun W (hb:Below wr.heap.size wr W)=>by have h:=(how.ks (by omega)).keep hb; exact h)
   have HA1:=Lib.hid (HAw.out wr hbW _ ps (hks1.out wr hbW) hpw.out)
   rw [hXX] at HA1
   obtain ⟨⟨hO,q0,q1⟩⟩:=And.intro (hB8.out wr hbo.out) trivial
   obtain ⟨p0,p1⟩:=hK.out wr hbW
   clear hO q0 q1 how
   go_wp2_with fail
   refine HA1.out.mono ?_
   rintro e W9 ⟨rfl,hq9⟩
   have hb9:=btt hbW hq9
   have hbo9:=btt hbo.out hq9
   obtain ⟨hO9,q0,q1⟩:=hB8.out W9 hbo9
   have HA2:=HAr.out W9 _ hO9 _ M (hksM.out W9 hq9) hrv.out
   rw [hX] at HA2
   replace HA2:=Lib.hid HA2
   clear p0 p1 HA1 hO9 HAr
   go_wp2_with fail
   refine HA2.out.mono ?_
   rintro e W10 ⟨rfl,hq10⟩
   have hb10:=btt hb9 hq10
   have hr10:=btt hq9 hq10
   obtain ⟨p0,p1⟩:=hK.out W10 hb10
   clear q0 q1 HA2
   go_wp2_with fail
   refine (HI.out W10 hb10).mono ?_
   rintro e W11 ⟨rfl,hq11⟩
   have hb11:=btt hb10 hq11
   have hr11:=btt hr10 hq11
   have HA3:=HAw.out W11 hb11 _ M (hksM.out W11 hr11) hrv.out
   rw [hZZ] at HA3
   replace HA3:=Lib.hid HA3
   clear p0 p1 HI HAw
   obtain ⟨p0,p1⟩:=hK.out W11 hb11
   go_wp2_with fail
   refine HA3.out.mono ?_
   rintro e W12 ⟨rfl,hq12⟩
   have hb12:=btt hb11 hq12
   have eX:(X == X)=true:=by simp
   clear p0 p1 HA3 hX hXX hZZ
   by_cases hzx:Z=X
   ·subst hzx
    clear hZ
    go_wp2_with fail
    refine (awakeC (w:=W12)).mono ?_
    rintro e W13 ⟨rfl,hq13⟩
    have hfin:=bt hb1 (btt hb12 hq13) hb1.size
    go_wp2
    go_ret
    exact ⟨rfl,hfin⟩
   ·have hzf:(Z == X)=false:=by simpa using hzx
    obtain rfl:S=false:=by
     cases S with
     | false=>rfl
     | true=>exact absurd (hZ.out rfl) hzx
    clear hZ
    go_wp2_with fail
    refine (awakeC (w:=W12)).mono ?_
    rintro e W13 ⟨rfl,hq13⟩
    have hfin:=bt hb1 (btt hb12 hq13) hb1.size
    go_wp2
    go_ret
    exact ⟨rfl,hfin⟩
end Go.Proofs.YtmikofeildnpdaaGreat
