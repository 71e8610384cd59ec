/- Texts of this claim, put together: ZY YA YI0 YI. -/
import Derived.Test.YtmikofeildnpdaaGreatKUzj
import Derived.BigQuiet
import Derived.Test.YtmikofeildnpdaaGreatKUk
import Derived.Test.YtmikofeildnpdaaGreatKUt

set_option maxRecDepth 100000
set_option maxHeartbeats 12800000
/- law21.SymmetryMoves$1. -/
namespace Go.Proofs.YtmikofeildnpdaaGreat
open Go.RowKit
theorem moves1 {w:World} {u:Value} {x:List Int} {b1 b2 b3 n p:Nat} {q:Int} (hx:Ints w u x) (c1:w.cell? ⟨b1,0,none⟩=some (.int .i64 (n:Int))) (c2:w.cell? ⟨b2,0,none⟩=some (.int .i64 (p:Int))) (c3:w.cell? ⟨b3,0,none⟩=some (.int .i64 q)) (hp:p < n) :
  Calls Tryz.prog 27 #[u,.pointer (some ⟨b1,0,none⟩),.pointer (some ⟨b2,0,none⟩),.pointer (some ⟨b3,0,none⟩)] w fun e w'=>e = .returned (.bool (decide (x.length=n) && decide (x.getD p 0=q)))∧Qt w w':=by
 obtain ⟨xa,xc,xb,xo,rfl,hxa,hxc,_⟩:=hx
 by_cases hn:x.length=n
 ·subst hn
  rw [decide_eq_true rfl,Bool.true_and]
  obtain rfl:=hxa (by omega)
  have hc:=hxc p hp
  obtain ⟨y,hy⟩:=exE (x.getD p 0)
  rw [hy] at hc ⊢
  clear hy hxc
  have hpI:(p:Int) < (x.length:Int):=by omega
  have hp0:(0:Int)≤(p:Int):=by omega
  by_cases hq:y=q
  ·subst hq
   rw [decide_eq_true rfl]
   go_enter Tryz.func27, Tryz.ntmps27
   go_wp2_with fail
   go_quiet (fail)
   go_wp2
   go_ret
   exact ⟨rfl,by first | exact Qt.mk1 w | exact Qt.mk' w _⟩
  ·rw [decide_eq_false hq]
   have hqb:(y == q)=false:=by simp [hq]
   go_enter Tryz.func27, Tryz.ntmps27
   go_wp2_with fail
   go_quiet (fail)
   go_wp2
   go_ret
   exact ⟨rfl,by first | exact Qt.mk1 w | exact Qt.mk' w _⟩
 ·have hnb:((x.length:Int) == (n:Int))=false:=by simp; omega
  rw [decide_eq_false hn,Bool.false_and]
  go_enter Tryz.func27, Tryz.ntmps27
  go_wp2_with fail
  go_quiet (fail)
  go_wp2
  go_ret
  exact ⟨rfl,by first | exact Qt.mk1 w | exact Qt.mk' w _⟩
end Go.Proofs.YtmikofeildnpdaaGreat

/- slices.ContainsFunc with law21.SymmetryMoves$1. -/
namespace Go.Proofs.YtmikofeildnpdaaGreat
open Go.RowKit
def tkB (n p:Nat) (q:Int) (x:List Int):Bool:=decide (x.length=n) && decide (x.getD p 0=q)
theorem any_snoc {p:List Int→Bool} {xs:List (List Int)} {i:Nat} (h:i < xs.length):(xs.take (i+1)).any p=((xs.take i).any p || p (xs.getD i [])):=by rw [take_snoc h [],List.any_append]; simp
theorem tkIndex {w:World} {u:Value} {b1 b2 b3 n p:Nat} {q:Int} {xs:List (List Int)} (hx:Intss w u xs) (c1:w.cell? ⟨b1,0,none⟩=some (.int .i64 (n:Int))) (c2:w.cell? ⟨b2,0,none⟩=some (.int .i64 (p:Int))) (c3:w.cell? ⟨b3,0,none⟩=some (.int .i64 q)) (hp:p < n) :
  Calls Tryz.prog 71 #[u,.func (.func 27) #[] #[.pointer (some ⟨b1,0,none⟩),.pointer (some ⟨b2,0,none⟩),.pointer (some ⟨b3,0,none⟩)]] w fun e w'=>∃ z:Int,e = .returned (.int .i64 z)∧decide (0≤z)=xs.any (tkB n p q)∧Below w.heap.size w w':=by
 have HM:=Lib.hid (fun W (hb:Below w.heap.size w W) (x:List Int) (v:Value) (hv:Ints W v x)=>moves1 hv (cell_kept hb c1) (cell_kept hb c2) (cell_kept hb c3) hp)
 obtain ⟨xa,xc,xb,xo,rfl,hxa,hxc,hxl⟩:=hx
 replace hxc:=Lib.hid hxc
 obtain ⟨f,hf⟩:=exE (tkB n p q)
 have hfx:Hid (∀ x,(decide (x.length=n) && decide (x.getD p 0=q))=f x):=fun x=>by rw [← hf]; rfl
 rw [hf]
 have h0:Hid ((xs.take 0).any f=false):=by show _=_; simp
 clear hf c1 c2 c3 hp
 go_enter Tryz.func71, Tryz.ntmps71
 go_wp2_with fail
 go_loopw [8] (fun iv wr=>∃ i:Nat,iv = .int .i64 i∧i≤xs.length∧Hid ((xs.take i).any f=false)∧Below w.heap.size w wr) (fun iv _=>xs.length - (intOf iv).toNat)
 case atStart=>exact ⟨0,rfl,by omega,h0,Below.refl _ _⟩
 case round=>
  clear h0
  obtain ⟨i,rfl,hi,hno,hbr⟩:=hrel
  by_cases hlt:i < xs.length
  ·obtain rfl:=hxa (by omega)
   obtain ⟨xu,hxi,hxk⟩:=hxc.out i hlt
   have hsn:=any_snoc (p:=f) hlt
   obtain ⟨y,hy⟩:=exE (xs.getD i [])
   rw [hy] at hxk hsn
   have hym:y∈xs:=by rw [← hy]; exact getD_mem hlt
   have c0:=cell_kept hbr hxi
   have HC:=HM.out wr hbr y xu (hxk.keep hbr)
   rw [hfx.out y] at HC
   rw [hno.out,Bool.false_or] at hsn
   obtain ⟨xsa,xsc,hxs⟩:=hxk.shape
   subst hxs
   clear hxk hy hxi
   cases hb:f y with
   | true=>
    rw [hb] at HC
    replace HC:=Lib.hid HC
    have hres:Hid (xs.any f=true):=List.any_eq_true.2 ⟨y,hym,hb⟩
    have h0i:decide ((0:Int)≤(i:Int))=true:=decide_eq_true (by omega)
    clear hsn hym hno hb
    go_wp2_with fail
    refine HC.out.mono ?_
    rintro e w' ⟨rfl,hq⟩
    have hbn:=btt hbr hq.below
    go_wp2
    go_ret
    exact ⟨_,rfl,by rw [hres.out]; exact h0i,hbn⟩
   | false=>
    rw [hb] at HC hsn
    replace HC:=Lib.hid HC
    replace hsn:=Lib.hid hsn
    clear hym hno hb
    go_wp2_with fail
    refine HC.out.mono ?_
    rintro e w' ⟨rfl,hq⟩
    have hbn:=btt hbr hq.below
    go_wp2
    go_roundw
    case rel=>exact ⟨i+1,by go_num,hlt,hsn,hbn⟩
    case measure=>simp [intOf]; omega
  ·have hres:Hid (xs.any f=false):=by
    have:=hno.out
    rwa [List.take_of_length_le (by omega)] at this
   clear hno
   go_wp2
   go_ret
   exact ⟨_,rfl,by rw [hres.out]; rfl,hbr⟩
theorem tkContains {w:World} {u:Value} {b1 b2 b3 n p:Nat} {q:Int} {xs:List (List Int)} (hx:Intss w u xs) (c1:w.cell? ⟨b1,0,none⟩=some (.int .i64 (n:Int))) (c2:w.cell? ⟨b2,0,none⟩=some (.int .i64 (p:Int))) (c3:w.cell? ⟨b3,0,none⟩=some (.int .i64 q)) (hp:p < n) :
  Calls Tryz.prog 26 #[u,.func (.func 27) #[] #[.pointer (some ⟨b1,0,none⟩),.pointer (some ⟨b2,0,none⟩),.pointer (some ⟨b3,0,none⟩)]] w fun e w'=>e = .returned (.bool (xs.any (tkB n p q)))∧Below w.heap.size w w':=by
 have HI:=tkIndex hx c1 c2 c3 hp
 obtain ⟨A,hA⟩:=exE (xs.any (tkB n p q))
 rw [hA] at HI ⊢
 replace HI:=Lib.hid HI
 clear hA
 obtain ⟨ua,uc,hu⟩:=hx.shape
 subst hu
 clear hx c1 c2 c3 hp
 go_enter Tryz.func26, Tryz.ntmps26
 go_wp2_with fail
 refine HI.out.mono ?_
 rintro e w' ⟨z,rfl,hz,hw'⟩
 go_wp2
 go_ret
 exact ⟨rfl,hw'⟩
end Go.Proofs.YtmikofeildnpdaaGreat

/- The law SymmetryMoves. -/
namespace Go.Proofs.YtmikofeildnpdaaGreat
open Go.RowKit
def orP (s:Int) (p:Nat):Int:=bits BinOp.or IntKind.i64 s (wrap64 (2 ^ p))
def tsP (s:Int) (p:Nat):Bool:=bits BinOp.and IntKind.i64 (s / 2 ^ p) 1 == 1
def seenF (P:List Int):Int:=P.foldl (fun s p=>orP s p.toNat) 0
theorem orP_ok:((List.range 5).all fun n=>(List.range (2 ^ n)).all fun s=>(List.range n).all fun p=>decide (0≤orP (s:Int) p) && decide (orP (s:Int) p < 2 ^ n) && (List.range n).all fun q=>tsP (orP (s:Int) p) q == (decide (q=p) || tsP (s:Int) q))=true:=by decide +kernel
theorem orP_facts {n p:Nat} {s:Int} (hn:n≤4) (h0:0≤s) (h1:s < 2 ^ n) (hp:p < n):0≤orP s p∧orP s p < 2 ^ n∧∀ q,q < n→tsP (orP s p) q=(decide (q=p) || tsP s q):=by
 have hs:s.toNat < 2 ^ n:=by
  have h2:((2 ^ n:Nat):Int)=2 ^ n:=by norm_cast
  omega
 have:=List.all_eq_true.1 (List.all_eq_true.1 (List.all_eq_true.1 orP_ok n (List.mem_range.2 (by omega))) s.toNat (List.mem_range.2 hs)) p (List.mem_range.2 hp)
 rw [Int.toNat_of_nonneg h0,Bool.and_eq_true,Bool.and_eq_true] at this
 refine ⟨of_decide_eq_true this.1.1,of_decide_eq_true this.1.2,fun q hq=>?_⟩
 exact eq_of_beq (List.all_eq_true.1 this.2 q (List.mem_range.2 hq))
theorem full_ok:((List.range 5).all fun n=>(List.range (2 ^ n)).all fun s=>!((List.range n).all fun q=>tsP (s:Int) q) || decide ((s:Int)=2 ^ n - 1))=true:=by decide +kernel
theorem zero_ok:((List.range 5).all fun q=>!tsP 0 q)=true:=by decide +kernel
theorem seenF_snoc (P:List Int) (p:Int):seenF (P ++ [p])=orP (seenF P) p.toNat:=by unfold seenF; rw [List.foldl_append]; rfl
theorem seenF_facts {n:Nat} (hn:n≤4):∀ (k:Nat) (P:List Int),P.length=k→(∀ p∈P,0≤p∧p < (n:Int))→0≤seenF P∧seenF P < 2 ^ n∧∀ q,q < n→tsP (seenF P) q=decide ((q:Int)∈P)
 | 0,P,hk,_=>by
  obtain rfl:=List.length_eq_zero_iff.1 hk
  refine ⟨by decide,?_,fun q hq=>?_⟩
  ·show (0:Int) < 2 ^ n
   have:n=0∨n=1∨n=2∨n=3∨n=4:=by omega
   rcases this with rfl | rfl | rfl | rfl | rfl <;> decide
  ·have:=List.all_eq_true.1 zero_ok q (List.mem_range.2 (by omega))
   rw [show seenF []=0 from rfl]
   simpa using this
 | k+1,P,hk,hP=>by
  have hne:P ≠ []:=fun h=>by rw [h] at hk; cases hk
  obtain ⟨Q,p,rfl⟩:∃ Q p,P=Q ++ [p]:=⟨P.dropLast,P.getLast hne,(List.dropLast_concat_getLast hne).symm⟩
  obtain ⟨i1,i2,i3⟩:=seenF_facts hn k Q (by simpa using hk) fun x hx=>hP x (by simp [hx])
  have hp:=hP p (by simp)
  obtain ⟨j1,j2,j3⟩:=orP_facts hn i1 i2 (p:=p.toNat) (by omega)
  rw [seenF_snoc]
  refine ⟨j1,j2,fun q hq=>?_⟩
  rw [j3 q hq,i3 q hq,Bool.eq_iff_iff]
  simp only [Bool.or_eq_true,decide_eq_true_eq,List.mem_append,List.mem_singleton]
  have e:q=p.toNat↔(q:Int)=p:=by omega
  rw [e]
  exact Or.comm
theorem seenF_full {n:Nat} (hn:n≤4) {P:List Int} (hP:∀ p∈P,0≤p∧p < (n:Int)) (hA:∀ q:Nat,q < n→(q:Int)∈P):seenF P=2 ^ n - 1:=by
 obtain ⟨i1,i2,i3⟩:=seenF_facts hn _ P rfl hP
 have hs:(seenF P).toNat < 2 ^ n:=by
  have h2:((2 ^ n:Nat):Int)=2 ^ n:=by norm_cast
  omega
 have:=List.all_eq_true.1 (List.all_eq_true.1 full_ok n (List.mem_range.2 (by omega))) (seenF P).toNat (List.mem_range.2 hs)
 rw [Int.toNat_of_nonneg i1,Bool.or_eq_true] at this
 rcases this with h | h
 ·have hall:((List.range n).all fun q=>tsP (seenF P) q)=true:=List.all_eq_true.2 fun q hq=>by
   rw [i3 q (List.mem_range.1 hq)]
   exact decide_eq_true (hA q (List.mem_range.1 hq))
  rw [hall] at h
  cases h
 ·exact of_decide_eq_true h
structure OrbT (n:Nat) (G O:List (List Int)):Prop where
 rng:∀ o∈O,∀ p∈o,0≤p∧p < (n:Int)
 map:∀ o∈O,∀ p∈o,∀ q∈o,G.any (tkB n p.toNat q)=true
 cl:∀ o∈O,∀ p∈o,∀ x∈G,hasB o (x.getD p.toNat 0)=true
 len:∀ x∈G,x.length=n
 nodup:O.flatten.Nodup
 all:∀ q:Nat,q < n→(q:Int)∈O.flatten
theorem orbT {n:Nat} {G:List (List Int)} (h1:1≤n) (h5:n≤5) (hG:Grp n G):OrbT n G (orbR G n):=by
 have hrel:∀ {p q:Nat},p < n→((q:Int)∈obR G n p↔∃ g∈G,g.getD p 0=(q:Int)):=fun hp=>obR_mem hG hp
 have hsym:∀ {p q:Nat},p < n→(q:Int)∈obR G n p→(p:Int)∈obR G n q:=fun {p q} hp h=>by
  obtain ⟨g,hg,e⟩:=(hrel hp).1 h
  have hq:q < n:=by have:=(hG.isP g hg).at hp; omega
  obtain ⟨k,hk,e2⟩:=ob_symm h1 h5 hG hp hg
  rw [e,Int.toNat_natCast] at e2
  exact (hrel hq).2 ⟨k,hk,e2⟩
 have htr:∀ {p q r:Nat},p < n→(q:Int)∈obR G n p→(r:Int)∈obR G n q→(r:Int)∈obR G n p:=fun {p q r} hp h h'=>by
  obtain ⟨g,hg,e⟩:=(hrel hp).1 h
  have hq:q < n:=by have:=(hG.isP g hg).at hp; omega
  obtain ⟨k,hk,e2⟩:=(hrel hq).1 h'
  obtain ⟨j,hj,e3⟩:=ob_trans hG hp hg hk
  rw [e,Int.toNat_natCast,e2] at e3
  exact (hrel hp).2 ⟨j,hj,e3⟩
 have hin:∀ {p:Nat},p < n→∀ z∈obR G n p,∃ q:Nat,z=(q:Int)∧q < n:=fun {p} hp z hz=>by
  obtain ⟨g,hg,e⟩:=(obR_mem hG hp).1 hz
  have:=(hG.isP g hg).at hp
  exact ⟨z.toNat,by omega,by omega⟩
 have hO:∀ o∈orbR G n,∃ p,p < n∧lstB G n p=true∧obR G n p=o:=fun o ho=>by
  obtain ⟨p,hp,e⟩:=List.mem_map.1 ho
  obtain ⟨hp1,hp2⟩:=List.mem_filter.1 hp
  exact ⟨p,List.mem_range.1 hp1,hp2,e⟩
 refine ⟨fun o ho p hp=>?_,fun o ho p hp q hq=>?_,fun o ho p hp x hx=>?_,fun x hx=>(hG.isP x hx).1,?_,fun q hq=>?_⟩
 ·obtain ⟨r,hr,_,rfl⟩:=hO o ho
  obtain ⟨k,rfl,hk⟩:=hin hr p hp
  omega
 ·obtain ⟨r,hr,_,rfl⟩:=hO o ho
  obtain ⟨k,rfl,hk⟩:=hin hr p hp
  obtain ⟨j,rfl,hj⟩:=hin hr q hq
  have:=htr hk (hsym hr hp) hq
  obtain ⟨g,hg,e⟩:=(hrel hk).1 this
  rw [Int.toNat_natCast]
  refine List.any_eq_true.2 ⟨g,hg,?_⟩
  rw [tkB,Bool.and_eq_true]
  exact ⟨decide_eq_true (hG.isP g hg).1,decide_eq_true e⟩
 ·obtain ⟨r,hr,_,rfl⟩:=hO o ho
  obtain ⟨k,rfl,hk⟩:=hin hr p hp
  rw [Int.toNat_natCast,hasB,decide_eq_true_eq]
  have hx':=(hG.isP x hx).at hk
  have:((x.getD k 0).toNat:Int)∈obR G n k:=(hrel hk).2 ⟨x,hx,by omega⟩
  have:=htr hr hp this
  rwa [Int.toNat_of_nonneg hx'.1] at this
 ·show List.Pairwise _ _
  rw [List.pairwise_flatten]
  constructor
  ·intro o ho
   obtain ⟨r,hr,_,rfl⟩:=hO o ho
   exact (obR_asc r).imp fun {a b} h e=>by omega
  ·show List.Pairwise _ (((List.range n).filter (lstB G n)).map (obR G n))
   rw [List.pairwise_map]
   refine List.Pairwise.imp_of_mem (R:=fun a b=>a < b) ?_ (List.Pairwise.filter _ List.pairwise_lt_range)
   intro a b ha hb hab x hx y hy e
   subst e
   obtain ⟨ha1,ha2⟩:=List.mem_filter.1 ha
   obtain ⟨hb1,hb2⟩:=List.mem_filter.1 hb
   have ha1:=List.mem_range.1 ha1
   have hb1:=List.mem_range.1 hb1
   obtain ⟨k,rfl,hk⟩:=hin ha1 x hx
   have:=htr hb1 hy (hsym ha1 hx)
   have:=of_decide_eq_true (List.all_eq_true.1 hb2 _ this)
   omega
 ·have hself:(q:Int)∈obR G n q:=(hrel hq).2 (ob_refl hG hq)
  obtain ⟨h,t,e⟩:∃ h t,obR G n q=h::t:=by
   cases hh:obR G n q with
   | nil=>rw [hh] at hself; cases hself
   | cons h t=>exact ⟨h,t,rfl⟩
  obtain ⟨p,rfl,hp⟩:=hin hq h (by rw [e]; simp)
  have hmin:∀ z∈obR G n q,(p:Int)≤z:=fun z hz=>by
   have ha:=obR_asc (G:=G) (n:=n) q
   rw [e] at ha hz
   rcases List.mem_cons.1 hz with rfl | hz
   ·exact Int.le_refl _
   ·have:=List.rel_of_pairwise_cons ha hz
    omega
  have hqp:(q:Int)∈obR G n p:=hsym hq (by rw [e]; simp)
  have hl:lstB G n p=true:=List.all_eq_true.2 fun z hz=>by
   obtain ⟨k,rfl,hk⟩:=hin hp z hz
   exact decide_eq_true (hmin _ (htr hq (by rw [e]; simp) hz))
  refine List.mem_flatten.2 ⟨obR G n p,?_,hqp⟩
  exact List.mem_map.2 ⟨p,List.mem_filter.2 ⟨List.mem_range.2 hp,hl⟩,rfl⟩
theorem flat_snoc {O:List (List Int)} {i:Nat} (h:i < O.length):(O.take (i+1)).flatten=(O.take i).flatten++O.getD i []:=by rw [take_snoc h [],List.flatten_append]; simp
theorem OrbT.fresh {n:Nat} {G O:List (List Int)} (h:OrbT n G O) {i j:Nat} (hi:i < O.length) (hj:j < (O.getD i []).length):(O.getD i []).getD j 0 ∉ (O.take i).flatten++(O.getD i []).take j:=by
 have hn:=h.nodup
 rw [← List.take_append_drop (i+1) O,List.flatten_append,flat_snoc hi] at hn
 have hn:=(List.nodup_append.1 hn).1
 obtain ⟨o,ho⟩:=exE (O.getD i [])
 rw [ho] at hn hj ⊢
 rw [← List.take_append_drop j o,← List.append_assoc] at hn
 have h3:=(List.nodup_append.1 hn).2.2
 intro hm
 exact h3 _ hm _ (by rw [getD_eq hj]; exact List.mem_drop_iff_getElem.2 ⟨0,by omega,by simp⟩) rfl
end Go.Proofs.YtmikofeildnpdaaGreat

/- The law SymmetryMoves: the walk. -/
namespace Go.Proofs.YtmikofeildnpdaaGreat
open Go.RowKit
theorem lawMovesS {w:World} {v:Value} {l:List (List Int)} {n:Int} (hn:(Lit.int .u8 n).wf=true) (h:Intss w v l):Calls Tryz.prog 6 #[.int .u8 n,v] w (Yes w):=by
 obtain ⟨hn0,hn1⟩:=wf_u8 hn
 clear hn
 obtain ⟨k,hk⟩:∃ k:Nat,n % 4+1=(k:Int):=⟨(n % 4+1).toNat,by omega⟩
 have hk1:1≤k:=by omega
 have hk4:k≤4:=by omega
 obtain ⟨va,vc,hv⟩:∃ a c,v = .slice a l.length c:=by obtain ⟨a,c,_,_,h,_⟩:=h; exact ⟨a,c,h⟩
 subst hv
 obtain ⟨W1,hW1⟩:=exF (w.alloc (.cells #[.int .i64 (k:Int)] 3))
 have hb1:Below w.heap.size w W1:=by rw [hW1]; exact (Below.refl _ w).alloc (Nat.le_refl _) _
 have m1:W1.heap[w.heap.size]? = some (.cells #[.int .i64 (k:Int)] 3):=by rw [hW1]; exact heap_alloc_new _ _
 have p0:=cell_of_one m1
 have hK:=Lib.hid (fun W (hb:Below W1.heap.size W1 W)=>cell_kept hb p0)
 have h1:=Lib.hid (fun W (hb:Below W1.heap.size W1 W)=>(h.keep hb1).keep hb)
 have HL:=refList k (h1.out W1 (Below.refl _ _))
 obtain ⟨E,hE⟩:=exE (chkList k l)
 rw [hE] at HL
 replace HL:=Lib.hid HL
 replace hk:=Lib.hid hk
 clear h m1
 by_cases hl:4 < l.length
 ·have hd:decide ((4:Int) < (l.length:Int))=true:=decide_eq_true (by omega)
  clear h1 hE HL
  go_enter Tryz.func6, Tryz.ntmps6
  go_upto_region 2 with fail
  rw [hk.out,← hW1]
  replace hW1:=Lib.hid hW1
  go_wp2_with fail
  refine (awakeC (w:=W1)).mono ?_
  rintro e W9 ⟨rfl,hq⟩
  have hb9:=bt hb1 hq hb1.size
  go_wp2
  go_ret
  exact ⟨rfl,hb9⟩
 have hd:decide ((4:Int) < (l.length:Int))=false:=decide_eq_false (by omega)
 by_cases hz:E=0
 rotate_left
 ·have hEb:(E != 0)=true:=by simp [hz]
  clear h1 hE
  go_enter Tryz.func6, Tryz.ntmps6
  go_upto_region 2 with fail
  rw [hk.out,← hW1]
  replace hW1:=Lib.hid hW1
  go_wp2_with fail
  refine HL.out.mono ?_
  rintro e W2 ⟨rfl,hq2⟩
  have hb2:=hq2.below
  clear p0 hq2
  go_wp2_with fail
  refine (awakeC (w:=W2)).mono ?_
  rintro e W9 ⟨rfl,hq⟩
  have hb9:=bt hb1 (btt hb2 hq) hb1.size
  go_wp2
  go_ret
  exact ⟨rfl,hb9⟩
 subst hz
 have hC:=genR_closed hE
 obtain ⟨hGr,⟨_,hk5⟩,_⟩:=genR_grp hE
 have hGl:=genR_len hE hk5
 have hOT:OrbT k (genR k l) (obsR k l):=by
  rw [obsR,if_pos hE,Int.toNat_natCast,orb_eq hk1 hk5 hGr]
  exact orbT hk1 hk5 hGr
 have hOl:(obsR k l).length≤1000:=by
  rw [obsR,if_pos hE,Int.toNat_natCast,orb_eq hk1 hk5 hGr]
  show (((List.range k).filter _).map _).length≤_
  rw [List.length_map]
  have:=List.length_filter_le (lstB (genR k l) k) (List.range k)
  rw [List.length_range] at this
  omega
 have HO:=fun W (hb:Below W1.heap.size W1 W)=>orbitsC k (h1.out W hb)
 have HG:=fun W (hb:Below W1.heap.size W1 W)=>generate k (h1.out W hb)
 obtain ⟨G,hG⟩:=exE (genR k l)
 obtain ⟨O,hO⟩:=exE (obsR k l)
 simp only [hE,hO] at HO
 simp only [hE,hG] at HG
 rw [hG] at hGl hOT
 rw [hO] at hOT hOl
 replace HO:=Lib.hid HO
 replace HG:=Lib.hid HG
 have hfull:Hid (seenF O.flatten=2 ^ k - 1):=seenF_full hk4 (fun p hp=>by obtain ⟨o,ho,hpo⟩:=List.mem_flatten.1 hp; exact hOT.rng o ho p hpo) hOT.all
 have hfr:=Lib.hid (fun i j hi hj=>hOT.fresh (i:=i) (j:=j) hi hj)
 have hsf:Hid (∀ P:List Int,(∀ p∈P,p∈O.flatten)→0≤seenF P∧seenF P < 2 ^ k∧∀ q,q < k→tsP (seenF P) q=decide ((q:Int)∈P)):=fun P hP=>seenF_facts hk4 _ P rfl fun p hp=>by
  obtain ⟨o,ho,hpo⟩:=List.mem_flatten.1 (hP p hp)
  exact hOT.rng o ho p hpo
 have hot:=Lib.hid hOT
 have hGx:Hid (∀ x∈G,x.length≤17592186044416):=fun x hx=>by have:=hot.out.len x hx; omega
 have hol:Hid (∀ o∈O,o.length≤1000):=fun o ho=>by
  have hnd:o.Nodup:=(List.pairwise_flatten.1 hot.out.nodup).1 o ho
  have:=nodup_le (l:=o) (m:=(List.range k).map Int.ofNat) hnd fun x hx=>by
   have:=hot.out.rng o ho x hx
   exact List.mem_map.2 ⟨x.toNat,List.mem_range.2 (by omega),by show ((x.toNat:Nat):Int)=x; omega⟩
  rw [List.length_map,List.length_range] at this
  omega
 have hp2:Hid (∀ W:World,W=W):=fun _=>rfl
 clear hE hC hGr hG hO h1 hOT hp2
 go_enter Tryz.func6, Tryz.ntmps6
 go_upto_region 2 with fail
 rw [hk.out,← hW1]
 replace hW1:=Lib.hid hW1
 go_wp2_with fail
 refine HL.out.mono ?_
 rintro e W2 ⟨rfl,hq2⟩
 have hb2:=hq2.below
 clear p0 hq2 HL
 have p0:=hK.out W2 hb2
 go_wp2_with fail
 refine (HO.out W2 hb2).mono ?_
 rintro e W3 ⟨r3,rfl,ho3,hq⟩
 have hb3:=btt hb2 hq
 obtain ⟨oa,oc,rfl⟩:=ho3.shape
 replace ho3:=Lib.hid (ho3.base (Nat.zero_le _))
 clear p0 hq HO
 have p0:=hK.out W3 hb3
 go_wp2_with fail
 refine (HG.out W3 hb3).mono ?_
 rintro e W4 ⟨r4,rfl,hg4,hq⟩
 have hb4:=btt hb3 hq
 obtain ⟨ga,gc,rfl⟩:=hg4.shape
 replace ho3:=Lib.hid (ho3.out.keep hq)
 replace hg4:=Lib.hid (hg4.base (Nat.zero_le _))
 clear p0 hq HG hd
 have hK4:=Lib.hid (fun W (hb:Below W4.heap.size W4 W)=>hK.out W (btt hb4 hb))
 have hbr0:=Below.refl W4.heap.size W4
 go_wp2_with fail
 go_loopw [10,53] (fun sv iv wr=>∃ i:Nat,iv = .int .i64 (i:Int)∧i≤O.length∧sv = .int .i64 (seenF (O.take i).flatten)∧Hid (Below W4.heap.size W4 wr)) (fun _ iv _=>O.length - (intOf iv).toNat)
 case atStart=>exact ⟨0,rfl,Nat.zero_le _,rfl,hbr0⟩
 case round=>
  clear hbr0
  obtain ⟨i,rfl,hi,rfl,hbr⟩:=hrel
  by_cases hlt:i < O.length
  ·have hltI:(i:Int) < (O.length:Int):=by omega
   obtain ⟨g,cap,he⟩:=ho3.out.form2 (by omega)
   obtain ⟨rfl,rfl⟩:oa=some ⟨g,0,none⟩∧oc=cap:=by injection he with h1 h2 h3; exact ⟨h1,h3⟩
   obtain ⟨u,hcu,hu⟩:=(ho3.out.keep hbr.out).get hlt
   obtain ⟨o,ho⟩:=exE (O.getD i [])
   have hom:o∈O:=by rw [← ho]; exact getD_mem hlt
   rw [ho] at hu
   obtain ⟨ua,uc,huv⟩:=hu.shape
   subst huv
   have holo:=hol.out o hom
   have hfl:=flat_snoc hlt
   have hfri:=hfr.out i
   rw [ho] at hfl
   simp only [ho] at hfri
   have hmF:∀ p∈(O.take i).flatten,p∈O.flatten:=fun p hp=>by
    obtain ⟨o',ho',hp'⟩:=List.mem_flatten.1 hp
    exact List.mem_flatten.2 ⟨o',List.mem_of_mem_take ho',hp'⟩
   obtain ⟨F,hF⟩:=exE ((O.take i).flatten)
   rw [hF] at hfl hmF ⊢
   simp only [hF] at hfri
   have hmo:∀ p∈o,p∈O.flatten:=fun p hp=>List.mem_flatten.2 ⟨o,hom,hp⟩
   have hrgo:=Lib.hid (hot.out.rng o hom)
   have hmapo:=Lib.hid (hot.out.map o hom)
   have hclo:=Lib.hid (hot.out.cl o hom)
   have huk:=Lib.hid (fun W (hb:Below wr.heap.size wr W)=>hu.keep hb)
   replace hfri:=Lib.hid (fun j hj=>hfri j hlt hj)
   replace hmF:=Lib.hid hmF
   replace hmo:=Lib.hid hmo
   replace hfl:=Lib.hid hfl
   replace hF:=Lib.hid hF
   replace ho:=Lib.hid ho
   obtain ⟨wo,hwo⟩:=exF (wr)
   subst hwo
   have hbo0:=Below.refl wo.heap.size wo
   have hs0:Hid (F++o.take 0=F):=by show _=_; simp
   clear he hu hom
   go_wp2_with fail
   go_loopw [10,59] (fun sv jv wr=>∃ j:Nat,jv = .int .i64 (j:Int)∧j≤o.length∧sv = .int .i64 (seenF (F++o.take j))∧Hid (Below wo.heap.size wo wr)) (fun _ jv _=>o.length - (intOf jv).toNat)
   case atStart=>exact ⟨0,rfl,Nat.zero_le _,by rw [hs0.out],hbo0⟩
   case round=>
    clear hbo0 hcu hs0
    obtain ⟨j,rfl,hj,rfl,hbo⟩:=hrel
    have hbW:=btt hbr.out hbo.out
    by_cases hltj:j < o.length
    ·have hltJ:(j:Int) < (o.length:Int):=by omega
     obtain ⟨p,hp⟩:=exE (o.getD j 0)
     have hpm:p∈o:=by rw [← hp]; exact getD_mem hltj
     have hpr:=hrgo.out p hpm
     have hnf:=hfri.out j hltj
     rw [hp] at hnf
     have hsf1:=hsf.out (F++o.take j) (fun x hx=>by
      rcases List.mem_append.1 hx with hx | hx
      ·exact hmF.out x hx
      ·exact hmo.out x (List.mem_of_mem_take hx))
     obtain ⟨s0,s1,s2⟩:=hsf1
     have hsn:seenF (F++o.take (j+1))=orP (seenF (F++o.take j)) p.toNat:=by rw [take_snoc hltj 0,hp,← List.append_assoc,seenF_snoc]
     obtain ⟨pn,rfl⟩:∃ pn:Nat,p=(pn:Int):=⟨p.toNat,by omega⟩
     have hts:=s2 pn (by omega)
     rw [decide_eq_false hnf,tsP] at hts
     rw [Int.toNat_natCast,orP] at hsn
     obtain ⟨S,hS⟩:=exE (seenF (F++o.take j))
     rw [hS] at hts hsn s0 s1 ⊢
     have hu1:=huk.out wr hbo.out
     obtain ⟨g1,rfl⟩:∃ g1,ua=some ⟨g1,0,none⟩:=by
      rcases hu1.2 with ⟨_,h0⟩ | ⟨g1,c1,cur,he1,_⟩
      ·omega
      ·injection he1 with e1 _ _; exact ⟨g1,e1⟩
     have cp:=hu1.cell hltj
     rw [hp] at cp
     have hmapp:=hmapo.out pn hpm
     have hclp:=hclo.out pn hpm
     simp only [Int.toNat_natCast] at hmapp hclp
     replace hmapp:=Lib.hid hmapp
     replace hclp:=Lib.hid hclp
     obtain ⟨W5,hW5⟩:=exF (wr.alloc (.cells #[.int .i64 (pn:Int)] 3))
     have hb5:Below wr.heap.size wr W5:=by rw [hW5]; exact (Below.refl _ wr).alloc (Nat.le_refl _) _
     have m5:W5.heap[wr.heap.size]? = some (.cells #[.int .i64 (pn:Int)] 3):=by rw [hW5]; exact heap_alloc_new _ _
     have q0:=cell_of_one m5
     have p0:=hK4.out W5 (btt hbW hb5)
     have hd1:decide ((pn:Int) < 0)=false:=decide_eq_false (by omega)
     have hd2:decide (k≤pn)=false:=decide_eq_false (by omega)
     have hpn0:(0:Int)≤(pn:Int):=by omega
     have hpk:pn < k:=by omega
     replace hsn:=Lib.hid hsn
     replace hS:=Lib.hid hS
     replace hp:=Lib.hid hp
     clear s2 hnf hpm hu1 m5
     go_upto_region 15 with fail
     rw [← hW5]
     replace hW5:=Lib.hid hW5
     obtain ⟨wm,hwm⟩:=exF (wr)
     subst hwm
     have hb45:=btt hbW hb5
     have hbo5:=btt hbo.out hb5
     have hbm0:=Below.refl W5.heap.size W5
     go_wp2_with fail
     go_loopw [83] (fun mv wr=>∃ m:Nat,mv = .int .i64 (m:Int)∧m≤o.length∧Hid (Below W5.heap.size W5 wr)) (fun mv _=>o.length - (intOf mv).toNat)
     case atStart=>exact ⟨0,rfl,Nat.zero_le _,hbm0⟩
     case round=>
      clear hbm0 p0 cp
      obtain ⟨m,rfl,hm,hbm⟩:=hrel
      have hb4m:=btt hb45 hbm.out
      have hbom:=btt hbo5 hbm.out
      by_cases hltm:m < o.length
      ·have hltM:(m:Int) < (o.length:Int):=by omega
       have cq:=(huk.out wr hbom).cell hltm
       obtain ⟨q,hq⟩:=exE (o.getD m 0)
       have hqm:q∈o:=by rw [← hq]; exact getD_mem hltm
       rw [hq] at cq
       obtain ⟨W6,hW6⟩:=exF (wr.alloc (.cells #[.int .i64 q] 3))
       have hb6:Below wr.heap.size wr W6:=by rw [hW6]; exact (Below.refl _ wr).alloc (Nat.le_refl _) _
       have m6:W6.heap[wr.heap.size]? = some (.cells #[.int .i64 q] 3):=by rw [hW6]; exact heap_alloc_new _ _
       have hbm6:=btt hbm.out hb6
       have HT:=tkContains ((hg4.out.keep (btt hb4m hb6)).intss (by omega) hGx.out) (hK4.out W6 (btt hb4m hb6)) (cell_kept hbm6 q0) (cell_of_one m6) hpk
       rw [hmapp.out q hqm] at HT
       replace HT:=Lib.hid HT
       clear hq hqm m6
       go_upto_region 21 with fail
       rw [← hW6]
       replace hW6:=Lib.hid hW6
       go_wp2_with fail
       refine HT.out.mono ?_
       rintro e W7 ⟨rfl,hq7⟩
       have hbf:Hid (Below W5.heap.size W5 W7):=btt hbm6 hq7
       clear HT cq
       go_wp2_with fail
       go_roundw
       case rel=>exact ⟨m+1,by go_num,by omega,hbf⟩
       case measure=>simp [intOf]; omega
      ·obtain rfl:m=o.length:=by omega
       have hbn0:=Below.refl wr.heap.size wr
       obtain ⟨wn,hwn⟩:=exF (wr)
       subst hwn
       have q1:wn.cell? ⟨wm.heap.size,0,none⟩=some (.int .i64 (pn:Int)):=cell_kept hbm.out q0
       clear q0
       have q0:=hK4.out wn hb4m
       go_wp2_with fail
       go_loopw [94] (fun mv wr=>∃ m:Nat,mv = .int .i64 (m:Int)∧m≤G.length∧Hid (Below wn.heap.size wn wr)) (fun mv _=>G.length - (intOf mv).toNat)
       case atStart=>exact ⟨0,rfl,Nat.zero_le _,hbn0⟩
       case round=>
        clear hbn0
        obtain ⟨m,rfl,hm,hbn⟩:=hrel
        by_cases hltm:m < G.length
        ·have hltM:(m:Int) < (G.length:Int):=by omega
         obtain ⟨gg,cap,he⟩:=hg4.out.form2 (by omega)
         obtain ⟨rfl,rfl⟩:ga=some ⟨gg,0,none⟩∧gc=cap:=by injection he with h1 h2 h3; exact ⟨h1,h3⟩
         obtain ⟨xu,hcx,hxu⟩:=(hg4.out.keep (btt hb4m hbn.out)).get hltm
         obtain ⟨x,hx⟩:=exE (G.getD m [])
         have hxm:x∈G:=by rw [← hx]; exact getD_mem hltm
         have hxl:=hot.out.len x hxm
         rw [hx,hxl] at hxu
         obtain ⟨xa,xc,hxv⟩:=hxu.shape
         subst hxv
         obtain ⟨g2,rfl⟩:∃ g2,xa=some ⟨g2,0,none⟩:=by
          rcases hxu.2 with ⟨_,h0⟩ | ⟨g2,c2,cur,he1,_⟩
          ·omega
          ·injection he1 with e1 _ _; exact ⟨g2,e1⟩
         have cx:=hxu.cell hpk
         obtain ⟨z,hz⟩:=exE (x.getD pn 0)
         have hcz:=hclp.out x hxm
         rw [hz] at cx hcz
         have HS:=slContains z ((huk.out wr (btt hbom hbn.out)).ints (by omega))
         rw [hcz] at HS
         replace HS:=Lib.hid HS
         have q2:=cell_kept hbn.out q0
         have q3:=cell_kept hbn.out q1
         have hpkI:(pn:Int) < (k:Int):=by omega
         clear hx hxm hz hcz he hxu
         go_wp2_with fail
         refine HS.out.mono ?_
         rintro e W7 ⟨rfl,hq7⟩
         have hbf:Hid (Below wn.heap.size wn W7):=btt hbn.out hq7.below
         clear HS hcx cx q2 q3
         go_wp2_with fail
         go_roundw
         case rel=>exact ⟨m+1,by go_num,by omega,hbf⟩
         case measure=>simp [intOf]; omega
        ·obtain rfl:m=G.length:=by omega
         have hbf:Hid (Below wo.heap.size wo wr):=btt hbom hbn.out
         clear q0 q1 hbn
         go_wp2_with fail
         go_roundw
         case rel=>exact ⟨j+1,by go_num,by omega,by rw [hsn.out],hbf⟩
         case measure=>simp [intOf]; omega
    ·obtain rfl:j=o.length:=by omega
     rw [List.take_length,← hfl.out]
     have hbf:Hid (Below W4.heap.size W4 wr):=hbW
     go_wp2_with fail
     go_roundw
     case rel=>exact ⟨i+1,by go_num,by omega,rfl,hbf⟩
     case measure=>simp [intOf]; omega
  ·obtain rfl:i=O.length:=by omega
   have hbf:=hbr.out
   have p0:=hK4.out wr hbf
   rw [List.take_length,hfull.out]
   have hfb:=btt hb4 hbf
   have hk':k=1∨k=2∨k=3∨k=4:=by omega
   clear hot hsf hfr hol hGx hfull hK hK4 hk ho3 hg4 hbr hb2 hb3 hb4 hbf hW1 hGl hOl hn0 hn1
   rcases hk' with rfl | rfl | rfl | rfl
   all_goals
    go_wp2_with fail
    refine (awakeC (w:=wr)).mono ?_
    rintro e W9 ⟨rfl,hq⟩
    have hfin:=bt hb1 (btt hfb hq) hb1.size
    go_wp2
    go_ret
    exact ⟨rfl,hfin⟩
end Go.Proofs.YtmikofeildnpdaaGreat
