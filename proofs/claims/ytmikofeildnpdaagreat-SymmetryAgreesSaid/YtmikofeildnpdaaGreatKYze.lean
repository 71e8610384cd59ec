/- Texts of this claim, put together: ZJ ZK TD. -/
import Derived.Test.YtmikofeildnpdaaGreatKYzd
import Derived.Test.YtmikofeildnpdaaGreatKYq
import Derived.Test.YtmikofeildnpdaaGreatKYo
import Derived.Test.YtmikofeildnpdaaGreatKYs
import Derived.Shelf.SlSortCmp.NoneTotal
import Derived.Test.YtmikofeildnpdaaGreatKYp

set_option maxRecDepth 100000
set_option maxHeartbeats 12800000
/- slices.SortFunc at [][]int; task.moved. -/
namespace Go.Proofs.YtmikofeildnpdaaGreat
open Go.RowKit
open Go.Shelf Go.Lib Go.Sort
def IvE (w0:World):Type:={ x:Value × List Int // OI w0 0 x.1 x.2.length x.2∧x.2.length≤1000∧x.1.oneCell'=true }
instance (w0:World):Inhabited (IvE w0):=⟨⟨(.slice none 0 0,[]),OI.nil _ _,by decide,rfl⟩⟩
def IvE.enc {w0:World} (x:IvE w0):Value:=x.1.1
def IvE.cf {w0:World} (x y:IvE w0):Int:=cmpL x.1.2 y.1.2
theorem IvE.one (w0:World):OneCell (IvE.enc (w0:=w0)):=fun x=>x.2.2.2
theorem IvE.swo (w0:World):SWO (ltOf (IvE.cf (w0:=w0))) where
 irrefl _:=decide_eq_false fun h=>cmpL_asymm _ _ h h
 trans _ _ _ h1 h2:=decide_eq_true (cmpL_trans _ _ _ (of_decide_eq_true h1) (of_decide_eq_true h2))
 ntrans _ _ _ h1 h2:=decide_eq_false (cmpL_ntrans _ _ _ (of_decide_eq_false h1) (of_decide_eq_false h2))
theorem keep_sort {α:Type} [Inhabited α] {enc:α→Value} {w:World} {blk:Nat} (n:Nat) (d:Array α) (os:Array Obj) {cs:Array Value} {t:TypeId} (hg:w.heap[blk]? = some (.cells cs t)):KeepX t w (sortWorld enc w blk 0 n d os):=fun k cs' t' hk ht=>by
 refine heap_sortWorld_other _ _ _ _ (fun e=>?_) (Array.getElem?_eq_some_iff.1 hk).1
 rw [e,hg] at hk
 injection hk with hk
 injection hk with _ hk
 exact ht hk.symm
theorem OI.oth {w w':World} {B n:Nat} {v:Value} {xs:List Int} (h:OI w B v n xs) (hk:KeepX 25 w w'):OI w' B v n xs:=ownsRow_X h (by decide) hk
theorem IvE.lays {w:World} {blk:Nat} {cs:Array Value} (size:Nat) (hg:w.heap[blk]? = some (.cells cs 25)):CmpLays1 Tryz.prog 70 #[] (IvE.enc (w0:=w)) IvE.cf blk 0 size w:=by
 intro m os dk _ x y
 have hk:=keep_sort (enc:=IvE.enc (w0:=w)) m dk os hg
 refine (cmpIntsC (OI.ints (OI.oth x.2.1 hk) (by have:=x.2.2.1; omega)) (OI.ints (OI.oth y.2.1 hk) (by have:=y.2.2.1; omega))).mono fun _ _ ⟨he,hw⟩=>⟨he,grown_of (by rw [hw]; exact Go.RowKit.Below.refl _ _) (by rw [hw]; exact Nat.le_refl _)⟩
theorem sortIIs {w:World} {B g n cap:Nat} {us:List (List Int)} (h:OII w B (.slice (some ⟨g,0,none⟩) n cap) n us) (hn:n≤1000000) (hlu:∀ x∈us,x.length≤1000) :
  Calls Tryz.prog 69 #[.slice (some ⟨g,0,none⟩) n cap,.func (.func 70) #[] #[]] w fun e w'=>
   e = .returned (.tuple #[])∧∃ us':List (List Int),us'.Perm us∧us'.Pairwise (fun a b=>¬ cmpL b a < 0)∧OII w' B (.slice (some ⟨g,0,none⟩) n cap) n us'∧Go.RowKit.Below B w w':=by
 have hl:=h.length
 obtain ⟨vs,h1,_,h4,h3⟩:=h
 have hvl:vs.length=n:=by have:=h1.1; omega
 have hks:∀ j,j < n→OI w 0 (vs.getD j undef) (us.getD j []).length (us.getD j [])∧(us.getD j []).length≤1000∧(vs.getD j undef).oneCell'=true:=fun j hj=>
  ⟨h3 j hj,by rw [getD_eq (by omega)]; exact hlu _ (List.getElem_mem _),by rw [getD_eq (by omega)]; exact h4 _ (List.getElem_mem _)⟩
 rcases h1.2 with ⟨h0,_⟩ | ⟨g',cap',cur,he,hB,hg,hc1,hc2,hc3,hc4⟩
 ·cases h0
 ·injection he with he1 he2 he3
  injection he1 with he1
  injection he1 with he1
  subst he1 he3
  let mk:Fin n→IvE w:=fun j=>⟨(vs.getD j undef,us.getD j []),hks j j.2⟩
  obtain ⟨d,hd⟩:=exF (Array.ofFn mk)
  have hds:d.size=n:=by rw [hd]; simp
  have hdj:∀ j (hj:j < n),d[j]! = mk ⟨j,hj⟩:=fun j hj=>by rw [getElem!_pos d j (by omega)]; simp [hd]
  have hgl:=(Array.getElem?_eq_some_iff.1 hg).1
  have hH:Holds (IvE.enc (w0:=w)) w g 0 d:=by
   intro j hj
   rw [hds] at hj
   rw [hdj j hj,Nat.zero_add]
   refine ⟨?_,World.ownsRow.frozenAt h1 j⟩
   rw [World.ownsRow.cellAt h1 j (by omega)]
   show vs[j]? = some (vs.getD j undef)
   rw [getD_eq (by omega)]
   exact List.getElem?_eq_getElem (by omega)
  have eg:∀ args w,(callFunc 70 args).run Tryz.prog w = .ok (.enter 70 args) w:=enters_of Tryz.func70 (by kernel_rfl) rfl
  have hS:=Any.slices_SortFunc Tryz.sortII IvE.enc (IvE.one w) IvE.cf (IvE.swo w) 70 #[] g 0 cap d w eg (IvE.lays d.size hg) hH hgl (by omega)
  rw [hds] at hS
  change Calls Tryz.prog 69 _ _ _ at hS
  refine hS.mono ?_
  rintro e w' ⟨rfl,d',m,os,hp,hs,rfl⟩
  obtain ⟨hp1,_,hp2⟩:=hp
  rw [hds] at hp1
  have e1:d'.extract 0 n=d':=by rw [← hp1]; simp
  have e2:d.extract 0 n=d:=by rw [← hds]; simp
  rw [e1,e2] at hp2
  have ex:d.toList.map (fun x:IvE w=>x.1.2)=us:=by
   apply List.ext_getElem
   ·simp [hds,hl]
   ·intro j hj1 hj2
    simp only [List.getElem_map,Array.getElem_toList]
    have:=hdj j (by omega)
    rw [getElem!_pos d j (by omega)] at this
    rw [this]
    exact getD_eq hj2 []
  refine ⟨rfl,d'.toList.map (fun x:IvE w=>x.1.2),?_,?_,⟨d'.toList.map IvE.enc,⟨by simp [hp1],.inr ⟨g,cap,putCells IvE.enc 0 d' cur,rfl,hB,heap_sortWorld_same 0 m d' os hg,hc1,hc2,by simpa [putCells] using hc3,?_⟩⟩,by simp [hp1],?_,fun j hj=>?_⟩,below_sortWorld m d' os hB hgl⟩
  ·rw [← ex]; exact hp2.map _
  ·rw [List.pairwise_map,List.pairwise_iff_getElem]
   intro i j hi hj hij
   simp only [Array.length_toList] at hi hj
   have:=hs i j (Nat.zero_le _) hij (by omega)
   rw [getElem!_pos d' i hi,getElem!_pos d' j hj] at this
   exact of_decide_eq_false this
  ·have:=putCells_take IvE.enc d' cur (by omega)
   rw [hp1] at this
   rw [Nat.mul_one,this]
  ·intro x hx
   obtain ⟨y,_,rfl⟩:=List.mem_map.1 hx
   exact y.2.2.2
  ·have hjl:j < d'.size:=by omega
   have e1:(d'.toList.map IvE.enc).getD j undef=d'[j].1.1:=by rw [getD_eq (by simpa using hjl),List.getElem_map,Array.getElem_toList]; rfl
   have e2:(d'.toList.map (fun x:IvE w=>x.1.2)).getD j []=d'[j].1.2:=by rw [getD_eq (by simpa using hjl),List.getElem_map,Array.getElem_toList]
   rw [e1,e2]
   exact ownsRow_X d'[j].2.1 (by decide) (keep_sort m d' os hg)
theorem sortIInil (p:Option Addr) (cap:Nat) (w:World):Calls Tryz.prog 69 #[.slice p 0 cap,.func (.func 70) #[] #[]] w fun e w'=>e = .returned (.tuple #[])∧w'=w:=
 AnyF.slices_SortFunc_none (P:=Tryz.prog) (ρ:=Tryz.sortII_ren) { Tryz.sortII with } p cap (.func (.func 70) #[] #[]) w
theorem vecL_of {n:Nat} {a x:List Int} (h1:1≤n) (h5:n≤5) (ha:IsP n a) (hx:x.length=n):vecL a x=movedL a x∧vecE02 a x=0:=by
 have he:vecE02 a x=0:=by rw [vecE02,if_neg (fun h=>h (chk_of h1 h5 ha)),if_neg (fun h=>h (by rw [hx,ha.1]))]
 exact ⟨by rw [vecL,if_pos he],he⟩
theorem movedC {w:World} {v u:Value} {n:Nat} {a:List Int} {l:List (List Int)} (h1:1≤n) (h5:n≤5) (ha:IsP n a) (hl:∀ x∈l,x.length=n) (hll:l.length≤100000) (hv:Intss w v l) (hu:Ints w u a) :
  Calls Tryz.prog 114 #[v,u] w fun e w'=>∃ r,e = .returned r∧OII w' w.heap.size r (mvAll a l).length (mvAll a l)∧Below w.heap.size w w':=by
 have HV:=Lib.hid (fun W (h:Below w.heap.size w W) x (hx:x∈l) (t:Value) (ht:Ints W t x)=>by
  have:=vector (hu.keep h) ht
  rwa [(vecL_of h1 h5 ha (hl x hx)).1,(vecL_of h1 h5 ha (hl x hx)).2] at this)
 obtain ⟨M,hM⟩:=exE (l.map (movedL a))
 have hMl:Hid (M.length=l.length):=by rw [← hM,List.length_map]; exact rfl
 have hMi:Hid (∀ j,j < l.length→M.getD j []=movedL a (l.getD j [])):=fun j hj=>by rw [← hM,getD_eq (by rw [List.length_map]; exact hj),List.getElem_map,getD_eq hj]
 have hMx:Hid (∀ x∈M,x.length≤1000):=fun x hx=>by
  rw [← hM] at hx
  obtain ⟨y,_,rfl⟩:=List.mem_map.1 hx
  rw [movedL_length,ha.1]; omega
 have hR:Hid (∀ m:List (List Int),m.Perm M→m.Pairwise (fun a b=>¬ cmpL b a < 0)→m=mvAll a l):=fun m hp hs=>mvAll_of (by rw [hM]; exact hp) hs
 have hRl:Hid ((mvAll a l).length=l.length):=mvAll_len a l
 obtain ⟨Res,hRes⟩:=exE (mvAll a l)
 rw [hRes] at hR hRl ⊢
 obtain ⟨va,vc,vb,vo,rfl,hva,hvc,_⟩:=hv
 obtain ⟨ua,uc,hus⟩:∃ ua uc,u = .slice ua a.length uc:=by obtain ⟨ua,uc,_,_,h,_⟩:=hu; exact ⟨ua,uc,h⟩
 subst hus
 replace hvc:=Lib.hid hvc
 replace hva:=Lib.hid hva
 have ho0:OII w w.heap.size (.slice none 0 0) 0 (M.take 0):=OII.nil _ _
 have hb0:=Below.refl w.heap.size w
 clear hM hRes hu hl
 go_enter Tryz.func114, Tryz.ntmps114
 go_wp2_with fail
 go_loopw [5,12] (fun ov jv wr=>∃ j:Nat,jv = .int .i64 (j:Int)∧j≤l.length∧OII wr w.heap.size ov j (M.take j)∧Hid (Below w.heap.size w wr)) (fun _ jv _=>l.length - (intOf jv).toNat)
 case atStart=>exact ⟨0,rfl,Nat.zero_le _,ho0,hb0⟩
 case round=>
  clear ho0 hb0
  obtain ⟨j,rfl,hj,ho,hb⟩:=hrel
  obtain ⟨oa,oc,hov⟩:=ho.shape
  subst hov
  by_cases hlt:j < l.length
  ·have hltI:(j:Int) < (l.length:Int):=by omega
   obtain rfl:=hva.out (by omega)
   obtain ⟨t,hct,ht⟩:=hvc.out j hlt
   obtain ⟨x,hx⟩:=exE (l.getD j [])
   have hxm:x∈l:=by rw [← hx]; exact getD_mem hlt
   have hstep:M.take (j+1)=M.take j ++ [movedL a x]:=by rw [take_snoc (by rw [hMl.out]; exact hlt) [],hMi.out j hlt,hx]
   rw [hx] at ht
   have hct':=cell_kept hb.out hct
   have HC:=Lib.hid (HV.out wr hb.out x hxm t (ht.keep hb.out))
   obtain ⟨ta,tc,htv⟩:∃ ta tc,t = .slice ta x.length tc:=by obtain ⟨ta,tc,_,_,h,_⟩:=ht; exact ⟨ta,tc,h⟩
   subst htv
   obtain ⟨y,hy⟩:=exE (movedL a x)
   rw [hy] at HC hstep
   replace hstep:=Lib.hid hstep
   clear hx hxm hct ht hy
   go_wp2_with fail
   refine HC.out.mono ?_
   rintro e w1 ⟨r,rfl,hr,hb1⟩
   obtain ⟨ra,rc,rfl⟩:=hr.shape
   have ho1:=ho.keep hb1
   have hbw:=bt hb.out hb1 hb.out.size
   clear ho hct' HC
   go_wp2_with (at_builtin; refine wpApp1S rfl _ _ rfl rfl ho1 rfl hr rfl (by omega) hbw.size ?_; intro v2 w2 ho2 hb2 _)
   rw [← hstep.out] at ho2
   clear ho1 hr
   go_wp2_with fail
   go_roundw
   case rel=>exact ⟨j+1,by go_num,by omega,ho2,hbw.trans hb2⟩
   case measure=>simp [intOf]; omega
  ·obtain rfl:j=l.length:=by omega
   rw [List.take_of_length_le (by rw [hMl.out]; exact Nat.le_refl _)] at ho
   rcases Nat.eq_zero_or_pos l.length with h0 | h0
   ·have hRn:Res = []:=List.length_eq_zero_iff.1 (by rw [hRl.out]; exact h0)
    obtain rfl:=List.length_eq_zero_iff.1 h0
    subst hRn
    have hM0:M = []:=List.length_eq_zero_iff.1 hMl.out
    subst hM0
    have HS:=Lib.hid (sortIInil oa oc wr)
    have ho':OII wr w.heap.size (.slice oa 0 oc) ([]:List (List Int)).length []:=ho
    clear hva hvc HV hMi hMx hR hRl hMl ho
    go_wp2_with fail
    refine HS.out.mono ?_
    rintro e w2 ⟨rfl,hw2⟩
    replace hw2:=hw2.symm
    subst hw2
    go_wp2
    go_ret
    exact ⟨_,rfl,ho',hb.out⟩
   ·obtain ⟨g,cap,he⟩:=ho.form2 h0
    injection he with e1 e2 e3
    subst e1 e3
    have HS:=Lib.hid (sortIIs ho (by omega) hMx.out)
    clear ho
    go_wp2_with fail
    refine HS.out.mono ?_
    rintro e w2 ⟨rfl,m,hp,hs,hO2,hb2⟩
    have hm:=hR.out m hp hs
    subst hm
    have hO3:OII w2 w.heap.size (.slice (some ⟨g,0,none⟩) l.length oc) m.length m:=by rw [hO2.length]; exact hO2
    clear HS hO2 hp hs
    go_wp2
    go_ret
    exact ⟨_,rfl,hO3,hb.out.trans hb2⟩
end Go.Proofs.YtmikofeildnpdaaGreat

/- slices.SortFunc at rows of structs of any kind. -/
namespace Go.Proofs.YtmikofeildnpdaaGreat
open Go.RowKit
open Go.Shelf Go.Lib Go.Sort
def CeE {α:Type} (k:Nat) (El:World→List Value→α→Prop) (w0:World):Type:={ x:List Value × α // x.1.length=k∧(∀ u∈x.1,u.oneCell'=true)∧El w0 x.1 x.2 }
def CeE.enc {α:Type} {k:Nat} {El:World→List Value→α→Prop} {w0:World} (x:CeE k El w0):List Value:=x.1.1
theorem flat_K {β:Type} [Inhabited β] (enc:β→List Value) (k:Nat) (hk:0 < k) (hlen:∀ x,(enc x).length=k) (d:Array β) (j:Nat) (hj:j < d.size):((flatK enc k d).toList.drop (j * k)).take k=enc d[j]!:=by
 apply List.ext_getElem?
 intro i
 rw [List.getElem?_take]
 by_cases hi:i < k
 ·have hle:j * k+k≤d.size * k:=by rw [← Nat.succ_mul]; exact Nat.mul_le_mul_right _ hj
  rw [if_pos hi,List.getElem?_drop,Array.getElem?_toList,Array.getElem?_eq_getElem (by rw [size_flatK]; omega)]
  have:=get_flatK enc k d (j * k+i) (by omega)
  rw [getElem!_pos _ _ (by rw [size_flatK]; omega)] at this
  have e1:(j * k+i) / k=j:=by rw [Nat.add_comm,Nat.add_mul_div_right _ _ hk,Nat.div_eq_of_lt hi,Nat.zero_add]
  have e2:(j * k+i) % k=i:=by rw [Nat.add_comm,Nat.add_mul_mod_self_right,Nat.mod_eq_of_lt hi]
  rw [this,e1,e2]
  have hl:=hlen d[j]!
  rw [getElem!_pos _ i (by omega)]
  exact (List.getElem?_eq_getElem (by omega)).symm
 ·rw [if_neg hi,List.getElem?_eq_none (by rw [hlen]; omega)]
theorem sortOwX {α:Type} {ρ:Ren} (L:SlLaysF0.n6 Tryz.prog ρ) {k:Nat} (hk:0 < k) (aE:∀ w,(isAgg (ρ.t 24)).run Tryz.prog w = .ok true w) (zE:∀ w,(Go.sizeOf (ρ.t 24)).run Tryz.prog w = .ok k w) {E:TypeId} {El:World→List Value→α→Prop} (hSt:Stab E El) {fn:Nat} {cf:α→α→Int}
  (hO:∀ a b,cf a b < 0→¬ cf b a < 0) (hTr:∀ a b c,cf a b < 0→cf b c < 0→cf a c < 0) (hNt:∀ a b c,¬ cf a b < 0→¬ cf b c < 0→¬ cf a c < 0)
  (eg:∀ args w,(callFunc fn args).run Tryz.prog w = .ok (.enter fn args) w) {w:World}
  (hcmp:∀ W,KeepX E w W→∀ cs ds x y,El w cs x→El w ds y→cs.length=k→ds.length=k→Calls Tryz.prog fn #[.agg cs.toArray,.agg ds.toArray] W fun e w'=>e = .returned (.int .i64 (cf x y))∧Go.RowKit.Below W.heap.size W w'∧W.drawn≤w'.drawn)
  {B g n cap:Nat} {xs:List α} (h:OwX E k El w B (.slice (some ⟨g,0,none⟩) n cap) n xs) (hn0:0 < n) (hn:n≤1000000) :
  Calls Tryz.prog (ρ.f 6) #[.slice (some ⟨g,0,none⟩) n cap,.func (.func fn) #[] #[]] w fun e w'=>
   e = .returned (.tuple #[])∧∃ ys:List α,ys.Perm xs∧ys.Pairwise (fun a b=>¬ cf b a < 0)∧OwX E k El w' B (.slice (some ⟨g,0,none⟩) n cap) n ys∧Go.RowKit.Below B w w'∧KeepX E w w':=by
 have hl:=h.length
 obtain ⟨ws,h1,h2,h3,h4⟩:=h
 have hwl:ws.length=n * k:=h1.1
 rcases h1.2 with ⟨h0,_⟩ | ⟨g',cap',cur,he,hB,hg,hc1,hc2,hc3,hc4⟩
 ·cases h0
 ·injection he with he1 he2 he3
  injection he1 with he1
  injection he1 with he1
  subst he1 he3
  have hle:∀ j,j < n→j * k+k≤n * k:=fun j hj=>by rw [← Nat.succ_mul]; exact Nat.mul_le_mul_right _ hj
  let mk:Fin n→CeE k El w:=fun j=>⟨((ws.drop (j * k)).take k,xs[j.1]'(by rw [hl]; exact j.2)),by rw [List.length_take,List.length_drop]; have:=hle j j.2; omega,
   fun u hu=>h3 u (List.mem_of_mem_drop (List.mem_of_mem_take hu)),h4 j _ (List.getElem?_eq_getElem (by rw [hl]; exact j.2))⟩
  letI:Inhabited (CeE k El w):=⟨mk ⟨0,hn0⟩⟩
  obtain ⟨d,hd⟩:=exF (Array.ofFn mk)
  have hds:d.size=n:=by rw [hd]; simp
  have hdj:∀ j (hj:j < n),d[j]! = mk ⟨j,hj⟩:=fun j hj=>by rw [getElem!_pos d j (by omega)]; simp [hd]
  have hlen:∀ x:CeE k El w,(CeE.enc x).length=k:=fun x=>x.2.1
  have hone:∀ x:CeE k El w,∀ v∈CeE.enc x,v.oneCell'=true:=fun x=>x.2.2.1
  have hH:HoldsK (CeE.enc (k:=k) (El:=El) (w0:=w)) k w g 0 d:=by
   intro t ht
   rw [size_flatK,hds] at ht
   have htj:t / k < n:=by rw [Nat.div_lt_iff_lt_mul hk]; exact ht
   have hm:t % k < k:=Nat.mod_lt _ hk
   have hdm:t / k * k+t % k=t:=by rw [Nat.mul_comm,Nat.div_add_mod]
   constructor
   ·rw [get_flatK _ _ _ _ (by rw [hds]; exact ht),hdj _ htj,Nat.zero_add,World.ownsRow.cellAt h1 t (by omega)]
    have hl7:=hlen (mk ⟨t / k,htj⟩)
    rw [getElem!_pos _ _ (by rw [hl7]; exact hm)]
    have hq:((ws.drop (t / k * k)).take k)[t % k]? = ws[t]?:=by rw [List.getElem?_take,if_pos hm,List.getElem?_drop,hdm]
    rw [← hq]
    exact List.getElem?_eq_getElem _
   ·rw [Nat.zero_add]; exact World.ownsRow.frozenAt h1 t
  have hgl:=(Array.getElem?_eq_some_iff.1 hg).1
  let cf':CeE k El w→CeE k El w→Int:=fun x y=>cf x.1.2 y.1.2
  have hswo:SWO (ltOf cf'):=
   {irrefl:=fun _=>decide_eq_false fun h=>hO _ _ h h
    trans:=fun _ _ _ h1 h2=>decide_eq_true (hTr _ _ _ (of_decide_eq_true h1) (of_decide_eq_true h2))
    ntrans:=fun _ _ _ h1 h2=>decide_eq_false (hNt _ _ _ (of_decide_eq_false h1) (of_decide_eq_false h2)) }
  have hlay:CmpLays Tryz.prog fn #[] (CeE.enc (k:=k) (El:=El) (w0:=w)) k cf' g 0 d.size w:=by
   intro m os dk _ x y
   have hkp:KeepX E w (sortWorldK (CeE.enc (k:=k) (El:=El) (w0:=w)) k w g 0 m dk os):=keep_sort (enc:=id) m (flatK (CeE.enc (k:=k) (El:=El) (w0:=w)) k dk) os hg
   exact (hcmp _ hkp _ _ _ _ x.2.2.2 y.2.2.2 x.2.1 y.2.1).mono fun _ _ ⟨he,hb,hd⟩=>⟨he,grown_of hb hd⟩
  have hS:=AnyQ.slices_SortFunc L k aE zE (CeE.enc (k:=k) (El:=El) (w0:=w)) hlen hone cf' hswo fn #[] g 0 cap d w eg hlay hH hgl (by rw [hds]; omega)
  rw [hds] at hS
  refine hS.mono ?_
  rintro e w' ⟨rfl,d',m,os,hp,hs,rfl⟩
  obtain ⟨hp1,_,hp2⟩:=hp
  rw [hds] at hp1
  have e1:d'.extract 0 n=d':=by rw [← hp1]; simp
  have e2:d.extract 0 n=d:=by rw [← hds]; simp
  rw [e1,e2] at hp2
  have ex:d.toList.map (fun x:CeE k El w=>x.1.2)=xs:=by
   apply List.ext_getElem
   ·simp [hds,hl]
   ·intro j hj1 hj2
    simp only [List.getElem_map,Array.getElem_toList]
    have:=hdj j (by omega)
    rw [getElem!_pos d j (by omega)] at this
    rw [this]
  have hfs:(flatK (CeE.enc (k:=k) (El:=El) (w0:=w)) k d').size=n * k:=by rw [size_flatK,hp1]
  have hcs:n * k≤cur.size:=by rw [hc3]; exact Nat.mul_le_mul_right _ hc1
  have hW:sortWorldK (CeE.enc (k:=k) (El:=El) (w0:=w)) k w g 0 m d' os=sortWorld id w g 0 m (flatK (CeE.enc (k:=k) (El:=El) (w0:=w)) k d') os:=rfl
  have hkx:KeepX E w (sortWorld id w g 0 m (flatK (CeE.enc (k:=k) (El:=El) (w0:=w)) k d') os):=keep_sort (enc:=id) m _ os hg
  rw [hW]
  refine ⟨rfl,d'.toList.map (fun x:CeE k El w=>x.1.2),?_,?_,⟨(flatK (CeE.enc (k:=k) (El:=El) (w0:=w)) k d').toList,⟨by rw [Array.length_toList,hfs],.inr ⟨g,cap,putCells id 0 (flatK (CeE.enc (k:=k) (El:=El) (w0:=w)) k d') cur,rfl,hB,heap_sortWorld_same 0 m _ os hg,hc1,hc2,by simpa [putCells] using hc3,?_⟩⟩,by simp [hp1],?_,?_⟩,below_sortWorld m _ os hB hgl,hkx⟩
  ·rw [← ex]; exact hp2.map _
  ·rw [List.pairwise_map,List.pairwise_iff_getElem]
   intro i j hi hj hij
   simp only [Array.length_toList] at hi hj
   have:=hs i j (Nat.zero_le _) hij (by omega)
   rw [getElem!_pos d' i hi,getElem!_pos d' j hj] at this
   exact of_decide_eq_false this
  ·have:=putCells_take id (flatK (CeE.enc (k:=k) (El:=El) (w0:=w)) k d') cur (by omega)
   rw [hfs] at this
   rw [this,List.map_id]
  ·intro u hu
   obtain ⟨t,ht,rfl⟩:=List.getElem_of_mem hu
   rw [Array.length_toList,hfs] at ht
   have:=get_flatK (CeE.enc (k:=k) (El:=El) (w0:=w)) k d' t (by rw [hp1]; exact ht)
   rw [getElem!_pos _ _ (by omega)] at this
   rw [Array.getElem_toList,this]
   have hl7:=hlen d'[t / k]!
   rw [getElem!_pos _ _ (by rw [hl7]; exact Nat.mod_lt _ hk)]
   exact hone _ _ (List.getElem_mem _)
  ·intro j x hj
   rw [List.getElem?_map] at hj
   have hjl:j < d'.size:=by
    rcases Nat.lt_or_ge j d'.size with h | h
    ·exact h
    ·rw [List.getElem?_eq_none (by simpa using h)] at hj; cases hj
   rw [flat_K _ k hk hlen d' j hjl]
   rw [Array.getElem?_toList,Array.getElem?_eq_getElem hjl] at hj
   simp only [Option.map_some,Option.some.injEq] at hj
   rw [getElem!_pos d' j hjl,← hj]
   exact hSt _ _ _ _ d'[j].2.2.2 hkx
end Go.Proofs.YtmikofeildnpdaaGreat

/- task.Check. -/
namespace Go.Proofs.YtmikofeildnpdaaGreat
open Go.RowKit
def unordC' (cs:List Cs) (k:Nat):Bool:=decide (0 < k∧0≤cmpL (cs.getD (k - 1) csNil).1 (cs.getD k csNil).1)
theorem caseE_eq {n i o:Int} {cs:List Cs} {k:Nat}:caseE n i o cs k=if vecE (cs.getD k csNil).1 n i ≠ 0 then vecE (cs.getD k csNil).1 n i else if unordC' cs k=true then 14 else outsE n o (cs.getD k csNil):=by
 unfold caseE unordC'; simp only [decide_eq_true_eq]
theorem CsS.at {w:World} {a:Option Addr} {c:Nat} {l:List Cs} (h:CsS w (.slice a l.length c) l) (h0:0 < l.length):∃ b off,a=some ⟨b,off,none⟩∧CsC w b off l:=by
 obtain ⟨a',c',b,off,hv,ha,hc,_⟩:=h
 injection hv with e1 _ _
 exact ⟨b,off,e1.trans (ha h0),hc⟩
theorem box4' {W:World} {b:Nat} {v0 v1 v2 v3:Value} {T:TypeId} (h:W.heap[b]? = some (.cells #[v0,v1,v2,v3] T)):W.cell? ⟨b,0,none⟩=some v0∧W.cell? ⟨b,1,none⟩=some v1∧W.cell? ⟨b,2,none⟩=some v2∧W.cell? ⟨b,3,none⟩=some v3:=
 ⟨by rw [cell_of_row _ _ 0 _ _ _ h]; rfl,by rw [cell_of_row _ _ 1 _ _ _ h]; rfl,by rw [cell_of_row _ _ 2 _ _ _ h]; rfl,by rw [cell_of_row _ _ 3 _ _ _ h]; rfl⟩
theorem box3' {W:World} {b:Nat} {v0 v1 v2:Value} {T:TypeId} (h:W.heap[b]? = some (.cells #[v0,v1,v2] T)):W.cell? ⟨b,0,none⟩=some v0∧W.cell? ⟨b,1,none⟩=some v1∧W.cell? ⟨b,2,none⟩=some v2:=
 ⟨by rw [cell_of_row _ _ 0 _ _ _ h]; rfl,by rw [cell_of_row _ _ 1 _ _ _ h]; rfl,by rw [cell_of_row _ _ 2 _ _ _ h]; rfl⟩
theorem keep4 {W W1:World} {b:Nat} {v0 v1 v2 v3:Value} (hb:Below W.heap.size W W1) (h:W.cell? ⟨b,0,none⟩=some v0∧W.cell? ⟨b,1,none⟩=some v1∧W.cell? ⟨b,2,none⟩=some v2∧W.cell? ⟨b,3,none⟩=some v3):W1.cell? ⟨b,0,none⟩=some v0∧W1.cell? ⟨b,1,none⟩=some v1∧W1.cell? ⟨b,2,none⟩=some v2∧W1.cell? ⟨b,3,none⟩=some v3:=
 ⟨cell_kept hb h.1,cell_kept hb h.2.1,cell_kept hb h.2.2.1,cell_kept hb h.2.2.2⟩
theorem keep3 {W W1:World} {b:Nat} {v0 v1 v2:Value} (hb:Below W.heap.size W W1) (h:W.cell? ⟨b,0,none⟩=some v0∧W.cell? ⟨b,1,none⟩=some v1∧W.cell? ⟨b,2,none⟩=some v2):W1.cell? ⟨b,0,none⟩=some v0∧W1.cell? ⟨b,1,none⟩=some v1∧W1.cell? ⟨b,2,none⟩=some v2:=
 ⟨cell_kept hb h.1,cell_kept hb h.2.1,cell_kept hb h.2.2⟩
theorem checkT {w:World} {v:Value} {n i o:Int} {cs:List Cs} (h:TaskV w v n i o cs) :
  Calls Tryz.prog 113 #[v] w fun e w'=>e = .returned (.int .i64 (chkT n i o cs))∧Below w.heap.size w w':=by
 have hmx : Tryz.prog.follows .mixedOrders=true:=by kernel_rfl
 obtain ⟨sv,rfl,hS⟩:=h
 obtain ⟨sa,sc,hs⟩:=hS.shape
 subst hs
 obtain ⟨W1,hW1⟩:=exF (w.alloc (.cells #[.int .i64 n,.int .i64 i,.int .i64 o,.slice sa cs.length sc] 64))
 have hb1:Below w.heap.size w W1:=by rw [hW1]; exact (Below.refl _ w).alloc (Nat.le_refl _) _
 have kT:W1.heap[w.heap.size]? = some (.cells #[.int .i64 n,.int .i64 i,.int .i64 o,.slice sa cs.length sc] 64):=by rw [hW1]; exact heap_alloc_new _ _
 have HK:=Lib.hid (fun W (hb:Below W1.heap.size W1 W)=>keep4 hb (box4' kT))
 have HS:=Lib.hid (fun W (hb:Below W1.heap.size W1 W)=>(hS.keep hb1).keep hb)
 obtain ⟨E,hE⟩:=exE (chkT n i o cs)
 rw [hE]
 unfold chkT at hE
 have hNl:cs.length≤1954687338268:=by obtain ⟨_,_,_,_,_,_,_,h⟩:=hS; exact h
 clear kT hS
 obtain ⟨g0,g1,g2,g3⟩:=HK.out W1 (Below.refl _ _)
 rw [hW1] at g0 g1 g2 g3
 by_cases qn0:n < 1
 ·have dn0:decide ((n:Int) < 1)=true:=decide_eq_true qn0
  rw [if_pos (by omega)] at hE
  replace hE:=Lib.hid hE
  clear qn0
  go_enter Tryz.func113, Tryz.ntmps113
  go_wp2
  go_ret
  exact ⟨ret_int hE.out,by rw [← hW1]; exact hb1⟩
 have dn0:decide ((n:Int) < 1)=false:=decide_eq_false qn0
 by_cases qn1:5 < n
 ·have dn1:decide ((5:Int) < n)=true:=decide_eq_true qn1
  rw [if_pos (by omega)] at hE
  replace hE:=Lib.hid hE
  clear qn1
  clear qn0
  go_enter Tryz.func113, Tryz.ntmps113
  go_wp2
  go_ret
  exact ⟨ret_int hE.out,by rw [← hW1]; exact hb1⟩
 have dn1:decide ((5:Int) < n)=false:=decide_eq_false qn1
 by_cases qi0:i < 1
 ·have di0:decide ((i:Int) < 1)=true:=decide_eq_true qi0
  rw [if_pos (by omega)] at hE
  replace hE:=Lib.hid hE
  clear qi0
  clear qn0 qn1
  go_enter Tryz.func113, Tryz.ntmps113
  go_wp2
  go_ret
  exact ⟨ret_int hE.out,by rw [← hW1]; exact hb1⟩
 have di0:decide ((i:Int) < 1)=false:=decide_eq_false qi0
 by_cases qi1:8 < i
 ·have di1:decide ((8:Int) < i)=true:=decide_eq_true qi1
  rw [if_pos (by omega)] at hE
  replace hE:=Lib.hid hE
  clear qi1
  clear qn0 qn1 qi0
  go_enter Tryz.func113, Tryz.ntmps113
  go_wp2
  go_ret
  exact ⟨ret_int hE.out,by rw [← hW1]; exact hb1⟩
 have di1:decide ((8:Int) < i)=false:=decide_eq_false qi1
 by_cases qo0:o < 1
 ·have do0:decide ((o:Int) < 1)=true:=decide_eq_true qo0
  rw [if_pos (by omega)] at hE
  replace hE:=Lib.hid hE
  clear qo0
  clear qn0 qn1 qi0 qi1
  go_enter Tryz.func113, Tryz.ntmps113
  go_wp2
  go_ret
  exact ⟨ret_int hE.out,by rw [← hW1]; exact hb1⟩
 have do0:decide ((o:Int) < 1)=false:=decide_eq_false qo0
 by_cases qo1:8 < o
 ·have do1:decide ((8:Int) < o)=true:=decide_eq_true qo1
  rw [if_pos (by omega)] at hE
  replace hE:=Lib.hid hE
  clear qo1
  clear qn0 qn1 qi0 qi1 qo0
  go_enter Tryz.func113, Tryz.ntmps113
  go_wp2
  go_ret
  exact ⟨ret_int hE.out,by rw [← hW1]; exact hb1⟩
 have do1:decide ((8:Int) < o)=false:=decide_eq_false qo1
 rw [if_neg (by omega)] at hE
 clear qn0 qn1 qi0 qi1 qo0 qo1
 by_cases qe0:cs.length < 1
 ·have de0:decide ((cs.length:Int) < 1)=true:=decide_eq_true (by omega)
  rw [if_pos (by omega)] at hE
  replace hE:=Lib.hid hE
  go_enter Tryz.func113, Tryz.ntmps113
  go_wp2
  go_ret
  exact ⟨ret_int hE.out,by rw [← hW1]; exact hb1⟩
 have de0:decide ((cs.length:Int) < 1)=false:=decide_eq_false (by omega)
 by_cases qe1:1024 < cs.length
 ·have de1:decide ((1024:Int) < (cs.length:Int))=true:=decide_eq_true (by omega)
  rw [if_pos (by omega)] at hE
  replace hE:=Lib.hid hE
  go_enter Tryz.func113, Tryz.ntmps113
  go_wp2
  go_ret
  exact ⟨ret_int hE.out,by rw [← hW1]; exact hb1⟩
 have de1:decide ((1024:Int) < (cs.length:Int))=false:=decide_eq_false (by omega)
 rw [if_neg (by omega)] at hE
 have hl0:0 < cs.length:=by omega
 have hlb:cs.length≤1024:=by omega
 have s1:Hid (firstE (caseE n i o cs) (cs.length - 0) 0=E):=hE
 clear hE qe0 qe1
 go_enter Tryz.func113, Tryz.ntmps113
 go_wp2_with fail
 rw [← hW1]
 replace hW1:=Lib.hid hW1
 clear g0 g1 g2 g3 dn0 dn1 di0 di1 do0 do1 de0 de1
 go_loopw [46] (fun iv wr=>∃ k:Nat,iv = .int .i64 k∧k≤cs.length∧Hid (firstE (caseE n i o cs) (cs.length - k) k=E)∧Below W1.heap.size W1 wr) (fun iv _=>cs.length - (intOf iv).toNat)
 case atStart=>exact ⟨0,rfl,by omega,s1,Below.refl _ _⟩
 case round=>
  clear s1
  obtain ⟨k,rfl,hk,ht,hbr⟩:=hrel
  obtain ⟨g0,g1,g2,g3⟩:=HK.out wr hbr
  by_cases hlt:k < cs.length
  ·have ht1:=ht.out
   rw [show cs.length - k=(cs.length - (k+1))+1 by omega] at ht1
   obtain ⟨b,off,rfl,hc⟩:=(HS.out wr hbr).at hl0
   obtain ⟨u0,u1,u2,c0,c1,c2,i0,i1,i2⟩:=hc k hlt
   obtain ⟨x0,y0,hs⟩:=i0.shape
   subst hs
   obtain ⟨x1,y1,hs⟩:=i1.shape
   subst hs
   obtain ⟨x2,y2,hs⟩:=i2.shape
   subst hs
   obtain ⟨c,hcc⟩:=exE (cs.getD k csNil)
   have hfk:=caseE_eq (n:=n) (i:=i) (o:=o) (cs:=cs) (k:=k)
   rw [hcc] at hfk
   rw [hcc] at c0 c1 c2 i0 i1 i2
   obtain ⟨W2,hW2⟩:=exF (wr.alloc (.cells #[.slice x0 c.1.length y0,.slice x1 c.2.1.length y1,.slice x2 c.2.2.length y2] 128))
   have hb2:Below wr.heap.size wr W2:=by rw [hW2]; exact (Below.refl _ _).alloc (Nat.le_refl _) _
   have kC:W2.heap[wr.heap.size]? = some (.cells #[.slice x0 c.1.length y0,.slice x1 c.2.1.length y1,.slice x2 c.2.2.length y2] 128):=by rw [hW2]; exact heap_alloc_new _ _
   have HC:=Lib.hid (fun W (hb:Below W2.heap.size W2 W)=>keep3 hb (box3' kC))
   have D2:=btt hbr hb2
   have HV:=vectorC (n:=n) (most:=i) (i0.keep hb2)
   have HVs:=Lib.hid (fun W (hb:Below W2.heap.size W2 W)=>vectorsC (n:=n) (i:=i) (o:=o) (ta:=some ⟨b,off,none⟩) (tn:=cs.length) (tc:=sc) (c:=c) ((i0.keep hb2).keep hb) ((i1.keep hb2).keep hb) ((i2.keep hb2).keep hb))
   have HP:=Lib.hid (fun (h0:0 < k)=>by
    obtain ⟨p0,_,_,q0,_,_,j0,_⟩:=hc (k - 1) (by omega)
    exact (⟨p0,q0,j0⟩:∃ p0,wr.cell? ⟨b,off+(k - 1) * 3,none⟩=some p0∧Ints wr p0 (cs.getD (k - 1) csNil).1))
   have I0:=Lib.hid (fun W (hb:Below W2.heap.size W2 W)=>(i0.keep hb2).keep hb)
   obtain ⟨z,hz⟩:=exE (vecE c.1 n i)
   obtain ⟨B,hB⟩:=exE (unordC' cs k)
   obtain ⟨y,hy⟩:=exE (outsE n o c)
   rw [hz,hB,hy] at hfk
   rw [hz] at HV
   simp only [hy] at HVs
   replace HV:=Lib.hid HV
   obtain ⟨g0',g1',g2',g3'⟩:=HK.out W2 D2
   obtain ⟨r0,r1,r2⟩:=HC.out W2 (Below.refl _ _)
   rw [hW2] at g0' g1' g2' g3' r0 r1 r2
   clear kC i0 i1 i2 hz hy ht hc
   by_cases hz0:z=0
   ·subst hz0
    rw [if_neg (fun h=>h rfl)] at hfk
    go_wp2_with fail
    rw [← hW2]
    replace hW2:=Lib.hid hW2
    refine HV.out.mono ?_
    rintro e w3 ⟨rfl,hb3⟩
    have D3:=btt D2 hb3
    clear g0 g1 g2 g3 g0' g1' g2' g3' r0 r1 r2 c0 c1 c2
    have HKr:=Lib.hid (fun W (hb:Below w3.heap.size w3 W)=>And.intro (HK.out W (btt D3 hb)).2.2.2 (HC.out W (btt hb3 hb)).1)
    have hreg:k=0∨0 < k:=by omega
    have fin:B=true→Hid ((14:Int)=E):=fun hBt=>by
     have:=firstE_stop ht1 (by rw [hfk,if_pos hBt]; decide)
     rw [hfk,if_pos hBt] at this
     exact this
    have nxt:B=false→y=0→Hid (firstE (caseE n i o cs) (cs.length - (k+1)) (k+1)=E):=fun hBf hy0=>by
     refine firstE_step ht1 ?_
     rw [hfk,if_neg (by rw [hBf]; decide),hy0]
    have stp:B=false→y ≠ 0→Hid (y=E):=fun hBf hy0=>by
     have e1:caseE n i o cs k=y:=by rw [hfk,if_neg (by rw [hBf]; decide)]
     have:=firstE_stop ht1 (by rw [e1]; exact hy0)
     rw [e1] at this
     exact this
    replace fin:=Lib.hid fin
    replace nxt:=Lib.hid nxt
    replace stp:=Lib.hid stp
    clear ht1 hfk
    go_wp2_with fail
    rcases hreg with h0 | h0
    ·subst h0
     have hBf:B=false:=by rw [← hB]; exact decide_eq_false (fun h=>by omega)
     replace fin:=trivial
     replace nxt:=Lib.hid (nxt.out hBf)
     replace stp:=Lib.hid (stp.out hBf)
     clear hB hBf HP
     refine wp_region_bw hmx (by kernel_rfl) ?_
     repeat (refine WQ.step (fun K hK => ?_)
             go_simp
             first
               | (refine hK _ ?_; clear hK K)
               | (apply Exists.intro
                  refine ⟨fun wq hC => ?_, hK _ ?_⟩
                  · (first | with_reducible rfl | (go_simp; first | done | with_reducible rfl | with_reducible exact ⟨rfl,rfl⟩))
                  clear hK K))
     refine WQ.nil ?_
     intro w4 hb4
     obtain ⟨g0,g1,g2,g3⟩:=HK.out w4 (btt D3 hb4)
     obtain ⟨r0,r1,r2⟩:=HC.out w4 (btt hb3 hb4)
     go_wp2_with fail
     refine (HVs.out w4 (btt hb3 hb4)).mono ?_
     rintro e w5 ⟨rfl,hb5⟩
     have hbf:=btt (btt D3 hb4) hb5
     by_cases hy0:y=0
     ·have hn:=nxt.out hy0
      subst hy0
      clear stp nxt
      go_wp2_with fail
      go_roundw
      case rel=>exact ⟨_,by go_num,hlt,hn,hbf⟩
      case measure=>simp [intOf]; omega
     ·have hn:=stp.out hy0
      have hy1:(y != 0)=true:=by simpa using hy0
      have hbff:=btt hb1 hbf
      clear stp nxt
      go_wp2_with fail
      go_ret
      exact ⟨ret_int hn.out,hbff⟩
    ·obtain ⟨p0,q0,j0⟩:=HP.out h0
     obtain ⟨pa,pc,hs⟩:=j0.shape
     subst hs
     obtain ⟨P,hP⟩:=exE ((cs.getD (k - 1) csNil).1)
     have hBz:B=decide (0≤cmpL P c.1):=by rw [← hB,← hP,← hcc]; unfold unordC'; simp [h0]
     rw [hP] at q0 j0
     obtain ⟨t,ht⟩:=exE (cmpL P c.1)
     have HCm:=Lib.hid (fun W (hb:Below w3.heap.size w3 W)=>cmpIntsC (j0.keep (btt (btt hb2 hb3) hb)) (I0.out W (btt hb3 hb)))
     simp only [ht] at HCm
     rw [ht] at hBz
     obtain ⟨m1,hm1⟩:=exE (P.length)
     obtain ⟨m2,hm2⟩:=exE (c.1.length)
     obtain ⟨k1,hk1⟩:=exE (k - 1)
     rw [hm1,hk1] at q0
     simp only [hm1,hm2] at HCm
     have HKr2:=Lib.hid (fun W (hb:Below w3.heap.size w3 W)=>And.intro (HKr.out W hb) (cell_kept (btt (btt hb2 hb3) hb) q0))
     simp only [hm2] at HKr2
     have d1:decide ((0:Int) < (k:Int))=true:=decide_eq_true (by omega)
     have hwr:IntKind.i64.wrap ((k:Int) - 1)=(k1:Int):=by rw [show (k:Int) - 1=(k1:Int) by omega]; exact IntWalk.i64_in _ (by omega)
     have hi1:(k1:Int) < (cs.length:Int):=by omega
     have hi2:(k:Int) < (cs.length:Int):=by omega
     replace hB:=Lib.hid hB
     replace hP:=Lib.hid hP
     replace ht:=Lib.hid ht
     replace hm1:=Lib.hid hm1
     replace hm2:=Lib.hid hm2
     replace hk1:=Lib.hid hk1
     clear q0 j0
     refine wp_region_bw hmx (by kernel_rfl) ?_
     repeat (refine WQ.step (fun K hK => ?_)
             go_simp
             first
               | (refine hK _ ?_; clear hK K)
               | (apply Exists.intro
                  refine ⟨fun wq hC => ?_, hK _ ?_⟩
                  · (first | with_reducible rfl | (obtain ⟨⟨f0,f1⟩,f2⟩:=HKr2.out wq hC; go_simp; first | done | with_reducible rfl | with_reducible exact ⟨rfl,rfl⟩))
                  clear hK K))
     (refine WQ.step (fun K hK => ?_)
      go_simp
      first
        | (refine hK _ ?_; clear hK K)
        | (apply Exists.intro
           refine ⟨fun wq hC => ?_, hK _ ?_⟩
           · (refine (HCm.out wq hC).mono ?_; rintro e w' ⟨rfl,rfl⟩; exact ⟨rfl,hC⟩)
           clear hK K))
     repeat (refine WQ.step (fun K hK => ?_)
             go_simp
             first
               | (refine hK _ ?_; clear hK K)
               | (apply Exists.intro
                  refine ⟨fun wq hC => ?_, hK _ ?_⟩
                  · (first | with_reducible rfl | (go_simp; first | done | with_reducible rfl | with_reducible exact ⟨rfl,rfl⟩))
                  clear hK K))
     refine WQ.nil ?_
     intro w4 hb4
     rw [← hBz]
     clear hBz
     cases B
     ·replace fin:=trivial
      replace nxt:=Lib.hid (nxt.out rfl)
      replace stp:=Lib.hid (stp.out rfl)
      obtain ⟨g0,g1,g2,g3⟩:=HK.out w4 (btt D3 hb4)
      obtain ⟨r0,r1,r2⟩:=HC.out w4 (btt hb3 hb4)
      go_wp2_with fail
      refine (HVs.out w4 (btt hb3 hb4)).mono ?_
      rintro e w5 ⟨rfl,hb5⟩
      have hbf:=btt (btt D3 hb4) hb5
      by_cases hy0:y=0
      ·have hn:=nxt.out hy0
       subst hy0
       clear stp nxt
       go_wp2_with fail
       go_roundw
       case rel=>exact ⟨_,by go_num,hlt,hn,hbf⟩
       case measure=>simp [intOf]; omega
      ·have hn:=stp.out hy0
       have hy1:(y != 0)=true:=by simpa using hy0
       have hbff:=btt hb1 hbf
       clear stp nxt
       go_wp2_with fail
       go_ret
       exact ⟨ret_int hn.out,hbff⟩
     ·have hEf:=fin.out rfl
      have hbf:=btt hb1 (btt D3 hb4)
      go_wp2_with fail
      go_ret
      exact ⟨ret_int hEf.out,hbf⟩
   ·rw [if_pos hz0] at hfk
    have hn:=firstE_stop ht1 (by rw [hfk]; exact hz0)
    rw [hfk] at hn
    replace hn:=Lib.hid hn
    have hz1:(z != 0)=true:=by simpa using hz0
    clear ht1 hfk HP
    go_wp2_with fail
    rw [← hW2]
    replace hW2:=Lib.hid hW2
    refine HV.out.mono ?_
    rintro e w3 ⟨rfl,hb3⟩
    have hbf:=btt hb1 (btt D2 hb3)
    go_wp2_with fail
    go_ret
    exact ⟨ret_int hn.out,hbf⟩
  ·have hE0:Hid ((0:Int)=E):=by
    have:=ht.out
    rw [show cs.length - k=0 by omega] at this
    exact this
   have hb03:=btt hb1 hbr
   clear ht
   go_wp2_with fail
   go_ret
   exact ⟨ret_int hE0.out,hb03⟩
end Go.Proofs.YtmikofeildnpdaaGreat
