/- Texts of this claim, put together: RD RE RF RC. -/
import Derived.Test.YtmikofeildnpdaaGreatKYs
import Derived.Test.YtmikofeildnpdaaGreatKYf
import Derived.Test.YtmikofeildnpdaaGreatKYd
import Derived.Deep.Cut
import Derived.Test.YtmikofeildnpdaaGreatKYq
import Derived.Test.YtmikofeildnpdaaGreatKYr

set_option maxRecDepth 100000
set_option maxHeartbeats 12800000
/- round.Permute, and the moves of symmetry: walks. -/
namespace Go.Proofs.YtmikofeildnpdaaGreat
open Go.RowKit
def rVal (r:List Int):Value:=.agg ((r.map (Value.int .i64)).toArray)
theorem roundPerm {w:World} {u:Value} {n:Nat} {a hs:List Int} {f:Int} (h1:1≤n) (h5:n≤5) (hR:RdN n hs f) (ha:IsP n a) (hu:Ints w u a) :
  Calls Tryz.prog 46 #[rVal (mkR n hs f),u] w fun e w'=>e = .returned (.tuple #[rVal (renR a (mkR n hs f)),.int .i64 0])∧Below w.heap.size w w':=by
 have hz:=chkRd_mk h1 h5 hR
 have hml:(movedL a (hs.map fun x=>imgP a x n)).length=n:=by rw [movedL_length,ha.1]
 have HGP:=Lib.hid (fun W (hW:Below w.heap.size w W)=>graphPerm h1 h5 hR ha (hu.keep hW))
 have HSP:Hid (∀ W,Below w.heap.size w W→Calls Tryz.prog 96 #[u,.int .i64 f] W (R2 W (imgP a f n) 0)):=fun W hW=>by
  have:=setCall (hu.keep hW) f
  rwa [(setP_of h1 h5 ha hR.f0 hR.f1).1,(setP_of h1 h5 ha hR.f0 hR.f1).2] at this
 rw [renR_mk ha h5 hR.len]
 obtain ⟨L,hL⟩:∃ L,movedL a (hs.map fun x=>imgP a x n)=L:=⟨_,rfl⟩
 rw [hL] at HGP hml ⊢
 obtain ⟨pad,hpad⟩:=exE (hs++List.replicate (5 - n) 0)
 obtain ⟨pad',hpad'⟩:∃ pad,L++List.replicate (5 - n) 0=pad:=⟨_,rfl⟩
 have hpl:pad.length=5:=by rw [← hpad]; simp [hR.len]; omega
 have hpl':pad'.length=5:=by rw [← hpad']; simp [hml]; omega
 obtain ⟨g0,g1,g2,g3,g4,rfl⟩:=five hpl
 obtain ⟨k0,k1,k2,k3,k4,rfl⟩:=five hpl'
 have eR:mkR n hs f = [(n:Int),g0,g1,g2,g3,g4,f]:=by rw [mkR,← List.append_assoc,hpad]; rfl
 have eR':∀ x,mkR n L x = [(n:Int),k0,k1,k2,k3,k4,x]:=fun x=>by rw [mkR,← List.append_assoc,hpad']; rfl
 simp only [gVal,hpad,hpad'] at HGP
 rw [eR] at hz ⊢
 rw [eR']
 have HC:=roundCheck (n:Int) g0 g1 g2 g3 g4 f
 rw [hz] at HC
 replace HC:=Lib.hid HC
 obtain ⟨F,hF⟩:=exE (imgP a f n)
 rw [hF] at HSP ⊢
 simp only [rVal,List.map_cons,List.map_nil]
 clear hpad hpad' hpl hpl' eR eR' hz hL hml hF hR
 obtain ⟨aa,ac,ab,ao,rfl,-,-,-⟩:=hu
 obtain ⟨W1,hW1⟩:=exF ((w.alloc (.cells #[.int .i64 (n:Int),.int .i64 g0,.int .i64 g1,.int .i64 g2,.int .i64 g3,.int .i64 g4,.int .i64 f] 87)).alloc (.cells #[.int .i64 0,.int .i64 0,.int .i64 0,.int .i64 0,.int .i64 0,.int .i64 0,.int .i64 0] 87))
 have hb1:Below w.heap.size w W1:=by rw [hW1]; exact ((Below.refl _ _).alloc (Nat.le_refl _) _).alloc (by simp) _
 have m0:W1.heap[w.heap.size]? = some (.cells #[.int .i64 (n:Int),.int .i64 g0,.int .i64 g1,.int .i64 g2,.int .i64 g3,.int .i64 g4,.int .i64 f] 87):=by rw [hW1]; exact (Below.heap_alloc _ _ _ (by simp)).trans (heap_alloc_new _ _)
 have m1:W1.heap[w.heap.size+1]? = some (.cells #[.int .i64 0,.int .i64 0,.int .i64 0,.int .i64 0,.int .i64 0,.int .i64 0,.int .i64 0] 87):=by
  rw [hW1]
  have:=heap_alloc_new (w.alloc (.cells #[.int .i64 (n:Int),.int .i64 g0,.int .i64 g1,.int .i64 g2,.int .i64 g3,.int .i64 g4,.int .i64 f] 87)) (.cells #[.int .i64 0,.int .i64 0,.int .i64 0,.int .i64 0,.int .i64 0,.int .i64 0,.int .i64 0] 87)
  rwa [World.size_alloc] at this
 have HK:Hid (∀ W,Below W1.heap.size W1 W→W.cell? ⟨w.heap.size,0,none⟩=some (.int .i64 (n:Int))∧W.cell? ⟨w.heap.size,1,none⟩=some (.int .i64 g0)∧W.cell? ⟨w.heap.size,2,none⟩=some (.int .i64 g1)∧W.cell? ⟨w.heap.size,3,none⟩=some (.int .i64 g2)∧W.cell? ⟨w.heap.size,4,none⟩=some (.int .i64 g3)∧W.cell? ⟨w.heap.size,5,none⟩=some (.int .i64 g4)∧W.cell? ⟨w.heap.size,6,none⟩=some (.int .i64 f)):=fun W hW=>boxL7 ((hW.block _ (Array.getElem?_eq_some_iff.1 m0).1).trans m0)
 obtain ⟨p0,p1,p2,p3,p4,p5,p6⟩:=HK.out W1 (Below.refl _ _)
 clear m0
 go_enter Tryz.func46, Tryz.ntmps46
 go_wp2_with fail
 rw [← hW1]
 replace hW1:=Lib.hid hW1
 refine (HC.out _).mono ?_
 rintro e w2 ⟨rfl,hb2⟩
 clear p0 p1 p2 p3 p4 p5 p6
 obtain ⟨p0,p1,p2,p3,p4,p5,p6⟩:=HK.out w2 hb2
 have hw2:=bt hb1 hb2 hb1.size
 go_wp2_with fail
 refine (HGP.out w2 hw2).mono ?_
 rintro e w3 ⟨rfl,hb3⟩
 clear p0 p1 p2 p3 p4 p5 p6
 obtain ⟨W4,hW4⟩:=exF (w3.alloc (.cells #[.int .i64 (n:Int),.int .i64 k0,.int .i64 k1,.int .i64 k2,.int .i64 k3,.int .i64 k4] 85))
 have hb4:Below w3.heap.size w3 W4:=by rw [hW4]; exact (Below.refl _ _).alloc (Nat.le_refl _) _
 have m4:W4.heap[w3.heap.size]? = some (.cells #[.int .i64 (n:Int),.int .i64 k0,.int .i64 k1,.int .i64 k2,.int .i64 k3,.int .i64 k4] 85):=by rw [hW4]; exact heap_alloc_new _ _
 have hb14:Below W1.heap.size W1 W4:=btt hb2 (btt hb3 hb4)
 obtain ⟨p0,p1,p2,p3,p4,p5,p6⟩:=HK.out W4 hb14
 have hb4':Below w.heap.size w W4:=hw2.trans ((hb3.trans (hb4.mono hb3.size)).mono hw2.size)
 have m1':=(hb14.block _ (Array.getElem?_eq_some_iff.1 m1).1).trans m1
 obtain ⟨j0,j1,j2,j3,j4,j5⟩:=boxL6 m4
 rw [hW4] at p0 p1 p2 p3 p4 p5 p6
 simp only [List.map_cons,List.map_nil]
 go_wp2_with fail
 rw [← hW4]
 replace hW4:=Lib.hid hW4
 refine (HSP.out _ hb4').mono ?_
 rintro e w5 ⟨rfl,hb5⟩
 replace j0:=cell_kept hb5 j0
 replace j1:=cell_kept hb5 j1
 replace j2:=cell_kept hb5 j2
 replace j3:=cell_kept hb5 j3
 replace j4:=cell_kept hb5 j4
 replace j5:=cell_kept hb5 j5
 have m5:=(hb5.block _ (Array.getElem?_eq_some_iff.1 m1').1).trans m1'
 obtain ⟨z0,z1,z2,z3,z4,z5,z6⟩:=boxL7 m5
 obtain ⟨f0,f1,f2,f3,f4,f5,f6⟩:=freeL7 m5
 clear p0 p1 p2 p3 p4 p5 p6 m1' m1 m4 HGP HSP HC HK
 go_wp2
 refine storeEnd7 (u0:=.int .i64 (n:Int)) (u1:=.int .i64 k0) (u2:=.int .i64 k1) (u3:=.int .i64 k2) (u4:=.int .i64 k3) (u5:=.int .i64 k4) (u6:=.int .i64 F) m5 ?_
 intro W9 hW9 hb9 _ _ e0 e1 e2 e3 e4 e5 e6
 rw [← hW9]
 refine bodyPost_ret (v:=.tuple #[.agg #[.int .i64 (n:Int),.int .i64 k0,.int .i64 k1,.int .i64 k2,.int .i64 k3,.int .i64 k4,.int .i64 F],.int .i64 0]) (by simp [results,Tryz.results46,go_sem,e0,e1,e2,e3,e4,e5,e6]) rfl ?_
 exact ⟨rfl,hb9 _ _ (by omega) (bt hb4' hb5 hb4'.size)⟩
end Go.Proofs.YtmikofeildnpdaaGreat

/- roundtableref03.Renamed, roundtableref15.Renamed: walks. -/
namespace Go.Proofs.YtmikofeildnpdaaGreat
open Go.RowKit
def tgR (a hs:List Int) (n:Nat):Nat→List Int
 | 0=>[0,0,0,0,0]
 | k+1=>(tgR a hs n k).set (a.getD k 0).toNat (imgR a (hs.getD k 0) n)
theorem tgR_len (a hs:List Int) (n:Nat):∀ k,(tgR a hs n k).length=5
 | 0=>rfl
 | k+1=>by rw [tgR,List.length_set,tgR_len a hs n k]
theorem IsP.inj {n:Nat} {a:List Int} (ha:IsP n a) {i j:Nat} (hi:i < n) (hj:j < n) (e:(a.getD i 0).toNat=(a.getD j 0).toNat):i=j:=by
 have h1:=ha.good i (by rw [ha.1]; exact hi)
 have h2:=ha.good j (by rw [ha.1]; exact hj)
 exact nodup_getD ha.2.2 (by rw [ha.1]; exact hi) (by rw [ha.1]; exact hj) (by omega)
theorem tgR_z {n:Nat} {a hs:List Int} (ha:IsP n a):∀ k p,k≤p→p < n→(tgR a hs n k).getD (a.getD p 0).toNat 0=0
 | 0,p,_,hp=>by
  have h1:=ha.good p (by rw [ha.1]; exact hp)
  rw [tgR,List.getD_eq_getElem?_getD]
  obtain ⟨j,hj⟩:=exE ((a.getD p 0).toNat)
  rw [hj]
  match j with
  | 0=>rfl
  | 1=>rfl
  | 2=>rfl
  | 3=>rfl
  | 4=>rfl
  | j+5=>rfl
 | k+1,p,hk,hp=>by
  rw [tgR,List.getD_eq_getElem?_getD,List.getElem?_set_ne (fun e=>by have:=ha.inj (i:=k) (j:=p) (by omega) hp e; omega),← List.getD_eq_getElem?_getD]
  exact tgR_z ha k p (by omega) hp
theorem tgR_at {n:Nat} {a hs:List Int} (h5:n≤5) (ha:IsP n a):∀ k p,p < k→k≤n→(tgR a hs n k).getD (a.getD p 0).toNat 0=imgR a (hs.getD p 0) n
 | k+1,p,hp,hk=>by
  have h1:=ha.good p (by rw [ha.1]; omega)
  rw [tgR]
  by_cases e:p=k
  ·subst e
   rw [List.getD_eq_getElem?_getD,List.getElem?_set_self (by rw [tgR_len]; omega)]; rfl
  ·rw [List.getD_eq_getElem?_getD,List.getElem?_set_ne (fun h=>by have:=ha.inj (i:=k) (j:=p) (by omega) (by omega) h; omega),← List.getD_eq_getElem?_getD]
   exact tgR_at h5 ha k p (by omega) (by omega)
theorem tgR_hi {n:Nat} {a hs:List Int} (ha:IsP n a):∀ k j,n≤j→k≤n→(tgR a hs n k).getD j 0=0
 | 0,j,_,_=>by
  rw [tgR]
  match j with
  | 0=>rfl
  | 1=>rfl
  | 2=>rfl
  | 3=>rfl
  | 4=>rfl
  | j+5=>rfl
 | k+1,j,hj,hk=>by
  have h1:=ha.good k (by rw [ha.1]; omega)
  rw [tgR,List.getD_eq_getElem?_getD,List.getElem?_set_ne (by omega),← List.getD_eq_getElem?_getD]
  exact tgR_hi ha k j hj (by omega)
theorem imgR_eq {n:Nat} {a:List Int} (h1:1≤n) (h5:n≤5) (ha:IsP n a) {s:Int} (s0:0≤s) (hs:s < 2 ^ n):imgR a s n=imgP a s n:=by
 have:=List.all_eq_true.1 (perm_all img_same (chk_of h1 h5 ha)) s.toNat (List.mem_range.2 (by
  have:(2:Int) ^ n≤32:=by
   have:n=1∨n=2∨n=3∨n=4∨n=5:=by omega
   rcases this with rfl | rfl | rfl | rfl | rfl <;> decide
  omega))
 have:=of_decide_eq_true this
 rw [ha.1,Int.toNat_of_nonneg s0] at this
 exact this
theorem tgR_end {n:Nat} {a hs:List Int} {f:Int} (h1:1≤n) (h5:n≤5) (hR:RdN n hs f) (ha:IsP n a):tgR a hs n n=movedL a (hs.map fun x=>imgP a x n)++List.replicate (5 - n) 0:=by
 have hml:(movedL a (hs.map fun x=>imgP a x n)).length=n:=by rw [movedL_length,ha.1]
 refine List.ext_getElem (by rw [tgR_len]; simp [hml]; omega) fun j j1 j2=>?_
 rw [← getD_eq j1 0,← getD_eq j2 0]
 by_cases hj:j < n
 ·obtain ⟨p,hp,hpj⟩:=perm_onto h1 h5 ha hj
  have e1:=tgR_at (hs:=hs) h5 ha n p hp (Nat.le_refl _)
  have e2:=moved_at (v:=hs.map fun x=>imgP a x n) ha hp
  rw [hpj,Int.toNat_natCast] at e1 e2
  rw [getD_app2 (by rw [hml]; exact hj),e1,e2,getD_eq (xs:=hs) (by rw [hR.len]; exact hp),getD_eq (by rw [List.length_map,hR.len]; exact hp),List.getElem_map]
  exact imgR_eq h1 h5 ha (hR.rng _ (List.getElem_mem _)).1 (hR.rng _ (List.getElem_mem _)).2
 ·rw [tgR_hi ha n j (by omega) (Nat.le_refl _),List.getD_eq_getElem?_getD,List.getElem?_append_right (by omega),hml,List.getElem?_replicate]
  rw [tgR_len] at j1
  rw [if_pos (by omega)]; rfl
theorem tgR_row0 {n:Nat} {a hs:List Int} (ha:IsP n a) {k:Nat} (hk:k < n):(tgR a hs n k).set (a.getD k 0).toNat (imgR a (hs.getD k 0) 0)=tgR a hs n k:=by
 have hz:=tgR_z (hs:=hs) ha k k (Nat.le_refl _) hk
 refine List.ext_getElem (by rw [List.length_set]) fun j j1 j2=>?_
 rw [List.getElem_set]
 split
 next e=>subst e; rw [getD_eq j2] at hz; rw [hz]; rfl
 next e=>rfl
theorem hasI_and {s:Int} {k:Nat} (h0:0≤s) (h1:s≤31) (hk:k≤4):(bits BinOp.and IntKind.i64 (s / 2 ^ k) 1 == 1)=hasI s (k:Int):=by
 have:=and1 (x:=s) (p:=(k:Int)) h0 h1 (by omega) (by omega)
 rw [twoI_pow (by omega)] at this
 rw [this]
 cases hasI s (k:Int) <;> rfl
theorem cell_kept' {w w':World} (h:Below w.heap.size w w') {p:Addr} {v:Value} (hc:w.cell? p=some v):w'.cell? p=some v:=cell_kept h hc
theorem refGraphRen {w:World} {u:Value} {n:Nat} {a hs:List Int} {f:Int} (h1:1≤n) (h5:n≤5) (hR:RdN n hs f) (ha:IsP n a) (hu:Ints w u a) :
  Calls Tryz.prog 136 #[gVal n hs,u] w fun e w'=>e = .returned (gVal n (movedL a (hs.map fun x=>imgP a x n)))∧Below w.heap.size w w':=by
 have hend:=Lib.hid (tgR_end h1 h5 hR ha)
 obtain ⟨pad,hpad⟩:=exE (hs++List.replicate (5 - n) 0)
 have hpl:pad.length=5:=by rw [← hpad]; simp [hR.len]; omega
 have hpg:∀ p,p < n→pad.getD p 0=hs.getD p 0:=fun p hp=>by rw [← hpad,getD_app2 (by rw [hR.len]; exact hp)]
 have hrg:Hid (∀ p,p < n→0≤hs.getD p 0∧hs.getD p 0≤31):=fun p hp=>by
  have:=hR.rng _ (getD_mem (l:=hs) (d:=0) (k:=p) (by rw [hR.len]; exact hp))
  have h32:(2:Int) ^ n≤32:=by
   have:n=1∨n=2∨n=3∨n=4∨n=5:=by omega
   rcases this with rfl | rfl | rfl | rfl | rfl <;> decide
  omega
 have hst:=Lib.hid (fun k (hk:k < n)=>tgR_row0 (hs:=hs) ha hk)
 have hgd:Hid (∀ k,k < n→∃ p:Nat,a.getD k 0=(p:Int)∧p < 5):=fun k hk=>by
  have:=ha.good k (by rw [ha.1]; exact hk)
  exact ⟨(a.getD k 0).toNat,by omega,by omega⟩
 have hgi:Hid (∀ k,k < n→0≤a.getD k 0∧a.getD k 0 < 5):=fun k hk=>by
  have:=ha.good k (by rw [ha.1]; exact hk)
  omega
 obtain ⟨g0,g1,g2,g3,g4,rfl⟩:=five hpl
 have hv:gVal n hs = .agg #[.int .i64 (n:Int),.int .i64 g0,.int .i64 g1,.int .i64 g2,.int .i64 g3,.int .i64 g4]:=by rw [gVal,hpad]; rfl
 rw [hv]
 have hmx : Tryz.prog.follows .mixedOrders=true:=by kernel_rfl
 have han:=ha.1
 obtain ⟨aa,ac,ab,ao,rfl,haa,hac,-⟩:=hu
 obtain rfl:=haa (by omega)
 rw [han]
 replace hac:Hid (∀ k,k < n→w.cell? ⟨ab,ao+k,none⟩=some (.int .i64 (a.getD k 0))):=fun k hk=>hac k (by rw [han]; exact hk)
 replace hpg:=Lib.hid hpg
 clear hpad hpl hv hR ha han haa
 obtain ⟨W1,hW1⟩:=exF (((w.alloc (.cells #[.int .i64 (n:Int),.int .i64 g0,.int .i64 g1,.int .i64 g2,.int .i64 g3,.int .i64 g4] 85)).alloc (.cells #[.int .i64 0,.int .i64 0,.int .i64 0,.int .i64 0,.int .i64 0,.int .i64 0] 85)).alloc (.cells #[.int .i64 (n:Int),.int .i64 0,.int .i64 0,.int .i64 0,.int .i64 0,.int .i64 0] 85))
 have hb1:Below w.heap.size w W1:=by rw [hW1]; exact (((Below.refl _ _).alloc (Nat.le_refl _) _).alloc (by simp) _).alloc (by simp; omega) _
 have m0:W1.heap[w.heap.size]? = some (gBox n [g0,g1,g2,g3,g4]):=by rw [hW1]; exact (Below.heap_alloc _ _ _ (by simp; omega)).trans ((Below.heap_alloc _ _ _ (by simp)).trans (heap_alloc_new _ _))
 have m1:W1.heap[w.heap.size+1]? = some (.cells #[.int .i64 0,.int .i64 0,.int .i64 0,.int .i64 0,.int .i64 0,.int .i64 0] 85):=by
  rw [hW1]
  have:=heap_alloc_new (w.alloc (.cells #[.int .i64 (n:Int),.int .i64 g0,.int .i64 g1,.int .i64 g2,.int .i64 g3,.int .i64 g4] 85)) (.cells #[.int .i64 0,.int .i64 0,.int .i64 0,.int .i64 0,.int .i64 0,.int .i64 0] 85)
  rw [World.size_alloc] at this
  exact (Below.heap_alloc _ _ _ (by simp)).trans this
 have m2:W1.heap[w.heap.size+2]? = some (gBox n (tgR a hs n 0)):=by
  rw [hW1]
  have:=heap_alloc_new ((w.alloc (.cells #[.int .i64 (n:Int),.int .i64 g0,.int .i64 g1,.int .i64 g2,.int .i64 g3,.int .i64 g4] 85)).alloc (.cells #[.int .i64 0,.int .i64 0,.int .i64 0,.int .i64 0,.int .i64 0,.int .i64 0] 85)) (.cells #[.int .i64 (n:Int),.int .i64 0,.int .i64 0,.int .i64 0,.int .i64 0,.int .i64 0] 85)
  rw [World.size_alloc,World.size_alloc] at this
  exact this
 go_enter Tryz.func136, Tryz.ntmps136
 go_wp2_with fail
 rw [← hW1]
 replace hW1:=Lib.hid hW1
 go_loopw [6] (fun i wr=>∃ k:Nat,k≤n∧i = .int .i64 (k:Int)∧wr.heap[w.heap.size+2]? = some (gBox n (tgR a hs n k))∧wr.heap[w.heap.size+1]? = some (.cells #[.int .i64 0,.int .i64 0,.int .i64 0,.int .i64 0,.int .i64 0,.int .i64 0] 85)∧wr.heap[w.heap.size]? = some (gBox n [g0,g1,g2,g3,g4])∧Hid (Below w.heap.size w wr)) (fun i _=>n - (intOf i).toNat)
 case atStart=>exact ⟨0,Nat.zero_le _,rfl,m2,m1,m0,hb1⟩
 case round=>
  clear hb1 m2 m1 m0 hW1
  obtain ⟨k,hk,rfl,c2,c1,c0,hb⟩:=hrel
  obtain ⟨p0,p1,p2,p3,p4,p5⟩:=boxL6 (show wr.heap[w.heap.size]? = some (.cells #[.int .i64 (n:Int),.int .i64 g0,.int .i64 g1,.int .i64 g2,.int .i64 g3,.int .i64 g4] 85) from c0)
  clear p1 p2 p3 p4 p5
  by_cases hlt:k < n
  ·have hltI:(k:Int) < (n:Int):=by omega
   rw [← hst.out k hlt] at c2
   obtain ⟨wo,hwo⟩:=exF (wr)
   subst hwo
   go_wp2_with fail
   go_loopw [7] (fun i wr=>∃ q:Nat,q≤n∧i = .int .i64 (q:Int)∧wr.heap[w.heap.size+2]? = some (gBox n ((tgR a hs n k).set (a.getD k 0).toNat (imgR a (hs.getD k 0) q)))∧wr.heap[w.heap.size+1]? = some (.cells #[.int .i64 0,.int .i64 0,.int .i64 0,.int .i64 0,.int .i64 0,.int .i64 0] 85)∧wr.heap[w.heap.size]? = some (gBox n [g0,g1,g2,g3,g4])∧Hid (Below w.heap.size w wr)) (fun i _=>n - (intOf i).toNat)
   case atStart=>exact ⟨0,Nat.zero_le _,rfl,c2,c1,c0,hb⟩
   case round=>
    clear c2 c1 c0 hb p0
    obtain ⟨q,hq,rfl,c2,c1,c0,hb⟩:=hrel
    obtain ⟨p0,p1,p2,p3,p4,p5⟩:=boxL6 (show wr.heap[w.heap.size]? = some (.cells #[.int .i64 (n:Int),.int .i64 g0,.int .i64 g1,.int .i64 g2,.int .i64 g3,.int .i64 g4] 85) from c0)
    clear p1 p2 p3 p4 p5
    by_cases hltq:q < n
    ·have hltQ:(q:Int) < (n:Int):=by omega
     have cg:=gBox_cell (k:=k) c0 (by simp; omega)
     rw [hpg.out k hlt] at cg
     have hh:=hrg.out k hlt
     obtain ⟨h,hhd⟩:=exE (hs.getD k 0)
     rw [hhd] at cg hh
     have HH:=Lib.hid (refHas h (q:Int) wr hh.1 (by omega) (by omega) (by omega))
     have hkb:(k:Int) < 5:=by omega
     obtain ⟨p,hpe,hp5⟩:=hgd.out k hlt
     obtain ⟨e,hee⟩:=exE (a.getD q 0)
     have heb:=hgi.out q hltq
     have cak:=cell_kept' hb.out (hac.out k hlt)
     have caq:=cell_kept' hb.out (hac.out q hltq)
     rw [hee] at heb caq
     rw [hpe] at cak c2
     rw [Int.toNat_natCast,hhd] at c2
     have hs1:=imgR_succ a h q
     rw [hee,imgRs,hasI_and hh.1 hh.2 (by omega)] at hs1
     have cp:=gBox_cell (k:=p) c2 (by rw [List.length_set,tgR_len]; exact hp5)
     rw [List.getD_eq_getElem?_getD,List.getElem?_set_self (by rw [tgR_len]; exact hp5),Option.getD_some] at cp
     obtain ⟨o,ho⟩:=exE (imgR a h q)
     rw [ho] at cp hs1
     have hpb:(p:Int) < 5:=by omega
     by_cases hhas:hasI h (q:Int)=true
     ·rw [hhas] at HH
      rw [if_pos hhas] at hs1
      replace hs1:=Lib.hid hs1
      have fz:=gBox_free (j:=1+p) c2
      replace c2:=Lib.hid c2
      clear hhas hee
      replace hpe:=Lib.hid hpe
      replace hhd:=Lib.hid hhd
      replace ho:=Lib.hid ho
      go_wp2_with fail
      refine HH.out.mono ?_
      rintro e1 w1 ⟨rfl,rfl⟩
      go_wp2_with fail
      refine wp_region_qtail 15 hmx (by kernel_rfl) (by kernel_rfl) ?_ ?_
      ·rintro ⟨a,wx,h⟩
       first | exact h | (obtain ⟨h,_⟩:=h; cases h; done) | (obtain ⟨_,h,_⟩:=h; cases h; done) | (obtain ⟨_,_,h,_⟩:=h; cases h; done)
      ·intro ops'
       simp only [List.take_succ_cons,List.take_zero,List.drop_succ_cons,List.drop_zero]
       repeat (quiet_step (fail))
       refine wpQuiet_nil ?_
       intro d
       go_wp2
       go_roundw
       case rel=>
        refine ⟨q+1,by omega,by go_num,by rw [hpe.out,Int.toNat_natCast,hhd.out,hs1.out,← List.set_set (a:=imgR a h q)]; exact gBox_set (W:=wr.drewN d) (ho.out ▸ c2.out),(Below.heap_setCell _ _ _ _ (by simp)).trans c1,(Below.heap_setCell _ _ _ _ (by simp; omega)).trans c0,(below_drewN hb.out d).setCell (p:=⟨w.heap.size+2,1+p,none⟩) (by simp) _⟩
       case measure=>simp [intOf]; omega
     ·replace hhas:hasI h (q:Int)=false:=by simpa using hhas
      rw [hhas] at HH
      rw [if_neg (by rw [hhas]; decide)] at hs1
      replace hs1:=Lib.hid hs1
      replace hpe:=Lib.hid hpe
      replace hhd:=Lib.hid hhd
      replace ho:=Lib.hid ho
      replace c2:=Lib.hid c2
      clear hhas hee cak caq cp
      go_wp2_with fail
      refine HH.out.mono ?_
      rintro e1 w1 ⟨rfl,rfl⟩
      go_wp2_with fail
      go_roundw
      case rel=>exact ⟨q+1,by omega,by go_num,by rw [hpe.out,Int.toNat_natCast,hhd.out,hs1.out,← ho.out]; exact c2.out,c1,c0,hb⟩
      case measure=>simp [intOf]; omega
    ·obtain rfl:q=n:=by omega
     clear hst hrg
     go_wp2
     go_roundw
     case rel=>exact ⟨k+1,by omega,by go_num,c2,c1,c0,hb⟩
     case measure=>simp [intOf]; omega
  ·obtain rfl:k=n:=by omega
   obtain ⟨l,hl⟩:∃ l,movedL a (hs.map fun x=>imgP a x k)=l:=⟨_,rfl⟩
   obtain ⟨g,hg⟩:=exE (l++List.replicate (5 - k) 0)
   have hend2:=hend.out
   rw [hl,hg] at hend2
   have hgl:g.length=5:=by rw [← hend2,tgR_len]
   obtain ⟨k0,k1,k2,k3,k4,rfl⟩:=five hgl
   rw [hend2] at c2
   obtain ⟨q0,q1,q2,q3,q4,q5⟩:=boxL6 (show wr.heap[w.heap.size+2]? = some (.cells #[.int .i64 (k:Int),.int .i64 k0,.int .i64 k1,.int .i64 k2,.int .i64 k3,.int .i64 k4] 85) from c2)
   obtain ⟨z0,z1,z2,z3,z4,z5⟩:=boxL6 c1
   obtain ⟨f0,f1,f2,f3,f4,f5⟩:=freeL6 c1
   replace hg:=Lib.hid hg
   replace hl:=Lib.hid hl
   clear hend hend2 c2 c0 hst hrg hgd hgi hgl hpg
   go_wp2
   refine storeEnd6 (u0:=.int .i64 (k:Int)) (u1:=.int .i64 k0) (u2:=.int .i64 k1) (u3:=.int .i64 k2) (u4:=.int .i64 k3) (u5:=.int .i64 k4) c1 ?_
   intro W9 hW9 hb9 _ _ e0 e1 e2 e3 e4 e5
   rw [← hW9]
   refine bodyPost_ret (v:=.agg #[.int .i64 (k:Int),.int .i64 k0,.int .i64 k1,.int .i64 k2,.int .i64 k3,.int .i64 k4]) (by simp [results,Tryz.results136,go_sem,e0,e1,e2,e3,e4,e5]) rfl ?_
   exact ⟨by rw [gVal,hl.out,hg.out]; rfl,hb9 _ _ (by omega) hb.out⟩
end Go.Proofs.YtmikofeildnpdaaGreat

/- roundtableref15.Renamed; symmetry's move: walks. -/
namespace Go.Proofs.YtmikofeildnpdaaGreat
open Go.RowKit
theorem refRoundRen {w:World} {u:Value} {n:Nat} {a hs:List Int} {f:Int} (h1:1≤n) (h5:n≤5) (hR:RdN n hs f) (ha:IsP n a) (hu:Ints w u a) :
  Calls Tryz.prog 102 #[rVal (mkR n hs f),u] w fun e w'=>e = .returned (rVal (renR a (mkR n hs f)))∧Below w.heap.size w w':=by
 have hml:(movedL a (hs.map fun x=>imgP a x n)).length=n:=by rw [movedL_length,ha.1]
 have hmx : Tryz.prog.follows .mixedOrders=true:=by kernel_rfl
 have HGP:=Lib.hid (fun W (hW:Below w.heap.size w W)=>refGraphRen h1 h5 hR ha (hu.keep hW))
 have HSP:Hid (∀ W,Below w.heap.size w W→Calls Tryz.prog 137 #[u,.int .i64 f] W fun e w'=>e = .returned (.int .i64 (imgP a f n))∧Qt W w'):=fun W hW=>by
  have:=refImage (hu.keep hW) (by rw [ha.1]; exact ha.good) (by rw [ha.1]; exact h5) f hR.f0
  rwa [ha.1,imgR_eq h1 h5 ha hR.f0 hR.f1] at this
 rw [renR_mk ha h5 hR.len]
 obtain ⟨L,hL⟩:∃ L,movedL a (hs.map fun x=>imgP a x n)=L:=⟨_,rfl⟩
 rw [hL] at HGP hml ⊢
 obtain ⟨pad,hpad⟩:=exE (hs++List.replicate (5 - n) 0)
 obtain ⟨pad',hpad'⟩:∃ pad,L++List.replicate (5 - n) 0=pad:=⟨_,rfl⟩
 have hpl:pad.length=5:=by rw [← hpad]; simp [hR.len]; omega
 have hpl':pad'.length=5:=by rw [← hpad']; simp [hml]; omega
 obtain ⟨g0,g1,g2,g3,g4,rfl⟩:=five hpl
 obtain ⟨k0,k1,k2,k3,k4,rfl⟩:=five hpl'
 have eR:mkR n hs f = [(n:Int),g0,g1,g2,g3,g4,f]:=by rw [mkR,← List.append_assoc,hpad]; rfl
 have eR':∀ x,mkR n L x = [(n:Int),k0,k1,k2,k3,k4,x]:=fun x=>by rw [mkR,← List.append_assoc,hpad']; rfl
 simp only [gVal,hpad,hpad',List.map_cons,List.map_nil] at HGP
 rw [eR,eR']
 obtain ⟨F,hF⟩:=exE (imgP a f n)
 rw [hF] at HSP ⊢
 simp only [rVal,List.map_cons,List.map_nil]
 clear hpad hpad' hpl hpl' eR eR' hL hml hF hR
 obtain ⟨aa,ac,ab,ao,rfl,-,-,-⟩:=hu
 obtain ⟨W1,hW1⟩:=exF ((w.alloc (.cells #[.int .i64 (n:Int),.int .i64 g0,.int .i64 g1,.int .i64 g2,.int .i64 g3,.int .i64 g4,.int .i64 f] 87)).alloc (.cells #[.int .i64 0,.int .i64 0,.int .i64 0,.int .i64 0,.int .i64 0,.int .i64 0,.int .i64 0] 87))
 have hb1:Below w.heap.size w W1:=by rw [hW1]; exact ((Below.refl _ _).alloc (Nat.le_refl _) _).alloc (by simp) _
 have m0:W1.heap[w.heap.size]? = some (.cells #[.int .i64 (n:Int),.int .i64 g0,.int .i64 g1,.int .i64 g2,.int .i64 g3,.int .i64 g4,.int .i64 f] 87):=by rw [hW1]; exact (Below.heap_alloc _ _ _ (by simp)).trans (heap_alloc_new _ _)
 have m1:W1.heap[w.heap.size+1]? = some (.cells #[.int .i64 0,.int .i64 0,.int .i64 0,.int .i64 0,.int .i64 0,.int .i64 0,.int .i64 0] 87):=by
  rw [hW1]
  have:=heap_alloc_new (w.alloc (.cells #[.int .i64 (n:Int),.int .i64 g0,.int .i64 g1,.int .i64 g2,.int .i64 g3,.int .i64 g4,.int .i64 f] 87)) (.cells #[.int .i64 0,.int .i64 0,.int .i64 0,.int .i64 0,.int .i64 0,.int .i64 0,.int .i64 0] 87)
  rwa [World.size_alloc] at this
 have HK:Hid (∀ W,Below W1.heap.size W1 W→W.cell? ⟨w.heap.size,0,none⟩=some (.int .i64 (n:Int))∧W.cell? ⟨w.heap.size,1,none⟩=some (.int .i64 g0)∧W.cell? ⟨w.heap.size,2,none⟩=some (.int .i64 g1)∧W.cell? ⟨w.heap.size,3,none⟩=some (.int .i64 g2)∧W.cell? ⟨w.heap.size,4,none⟩=some (.int .i64 g3)∧W.cell? ⟨w.heap.size,5,none⟩=some (.int .i64 g4)∧W.cell? ⟨w.heap.size,6,none⟩=some (.int .i64 f)):=fun W hW=>boxL7 ((hW.block _ (Array.getElem?_eq_some_iff.1 m0).1).trans m0)
 have hb1':=Lib.hid hb1
 clear m0
 go_enter Tryz.func102, Tryz.ntmps102
 go_wp2_with fail
 rw [← hW1]
 replace hW1:=Lib.hid hW1
 refine wp_region_btail 9 hmx (by kernel_rfl) (by kernel_rfl) ?_ ?_
 ·rintro ⟨a,wx,h⟩
  first | exact h | (obtain ⟨h,_⟩:=h; cases h; done) | (obtain ⟨_,h,_⟩:=h; cases h; done)
 ·intro ops'
  simp only [List.take_succ_cons,List.take_zero,List.drop_succ_cons,List.drop_zero]
  repeat (refine wpQuiet_step (fun K hK => ?_)
          go_simp
          first
            | (refine hK _ ?_; clear hK K)
            | (apply Exists.intro
               refine ⟨fun wq hC => ?_, hK _ ?_⟩
               · (first | with_reducible rfl | (obtain ⟨x0,x1,x2,x3,x4,x5,x6⟩:=HK.out wq hC; go_simp; first | done | with_reducible rfl | with_reducible exact ⟨rfl,rfl⟩) | (refine (HGP.out wq (bt hb1'.out hC hb1'.out.size)).mono ?_; rintro e w' ⟨rfl,hb⟩; exact ⟨rfl,btt hC hb⟩) | (refine (HSP.out wq (bt hb1'.out hC hb1'.out.size)).mono ?_; rintro e w' ⟨rfl,hb⟩; exact ⟨rfl,btt hC hb.below⟩))
               clear hK K))
  refine wpQuiet_nil ?_
  intro w5 hb5
  have m5:=(hb5.block _ (Array.getElem?_eq_some_iff.1 m1).1).trans m1
  obtain ⟨z0,z1,z2,z3,z4,z5,z6⟩:=boxL7 m5
  obtain ⟨f0,f1,f2,f3,f4,f5,f6⟩:=freeL7 m5
  clear m1 HGP HSP HK
  go_wp2
  refine storeEnd7 (u0:=.int .i64 (n:Int)) (u1:=.int .i64 k0) (u2:=.int .i64 k1) (u3:=.int .i64 k2) (u4:=.int .i64 k3) (u5:=.int .i64 k4) (u6:=.int .i64 F) m5 ?_
  intro W9 hW9 hb9 _ _ e0 e1 e2 e3 e4 e5 e6
  rw [← hW9]
  refine bodyPost_ret (v:=.agg #[.int .i64 (n:Int),.int .i64 k0,.int .i64 k1,.int .i64 k2,.int .i64 k3,.int .i64 k4,.int .i64 F]) (by simp [results,Tryz.results102,go_sem,e0,e1,e2,e3,e4,e5,e6]) rfl ?_
  exact ⟨rfl,hb9 _ _ (by omega) (bt hb1 hb5 hb1.size)⟩
def mVal (m:List Int):Value:=.agg ((m.map (Value.int .i64)).toArray)
theorem moveC {w:World} {u:Value} {n:Nat} {a hs:List Int} {f t:Int} (h1:1≤n) (h5:n≤5) (hR:RdN n hs f) (ha:IsP n a) (hu:Ints w u a) :
  Calls Tryz.prog 98 #[u,mVal (mkR n hs f ++ [t])] w fun e w'=>e = .returned (.tuple #[mVal (renR a (mkR n hs f) ++ [t]),.int .i64 0])∧Below w.heap.size w w':=by
 have hml:(movedL a (hs.map fun x=>imgP a x n)).length=n:=by rw [movedL_length,ha.1]
 have HGP:=Lib.hid (fun W (hW:Below w.heap.size w W)=>roundPerm h1 h5 hR ha (hu.keep hW))
 rw [renR_mk ha h5 hR.len] at HGP ⊢
 obtain ⟨L,hL⟩:∃ L,movedL a (hs.map fun x=>imgP a x n)=L:=⟨_,rfl⟩
 rw [hL] at HGP hml ⊢
 obtain ⟨pad,hpad⟩:=exE (hs++List.replicate (5 - n) 0)
 obtain ⟨pad',hpad'⟩:∃ pad,L++List.replicate (5 - n) 0=pad:=⟨_,rfl⟩
 have hpl:pad.length=5:=by rw [← hpad]; simp [hR.len]; omega
 have hpl':pad'.length=5:=by rw [← hpad']; simp [hml]; omega
 obtain ⟨g0,g1,g2,g3,g4,rfl⟩:=five hpl
 obtain ⟨k0,k1,k2,k3,k4,rfl⟩:=five hpl'
 have eR:mkR n hs f = [(n:Int),g0,g1,g2,g3,g4,f]:=by rw [mkR,← List.append_assoc,hpad]; rfl
 have eR':∀ x,mkR n L x = [(n:Int),k0,k1,k2,k3,k4,x]:=fun x=>by rw [mkR,← List.append_assoc,hpad']; rfl
 rw [eR,eR'] at HGP ⊢
 obtain ⟨F,hF⟩:=exE (imgP a f n)
 rw [hF] at HGP ⊢
 simp only [rVal,List.map_cons,List.map_nil] at HGP
 simp only [mVal,List.map_cons,List.map_nil,List.cons_append,List.nil_append]
 clear hpad hpad' hpl hpl' eR eR' hL hml hF hR
 obtain ⟨aa,ac,ab,ao,rfl,-,-,-⟩:=hu
 obtain ⟨W1,hW1⟩:=exF ((w.alloc (.cells #[.int .i64 (n:Int),.int .i64 g0,.int .i64 g1,.int .i64 g2,.int .i64 g3,.int .i64 g4,.int .i64 f,.int .i64 t] 100)).alloc (.cells #[.int .i64 0,.int .i64 0,.int .i64 0,.int .i64 0,.int .i64 0,.int .i64 0,.int .i64 0,.int .i64 0] 100))
 have hb1:Below w.heap.size w W1:=by rw [hW1]; exact ((Below.refl _ _).alloc (Nat.le_refl _) _).alloc (by simp) _
 have m0:W1.heap[w.heap.size]? = some (.cells #[.int .i64 (n:Int),.int .i64 g0,.int .i64 g1,.int .i64 g2,.int .i64 g3,.int .i64 g4,.int .i64 f,.int .i64 t] 100):=by rw [hW1]; exact (Below.heap_alloc _ _ _ (by simp)).trans (heap_alloc_new _ _)
 have m1:W1.heap[w.heap.size+1]? = some (.cells #[.int .i64 0,.int .i64 0,.int .i64 0,.int .i64 0,.int .i64 0,.int .i64 0,.int .i64 0,.int .i64 0] 100):=by
  rw [hW1]
  have:=heap_alloc_new (w.alloc (.cells #[.int .i64 (n:Int),.int .i64 g0,.int .i64 g1,.int .i64 g2,.int .i64 g3,.int .i64 g4,.int .i64 f,.int .i64 t] 100)) (.cells #[.int .i64 0,.int .i64 0,.int .i64 0,.int .i64 0,.int .i64 0,.int .i64 0,.int .i64 0,.int .i64 0] 100)
  rwa [World.size_alloc] at this
 obtain ⟨p0,p1,p2,p3,p4,p5,p6,p7⟩:=boxL8 m0
 go_enter Tryz.func98, Tryz.ntmps98
 go_wp2_with fail
 rw [← hW1]
 replace hW1:=Lib.hid hW1
 refine (HGP.out _ hb1).mono ?_
 rintro e w2 ⟨rfl,hb2⟩
 obtain ⟨W4,hW4⟩:=exF (w2.alloc (.cells #[.int .i64 (n:Int),.int .i64 k0,.int .i64 k1,.int .i64 k2,.int .i64 k3,.int .i64 k4,.int .i64 F] 87))
 have hb4:Below w2.heap.size w2 W4:=by rw [hW4]; exact (Below.refl _ _).alloc (Nat.le_refl _) _
 have m4:W4.heap[w2.heap.size]? = some (.cells #[.int .i64 (n:Int),.int .i64 k0,.int .i64 k1,.int .i64 k2,.int .i64 k3,.int .i64 k4,.int .i64 F] 87):=by rw [hW4]; exact heap_alloc_new _ _
 have hb14:Below W1.heap.size W1 W4:=btt hb2 hb4
 have m0':=(hb14.block _ (Array.getElem?_eq_some_iff.1 m0).1).trans m0
 have m1':=(hb14.block _ (Array.getElem?_eq_some_iff.1 m1).1).trans m1
 have hs4:w.heap.size+1 < w2.heap.size:=Nat.lt_of_lt_of_le (Array.getElem?_eq_some_iff.1 m1).1 hb2.size
 clear p0 p1 p2 p3 p4 p5 p6 p7
 obtain ⟨p0,p1,p2,p3,p4,p5,p6,p7⟩:=boxL8 m0'
 obtain ⟨j0,j1,j2,j3,j4,j5,j6⟩:=boxL7 m4
 obtain ⟨z0,z1,z2,z3,z4,z5,z6,z7⟩:=boxL8 m1'
 obtain ⟨f0,f1,f2,f3,f4,f5,f6,f7⟩:=freeL8 m1'
 clear p0 p1 p2 p3 p4 p5 p6
 have hb4':=bt hb1 hb14 hb1.size
 clear m0 m1 m0' m4 HGP
 go_upto_region 2 with fail
 rw [← hW4]
 replace hW4:=Lib.hid hW4
 go_wp2
 refine storeEnd8 (u0:=.int .i64 (n:Int)) (u1:=.int .i64 k0) (u2:=.int .i64 k1) (u3:=.int .i64 k2) (u4:=.int .i64 k3) (u5:=.int .i64 k4) (u6:=.int .i64 F) (u7:=.int .i64 t) m1' ?_
 intro W9 hW9 hb9 _ _ e0 e1 e2 e3 e4 e5 e6 e7
 rw [← hW9]
 refine bodyPost_ret (v:=.tuple #[.agg #[.int .i64 (n:Int),.int .i64 k0,.int .i64 k1,.int .i64 k2,.int .i64 k3,.int .i64 k4,.int .i64 F,.int .i64 t],.int .i64 0]) (by simp [results,Tryz.results98,go_sem,e0,e1,e2,e3,e4,e5,e6,e7]) rfl ?_
 exact ⟨rfl,hb9 _ _ (by omega) hb4'⟩
end Go.Proofs.YtmikofeildnpdaaGreat

/- slices.SortFunc of moves by their rounds. -/
namespace Go.Proofs.YtmikofeildnpdaaGreat
open Go.RowKit
theorem cmpM_trans {a b c:List Int} (h:cmpM a b < 0) (k:cmpM b c < 0):cmpM a c < 0:=cmpL_trans _ _ _ h k
theorem moveCompareG (n h0 h1 h2 h3 h4 f t m g0 g1 g2 g3 g4 g s:Int) (w:World):Calls Tryz.prog 100 #[.agg #[.int .i64 n,.int .i64 h0,.int .i64 h1,.int .i64 h2,.int .i64 h3,.int .i64 h4,.int .i64 f,.int .i64 t],.agg #[.int .i64 m,.int .i64 g0,.int .i64 g1,.int .i64 g2,.int .i64 g3,.int .i64 g4,.int .i64 g,.int .i64 s]] w fun e w'=>e = .returned (.int .i64 (cmpM [n,h0,h1,h2,h3,h4,f,t] [m,g0,g1,g2,g3,g4,g,s]))∧Below w.heap.size w w'∧w.drawn≤w'.drawn:=by
 have HR:=Lib.hid (fun W=>roundCompareG n h0 h1 h2 h3 h4 f m g0 g1 g2 g3 g4 g W)
 have hb:Below w.heap.size w ((w.alloc (.cells #[.int .i64 n,.int .i64 h0,.int .i64 h1,.int .i64 h2,.int .i64 h3,.int .i64 h4,.int .i64 f,.int .i64 t] 100)).alloc (.cells #[.int .i64 m,.int .i64 g0,.int .i64 g1,.int .i64 g2,.int .i64 g3,.int .i64 g4,.int .i64 g,.int .i64 s] 100)):=((Below.refl _ _).alloc (Nat.le_refl _) _).alloc (by simp) _
 have hE:=Lib.hid (show cmpM [n,h0,h1,h2,h3,h4,f,t] [m,g0,g1,g2,g3,g4,g,s]=cmpL [n,h0,h1,h2,h3,h4,f] [m,g0,g1,g2,g3,g4,g] from rfl)
 go_enter Tryz.func100, Tryz.ntmps100
 go_wp2_with fail
 refine (HR.out _).mono ?_; rintro e w1 ⟨rfl,hb1,hd1⟩
 go_wp2
 go_ret
 exact ⟨ret_int hE.out.symm,bt hb hb1 hb.size,hd1⟩
open Go.Shelf Go.Lib Go.Sort
def M8:Type:={ x:List Int // x.length=8 }
instance:Inhabited M8:=⟨⟨[0,0,0,0,0,0,0,0],rfl⟩⟩
def M8.enc (x:M8):List Value:=x.1.map (Value.int .i64)
def M8.cf (x y:M8):Int:=cmpM x.1 y.1
theorem M8.len (x:M8):x.enc.length=8:=by rw [M8.enc,List.length_map]; exact x.2
theorem M8.one (x:M8):∀ v∈x.enc,v.oneCell'=true:=fun v hv=>by
 obtain ⟨i,_,rfl⟩:=List.mem_map.1 hv; rfl
theorem M8.swo:SWO (ltOf M8.cf) where
 irrefl _:=decide_eq_false fun h=>weakM.asymm _ _ h h
 trans _ _ _ h1 h2:=decide_eq_true (cmpM_trans (of_decide_eq_true h1) (of_decide_eq_true h2))
 ntrans _ _ _ h1 h2:=decide_eq_false (weakM.ntrans _ _ _ (of_decide_eq_false h1) (of_decide_eq_false h2))
theorem M8.lays (blk off size:Nat) (w:World):CmpLays Tryz.prog 100 #[] M8.enc 8 M8.cf blk off size w:=by
 rintro m os dk _ ⟨x,hx⟩ ⟨y,hy⟩
 obtain ⟨x0,x1,x2,x3,x4,x5,x6,x7,rfl⟩:=eight hx
 obtain ⟨y0,y1,y2,y3,y4,y5,y6,y7,rfl⟩:=eight hy
 exact (moveCompareG x0 x1 x2 x3 x4 x5 x6 x7 y0 y1 y2 y3 y4 y5 y6 y7 _).mono fun _ _ ⟨he,hb,hd⟩=>⟨he,grown_of hb hd⟩
theorem flat_M8 (d:Array M8) (j:Nat) (hj:j < d.size):((flatK M8.enc 8 d).toList.drop (j * 8)).take 8=(d[j]!).1.map (Value.int .i64):=by
 have h8:(d[j]!).1.length=8:=(d[j]!).2
 apply List.ext_getElem?
 intro k
 rw [List.getElem?_take]
 by_cases hk:k < 8
 ·have hle:j * 8+8≤d.size * 8:=by rw [← Nat.succ_mul]; exact Nat.mul_le_mul_right _ hj
  rw [if_pos hk,List.getElem?_drop,Array.getElem?_toList,Array.getElem?_eq_getElem (by rw [size_flatK]; omega)]
  have:=get_flatK M8.enc 8 d (j * 8+k) (by omega)
  rw [getElem!_pos _ _ (by rw [size_flatK]; omega)] at this
  rw [this,show (j * 8+k) / 8=j by omega,show (j * 8+k) % 8=k by omega]
  have hl:=M8.len d[j]!
  rw [getElem!_pos _ k (by omega)]
  show some _=(M8.enc d[j]!)[k]?
  rw [List.getElem?_eq_getElem (by omega)]
 ·rw [if_neg hk,List.getElem?_eq_none (by simp; omega)]
def SortOutM (w:World) (B:Nat) (v:Value) (n:Nat) (xs:List (List Int)) (e:Ending) (w':World):Prop:=
 e = .returned (.tuple #[])∧∃ ys,ys.Perm xs∧ys.Pairwise (fun a b=>¬ cmpM b a < 0)∧OwX 100 8 EI w' B v n ys∧Go.RowKit.Below B w w'∧KeepX 100 w w'
theorem sortMvs {w:World} {B g n cap:Nat} {xs:List (List Int)} (h:OwX 100 8 EI w B (.slice (some ⟨g,0,none⟩) n cap) n xs) (hn:n≤1000000) :
  Calls Tryz.prog 99 #[.slice (some ⟨g,0,none⟩) n cap,.func (.func 100) #[] #[]] w (SortOutM w B (.slice (some ⟨g,0,none⟩) n cap) n xs):=by
 have hl:=h.length
 have h8:∀ j,j < n→(xs.getD j []).length=8:=fun j hj=>(h.intCells hj).1
 have hci:∀ j,j < n→CI w g (j * 8) (xs.getD j []):=fun j hj=>(h.intCells hj).2
 have hfz:∀ j,w.frozen? ⟨g,j,none⟩=false:=fun j=>h.frozen j
 obtain ⟨ws,h1,_⟩:=h
 rcases h1.2 with ⟨h0,_⟩ | ⟨g',cap',cur,he,hB,hg,hc1,hc2,hc3,hc4⟩
 ·cases h0
 ·injection he with he1 he2 he3
  injection he1 with he1
  injection he1 with he1
  subst he1 he3
  let mk:Fin n→M8:=fun j=>⟨xs.getD j [],h8 j j.2⟩
  obtain ⟨d,hd⟩:=exF (Array.ofFn mk)
  have hds:d.size=n:=by rw [hd]; simp
  have hdj:∀ j (hj:j < n),d[j]! = mk ⟨j,hj⟩:=fun j hj=>by rw [getElem!_pos d j (by omega)]; simp [hd]
  have hH:HoldsK M8.enc 8 w g 0 d:=by
   intro t ht
   rw [size_flatK,hds] at ht
   have htj:t / 8 < n:=by rw [Nat.div_lt_iff_lt_mul (by decide)]; exact ht
   have hm:t % 8 < 8:=Nat.mod_lt _ (by decide)
   constructor
   ·rw [get_flatK _ _ _ _ (by rw [hds]; exact ht),hdj _ htj]
    have:=hci (t / 8) htj (t % 8) (by rw [h8 _ htj]; exact hm)
    rw [show t / 8 * 8+t % 8=0+t by rw [Nat.mul_comm,Nat.div_add_mod,Nat.zero_add]] at this
    rw [this]
    show some _=some (id ((xs.getD (t / 8) []).map (Value.int .i64))[t % 8]!)
    have hl8:=h8 _ htj
    rw [getElem!_pos _ _ (by rw [List.length_map,hl8]; exact hm),List.getElem_map,getD_eq (by rw [hl8]; exact hm)]
    rfl
   ·rw [Nat.zero_add]; exact hfz t
  have hgl:=(Array.getElem?_eq_some_iff.1 hg).1
  have eg:∀ args w,(callFunc 100 args).run Tryz.prog w = .ok (.enter 100 args) w:=enters_of Tryz.func100 (by kernel_rfl) rfl
  have hS:=AnyQ.slices_SortFunc Tryz.sortMv 8 Tryz.isAgg100 Tryz.sizeOf100 M8.enc M8.len M8.one M8.cf M8.swo 100 #[] g 0 cap d w eg (M8.lays g 0 d.size w) hH hgl (by omega)
  rw [hds] at hS
  change Calls Tryz.prog 99 _ _ _ at hS
  refine hS.mono ?_
  rintro e w' ⟨rfl,d',m,os,hp,hs,rfl⟩
  obtain ⟨hp1,_,hp2⟩:=hp
  rw [hds] at hp1
  have e1:d'.extract 0 n=d':=by rw [← hp1]; simp
  have e2:d.extract 0 n=d:=by rw [← hds]; simp
  rw [e1,e2] at hp2
  have ex:d.toList.map (fun x:M8=>x.1)=xs:=by
   apply List.ext_getElem
   ·simp [hds,hl]
   ·intro j hj1 hj2
    simp only [List.getElem_map,Array.getElem_toList]
    have:=hdj j (by omega)
    rw [getElem!_pos d j (by omega)] at this
    rw [this]
    exact getD_eq hj2 []
  have hfs:(flatK M8.enc 8 d').size=n * 8:=by rw [size_flatK,hp1]
  have hcs:n * 8≤cur.size:=by rw [hc3]; exact Nat.mul_le_mul_right _ hc1
  have hW:sortWorldK M8.enc 8 w g 0 m d' os=sortWorld id w g 0 m (flatK M8.enc 8 d') os:=rfl
  rw [hW]
  refine ⟨rfl,d'.toList.map (fun x:M8=>x.1),?_,?_,⟨(flatK M8.enc 8 d').toList,⟨by rw [Array.length_toList,hfs],.inr ⟨g,cap,putCells id 0 (flatK M8.enc 8 d') cur,rfl,hB,heap_sortWorld_same 0 m _ os hg,hc1,hc2,by simpa [putCells] using hc3,?_⟩⟩,by simp [hp1],?_,?_⟩,below_sortWorld m _ os hB hgl,?_⟩
  ·rw [← ex]; exact hp2.map _
  ·rw [List.pairwise_map,List.pairwise_iff_getElem]
   intro i j hi hj hij
   simp only [Array.length_toList] at hi hj
   have:=hs i j (Nat.zero_le _) hij (by omega)
   rw [getElem!_pos d' i hi,getElem!_pos d' j hj] at this
   exact of_decide_eq_false this
  ·have:=putCells_take id (flatK M8.enc 8 d') cur (by omega)
   rw [hfs] at this
   rw [this,List.map_id]
  ·intro u hu
   obtain ⟨t,ht,rfl⟩:=List.getElem_of_mem hu
   rw [Array.length_toList,hfs] at ht
   have:=get_flatK M8.enc 8 d' t (by rw [hp1]; exact ht)
   rw [getElem!_pos _ _ (by omega)] at this
   rw [Array.getElem_toList,this]
   have hl8:=M8.len d'[t / 8]!
   rw [getElem!_pos _ _ (by rw [hl8]; exact Nat.mod_lt _ (by decide))]
   exact M8.one _ _ (List.getElem_mem _)
  ·intro j x hj
   rw [List.getElem?_map] at hj
   have hjl:j < d'.size:=by
    rcases Nat.lt_or_ge j d'.size with h | h
    ·exact h
    ·rw [List.getElem?_eq_none (by simpa using h)] at hj; cases hj
   show _=_
   rw [flat_M8 d' j hjl]
   rw [Array.getElem?_toList,Array.getElem?_eq_getElem hjl] at hj
   simp only [Option.map_some,Option.some.injEq] at hj
   rw [getElem!_pos d' j hjl,hj]
  ·intro k cs t hk ht
   refine heap_sortWorld_other _ _ _ _ (fun e=>?_) (Array.getElem?_eq_some_iff.1 hk).1
   subst e
   rw [hg] at hk
   injection hk with hk
   injection hk with _ hk
   exact ht hk.symm
end Go.Proofs.YtmikofeildnpdaaGreat
