/- Texts of this claim, put together: RF RC QM. -/
import Derived.Test.YtmikofeildnpdaaGreatKUze
import Derived.Deep.Cut
import Derived.Test.YtmikofeildnpdaaGreatKUq
import Derived.Test.YtmikofeildnpdaaGreatKUs
import Derived.Test.YtmikofeildnpdaaGreatKUz

set_option maxRecDepth 100000
set_option maxHeartbeats 12800000
/- roundtableref15.Renamed; symmetry's move: walks. -/
namespace Go.Proofs.YtmikofeildnpdaaGreat
open Go.RowKit
theorem refRoundRen {w:World} {u:Value} {n:Nat} {a hs:List Int} {f:Int} (h1:1≤n) (h5:n≤5) (hR:RdN n hs f) (ha:IsP n a) (hu:Ints w u a) :
  Calls Tryz.prog 102 #[rVal (mkR n hs f),u] w fun e w'=>e = .returned (rVal (renR a (mkR n hs f)))∧Below w.heap.size w w':=by
 have hml:(movedL a (hs.map fun x=>imgP a x n)).length=n:=by rw [movedL_length,ha.1]
 have hmx : Tryz.prog.follows .mixedOrders=true:=by kernel_rfl
 have HGP:=Lib.hid (fun W (hW:Below w.heap.size w W)=>refGraphRen h1 h5 hR ha (hu.keep hW))
 have HSP:Hid (∀ W,Below w.heap.size w W→Calls Tryz.prog 137 #[u,.int .i64 f] W fun e w'=>e = .returned (.int .i64 (imgP a f n))∧Qt W w'):=fun W hW=>by
  have:=refImage (hu.keep hW) (by rw [ha.1]; exact ha.good) (by rw [ha.1]; exact h5) f hR.f0
  rwa [ha.1,imgR_eq h1 h5 ha hR.f0 hR.f1] at this
 rw [renR_mk ha h5 hR.len]
 obtain ⟨L,hL⟩:∃ L,movedL a (hs.map fun x=>imgP a x n)=L:=⟨_,rfl⟩
 rw [hL] at HGP hml ⊢
 obtain ⟨pad,hpad⟩:=exE (hs++List.replicate (5 - n) 0)
 obtain ⟨pad',hpad'⟩:∃ pad,L++List.replicate (5 - n) 0=pad:=⟨_,rfl⟩
 have hpl:pad.length=5:=by rw [← hpad]; simp [hR.len]; omega
 have hpl':pad'.length=5:=by rw [← hpad']; simp [hml]; omega
 obtain ⟨g0,g1,g2,g3,g4,rfl⟩:=five hpl
 obtain ⟨k0,k1,k2,k3,k4,rfl⟩:=five hpl'
 have eR:mkR n hs f = [(n:Int),g0,g1,g2,g3,g4,f]:=by rw [mkR,← List.append_assoc,hpad]; rfl
 have eR':∀ x,mkR n L x = [(n:Int),k0,k1,k2,k3,k4,x]:=fun x=>by rw [mkR,← List.append_assoc,hpad']; rfl
 simp only [gVal,hpad,hpad',List.map_cons,List.map_nil] at HGP
 rw [eR,eR']
 obtain ⟨F,hF⟩:=exE (imgP a f n)
 rw [hF] at HSP ⊢
 simp only [rVal,List.map_cons,List.map_nil]
 clear hpad hpad' hpl hpl' eR eR' hL hml hF hR
 obtain ⟨aa,ac,ab,ao,rfl,-,-,-⟩:=hu
 obtain ⟨W1,hW1⟩:=exF ((w.alloc (.cells #[.int .i64 (n:Int),.int .i64 g0,.int .i64 g1,.int .i64 g2,.int .i64 g3,.int .i64 g4,.int .i64 f] 87)).alloc (.cells #[.int .i64 0,.int .i64 0,.int .i64 0,.int .i64 0,.int .i64 0,.int .i64 0,.int .i64 0] 87))
 have hb1:Below w.heap.size w W1:=by rw [hW1]; exact ((Below.refl _ _).alloc (Nat.le_refl _) _).alloc (by simp) _
 have m0:W1.heap[w.heap.size]? = some (.cells #[.int .i64 (n:Int),.int .i64 g0,.int .i64 g1,.int .i64 g2,.int .i64 g3,.int .i64 g4,.int .i64 f] 87):=by rw [hW1]; exact (Below.heap_alloc _ _ _ (by simp)).trans (heap_alloc_new _ _)
 have m1:W1.heap[w.heap.size+1]? = some (.cells #[.int .i64 0,.int .i64 0,.int .i64 0,.int .i64 0,.int .i64 0,.int .i64 0,.int .i64 0] 87):=by
  rw [hW1]
  have:=heap_alloc_new (w.alloc (.cells #[.int .i64 (n:Int),.int .i64 g0,.int .i64 g1,.int .i64 g2,.int .i64 g3,.int .i64 g4,.int .i64 f] 87)) (.cells #[.int .i64 0,.int .i64 0,.int .i64 0,.int .i64 0,.int .i64 0,.int .i64 0,.int .i64 0] 87)
  rwa [World.size_alloc] at this
 have HK:Hid (∀ W,Below W1.heap.size W1 W→W.cell? ⟨w.heap.size,0,none⟩=some (.int .i64 (n:Int))∧W.cell? ⟨w.heap.size,1,none⟩=some (.int .i64 g0)∧W.cell? ⟨w.heap.size,2,none⟩=some (.int .i64 g1)∧W.cell? ⟨w.heap.size,3,none⟩=some (.int .i64 g2)∧W.cell? ⟨w.heap.size,4,none⟩=some (.int .i64 g3)∧W.cell? ⟨w.heap.size,5,none⟩=some (.int .i64 g4)∧W.cell? ⟨w.heap.size,6,none⟩=some (.int .i64 f)):=fun W hW=>boxL7 ((hW.block _ (Array.getElem?_eq_some_iff.1 m0).1).trans m0)
 have hb1':=Lib.hid hb1
 clear m0
 go_enter Tryz.func102, Tryz.ntmps102
 go_wp2_with fail
 rw [← hW1]
 replace hW1:=Lib.hid hW1
 refine wp_region_btail 9 hmx (by kernel_rfl) (by kernel_rfl) ?_ ?_
 ·rintro ⟨a,wx,h⟩
  first | exact h | (obtain ⟨h,_⟩:=h; cases h; done) | (obtain ⟨_,h,_⟩:=h; cases h; done)
 ·intro ops'
  simp only [List.take_succ_cons,List.take_zero,List.drop_succ_cons,List.drop_zero]
  repeat (refine wpQuiet_step (fun K hK => ?_)
          go_simp
          first
            | (refine hK _ ?_; clear hK K)
            | (apply Exists.intro
               refine ⟨fun wq hC => ?_, hK _ ?_⟩
               · (first | with_reducible rfl | (obtain ⟨x0,x1,x2,x3,x4,x5,x6⟩:=HK.out wq hC; go_simp; first | done | with_reducible rfl | with_reducible exact ⟨rfl,rfl⟩) | (refine (HGP.out wq (bt hb1'.out hC hb1'.out.size)).mono ?_; rintro e w' ⟨rfl,hb⟩; exact ⟨rfl,btt hC hb⟩) | (refine (HSP.out wq (bt hb1'.out hC hb1'.out.size)).mono ?_; rintro e w' ⟨rfl,hb⟩; exact ⟨rfl,btt hC hb.below⟩))
               clear hK K))
  refine wpQuiet_nil ?_
  intro w5 hb5
  have m5:=(hb5.block _ (Array.getElem?_eq_some_iff.1 m1).1).trans m1
  obtain ⟨z0,z1,z2,z3,z4,z5,z6⟩:=boxL7 m5
  obtain ⟨f0,f1,f2,f3,f4,f5,f6⟩:=freeL7 m5
  clear m1 HGP HSP HK
  go_wp2
  refine storeEnd7 (u0:=.int .i64 (n:Int)) (u1:=.int .i64 k0) (u2:=.int .i64 k1) (u3:=.int .i64 k2) (u4:=.int .i64 k3) (u5:=.int .i64 k4) (u6:=.int .i64 F) m5 ?_
  intro W9 hW9 hb9 _ _ e0 e1 e2 e3 e4 e5 e6
  rw [← hW9]
  refine bodyPost_ret (v:=.agg #[.int .i64 (n:Int),.int .i64 k0,.int .i64 k1,.int .i64 k2,.int .i64 k3,.int .i64 k4,.int .i64 F]) (by simp [results,Tryz.results102,go_sem,e0,e1,e2,e3,e4,e5,e6]) rfl ?_
  exact ⟨rfl,hb9 _ _ (by omega) (bt hb1 hb5 hb1.size)⟩
def mVal (m:List Int):Value:=.agg ((m.map (Value.int .i64)).toArray)
theorem moveC {w:World} {u:Value} {n:Nat} {a hs:List Int} {f t:Int} (h1:1≤n) (h5:n≤5) (hR:RdN n hs f) (ha:IsP n a) (hu:Ints w u a) :
  Calls Tryz.prog 98 #[u,mVal (mkR n hs f ++ [t])] w fun e w'=>e = .returned (.tuple #[mVal (renR a (mkR n hs f) ++ [t]),.int .i64 0])∧Below w.heap.size w w':=by
 have hml:(movedL a (hs.map fun x=>imgP a x n)).length=n:=by rw [movedL_length,ha.1]
 have HGP:=Lib.hid (fun W (hW:Below w.heap.size w W)=>roundPerm h1 h5 hR ha (hu.keep hW))
 rw [renR_mk ha h5 hR.len] at HGP ⊢
 obtain ⟨L,hL⟩:∃ L,movedL a (hs.map fun x=>imgP a x n)=L:=⟨_,rfl⟩
 rw [hL] at HGP hml ⊢
 obtain ⟨pad,hpad⟩:=exE (hs++List.replicate (5 - n) 0)
 obtain ⟨pad',hpad'⟩:∃ pad,L++List.replicate (5 - n) 0=pad:=⟨_,rfl⟩
 have hpl:pad.length=5:=by rw [← hpad]; simp [hR.len]; omega
 have hpl':pad'.length=5:=by rw [← hpad']; simp [hml]; omega
 obtain ⟨g0,g1,g2,g3,g4,rfl⟩:=five hpl
 obtain ⟨k0,k1,k2,k3,k4,rfl⟩:=five hpl'
 have eR:mkR n hs f = [(n:Int),g0,g1,g2,g3,g4,f]:=by rw [mkR,← List.append_assoc,hpad]; rfl
 have eR':∀ x,mkR n L x = [(n:Int),k0,k1,k2,k3,k4,x]:=fun x=>by rw [mkR,← List.append_assoc,hpad']; rfl
 rw [eR,eR'] at HGP ⊢
 obtain ⟨F,hF⟩:=exE (imgP a f n)
 rw [hF] at HGP ⊢
 simp only [rVal,List.map_cons,List.map_nil] at HGP
 simp only [mVal,List.map_cons,List.map_nil,List.cons_append,List.nil_append]
 clear hpad hpad' hpl hpl' eR eR' hL hml hF hR
 obtain ⟨aa,ac,ab,ao,rfl,-,-,-⟩:=hu
 obtain ⟨W1,hW1⟩:=exF ((w.alloc (.cells #[.int .i64 (n:Int),.int .i64 g0,.int .i64 g1,.int .i64 g2,.int .i64 g3,.int .i64 g4,.int .i64 f,.int .i64 t] 100)).alloc (.cells #[.int .i64 0,.int .i64 0,.int .i64 0,.int .i64 0,.int .i64 0,.int .i64 0,.int .i64 0,.int .i64 0] 100))
 have hb1:Below w.heap.size w W1:=by rw [hW1]; exact ((Below.refl _ _).alloc (Nat.le_refl _) _).alloc (by simp) _
 have m0:W1.heap[w.heap.size]? = some (.cells #[.int .i64 (n:Int),.int .i64 g0,.int .i64 g1,.int .i64 g2,.int .i64 g3,.int .i64 g4,.int .i64 f,.int .i64 t] 100):=by rw [hW1]; exact (Below.heap_alloc _ _ _ (by simp)).trans (heap_alloc_new _ _)
 have m1:W1.heap[w.heap.size+1]? = some (.cells #[.int .i64 0,.int .i64 0,.int .i64 0,.int .i64 0,.int .i64 0,.int .i64 0,.int .i64 0,.int .i64 0] 100):=by
  rw [hW1]
  have:=heap_alloc_new (w.alloc (.cells #[.int .i64 (n:Int),.int .i64 g0,.int .i64 g1,.int .i64 g2,.int .i64 g3,.int .i64 g4,.int .i64 f,.int .i64 t] 100)) (.cells #[.int .i64 0,.int .i64 0,.int .i64 0,.int .i64 0,.int .i64 0,.int .i64 0,.int .i64 0,.int .i64 0] 100)
  rwa [World.size_alloc] at this
 obtain ⟨p0,p1,p2,p3,p4,p5,p6,p7⟩:=boxL8 m0
 go_enter Tryz.func98, Tryz.ntmps98
 go_wp2_with fail
 rw [← hW1]
 replace hW1:=Lib.hid hW1
 refine (HGP.out _ hb1).mono ?_
 rintro e w2 ⟨rfl,hb2⟩
 obtain ⟨W4,hW4⟩:=exF (w2.alloc (.cells #[.int .i64 (n:Int),.int .i64 k0,.int .i64 k1,.int .i64 k2,.int .i64 k3,.int .i64 k4,.int .i64 F] 87))
 have hb4:Below w2.heap.size w2 W4:=by rw [hW4]; exact (Below.refl _ _).alloc (Nat.le_refl _) _
 have m4:W4.heap[w2.heap.size]? = some (.cells #[.int .i64 (n:Int),.int .i64 k0,.int .i64 k1,.int .i64 k2,.int .i64 k3,.int .i64 k4,.int .i64 F] 87):=by rw [hW4]; exact heap_alloc_new _ _
 have hb14:Below W1.heap.size W1 W4:=btt hb2 hb4
 have m0':=(hb14.block _ (Array.getElem?_eq_some_iff.1 m0).1).trans m0
 have m1':=(hb14.block _ (Array.getElem?_eq_some_iff.1 m1).1).trans m1
 have hs4:w.heap.size+1 < w2.heap.size:=Nat.lt_of_lt_of_le (Array.getElem?_eq_some_iff.1 m1).1 hb2.size
 clear p0 p1 p2 p3 p4 p5 p6 p7
 obtain ⟨p0,p1,p2,p3,p4,p5,p6,p7⟩:=boxL8 m0'
 obtain ⟨j0,j1,j2,j3,j4,j5,j6⟩:=boxL7 m4
 obtain ⟨z0,z1,z2,z3,z4,z5,z6,z7⟩:=boxL8 m1'
 obtain ⟨f0,f1,f2,f3,f4,f5,f6,f7⟩:=freeL8 m1'
 clear p0 p1 p2 p3 p4 p5 p6
 have hb4':=bt hb1 hb14 hb1.size
 clear m0 m1 m0' m4 HGP
 go_upto_region 2 with fail
 rw [← hW4]
 replace hW4:=Lib.hid hW4
 go_wp2
 refine storeEnd8 (u0:=.int .i64 (n:Int)) (u1:=.int .i64 k0) (u2:=.int .i64 k1) (u3:=.int .i64 k2) (u4:=.int .i64 k3) (u5:=.int .i64 k4) (u6:=.int .i64 F) (u7:=.int .i64 t) m1' ?_
 intro W9 hW9 hb9 _ _ e0 e1 e2 e3 e4 e5 e6 e7
 rw [← hW9]
 refine bodyPost_ret (v:=.tuple #[.agg #[.int .i64 (n:Int),.int .i64 k0,.int .i64 k1,.int .i64 k2,.int .i64 k3,.int .i64 k4,.int .i64 F,.int .i64 t],.int .i64 0]) (by simp [results,Tryz.results98,go_sem,e0,e1,e2,e3,e4,e5,e6,e7]) rfl ?_
 exact ⟨rfl,hb9 _ _ (by omega) hb4'⟩
end Go.Proofs.YtmikofeildnpdaaGreat

/- slices.SortFunc of moves by their rounds. -/
namespace Go.Proofs.YtmikofeildnpdaaGreat
open Go.RowKit
theorem cmpM_trans {a b c:List Int} (h:cmpM a b < 0) (k:cmpM b c < 0):cmpM a c < 0:=cmpL_trans _ _ _ h k
theorem moveCompareG (n h0 h1 h2 h3 h4 f t m g0 g1 g2 g3 g4 g s:Int) (w:World):Calls Tryz.prog 100 #[.agg #[.int .i64 n,.int .i64 h0,.int .i64 h1,.int .i64 h2,.int .i64 h3,.int .i64 h4,.int .i64 f,.int .i64 t],.agg #[.int .i64 m,.int .i64 g0,.int .i64 g1,.int .i64 g2,.int .i64 g3,.int .i64 g4,.int .i64 g,.int .i64 s]] w fun e w'=>e = .returned (.int .i64 (cmpM [n,h0,h1,h2,h3,h4,f,t] [m,g0,g1,g2,g3,g4,g,s]))∧Below w.heap.size w w'∧w.drawn≤w'.drawn:=by
 have HR:=Lib.hid (fun W=>roundCompareG n h0 h1 h2 h3 h4 f m g0 g1 g2 g3 g4 g W)
 have hb:Below w.heap.size w ((w.alloc (.cells #[.int .i64 n,.int .i64 h0,.int .i64 h1,.int .i64 h2,.int .i64 h3,.int .i64 h4,.int .i64 f,.int .i64 t] 100)).alloc (.cells #[.int .i64 m,.int .i64 g0,.int .i64 g1,.int .i64 g2,.int .i64 g3,.int .i64 g4,.int .i64 g,.int .i64 s] 100)):=((Below.refl _ _).alloc (Nat.le_refl _) _).alloc (by simp) _
 have hE:=Lib.hid (show cmpM [n,h0,h1,h2,h3,h4,f,t] [m,g0,g1,g2,g3,g4,g,s]=cmpL [n,h0,h1,h2,h3,h4,f] [m,g0,g1,g2,g3,g4,g] from rfl)
 go_enter Tryz.func100, Tryz.ntmps100
 go_wp2_with fail
 refine (HR.out _).mono ?_; rintro e w1 ⟨rfl,hb1,hd1⟩
 go_wp2
 go_ret
 exact ⟨ret_int hE.out.symm,bt hb hb1 hb.size,hd1⟩
open Go.Shelf Go.Lib Go.Sort
def M8:Type:={ x:List Int // x.length=8 }
instance:Inhabited M8:=⟨⟨[0,0,0,0,0,0,0,0],rfl⟩⟩
def M8.enc (x:M8):List Value:=x.1.map (Value.int .i64)
def M8.cf (x y:M8):Int:=cmpM x.1 y.1
theorem M8.len (x:M8):x.enc.length=8:=by rw [M8.enc,List.length_map]; exact x.2
theorem M8.one (x:M8):∀ v∈x.enc,v.oneCell'=true:=fun v hv=>by
 obtain ⟨i,_,rfl⟩:=List.mem_map.1 hv; rfl
theorem M8.swo:SWO (ltOf M8.cf) where
 irrefl _:=decide_eq_false fun h=>weakM.asymm _ _ h h
 trans _ _ _ h1 h2:=decide_eq_true (cmpM_trans (of_decide_eq_true h1) (of_decide_eq_true h2))
 ntrans _ _ _ h1 h2:=decide_eq_false (weakM.ntrans _ _ _ (of_decide_eq_false h1) (of_decide_eq_false h2))
theorem M8.lays (blk off size:Nat) (w:World):CmpLays Tryz.prog 100 #[] M8.enc 8 M8.cf blk off size w:=by
 rintro m os dk _ ⟨x,hx⟩ ⟨y,hy⟩
 obtain ⟨x0,x1,x2,x3,x4,x5,x6,x7,rfl⟩:=eight hx
 obtain ⟨y0,y1,y2,y3,y4,y5,y6,y7,rfl⟩:=eight hy
 exact (moveCompareG x0 x1 x2 x3 x4 x5 x6 x7 y0 y1 y2 y3 y4 y5 y6 y7 _).mono fun _ _ ⟨he,hb,hd⟩=>⟨he,grown_of hb hd⟩
theorem flat_M8 (d:Array M8) (j:Nat) (hj:j < d.size):((flatK M8.enc 8 d).toList.drop (j * 8)).take 8=(d[j]!).1.map (Value.int .i64):=by
 have h8:(d[j]!).1.length=8:=(d[j]!).2
 apply List.ext_getElem?
 intro k
 rw [List.getElem?_take]
 by_cases hk:k < 8
 ·have hle:j * 8+8≤d.size * 8:=by rw [← Nat.succ_mul]; exact Nat.mul_le_mul_right _ hj
  rw [if_pos hk,List.getElem?_drop,Array.getElem?_toList,Array.getElem?_eq_getElem (by rw [size_flatK]; omega)]
  have:=get_flatK M8.enc 8 d (j * 8+k) (by omega)
  rw [getElem!_pos _ _ (by rw [size_flatK]; omega)] at this
  rw [this,show (j * 8+k) / 8=j by omega,show (j * 8+k) % 8=k by omega]
  have hl:=M8.len d[j]!
  rw [getElem!_pos _ k (by omega)]
  show some _=(M8.enc d[j]!)[k]?
  rw [List.getElem?_eq_getElem (by omega)]
 ·rw [if_neg hk,List.getElem?_eq_none (by simp; omega)]
def SortOutM (w:World) (B:Nat) (v:Value) (n:Nat) (xs:List (List Int)) (e:Ending) (w':World):Prop:=
 e = .returned (.tuple #[])∧∃ ys,ys.Perm xs∧ys.Pairwise (fun a b=>¬ cmpM b a < 0)∧OwX 100 8 EI w' B v n ys∧Go.RowKit.Below B w w'∧KeepX 100 w w'
theorem sortMvs {w:World} {B g n cap:Nat} {xs:List (List Int)} (h:OwX 100 8 EI w B (.slice (some ⟨g,0,none⟩) n cap) n xs) (hn:n≤1000000) :
  Calls Tryz.prog 99 #[.slice (some ⟨g,0,none⟩) n cap,.func (.func 100) #[] #[]] w (SortOutM w B (.slice (some ⟨g,0,none⟩) n cap) n xs):=by
 have hl:=h.length
 have h8:∀ j,j < n→(xs.getD j []).length=8:=fun j hj=>(h.intCells hj).1
 have hci:∀ j,j < n→CI w g (j * 8) (xs.getD j []):=fun j hj=>(h.intCells hj).2
 have hfz:∀ j,w.frozen? ⟨g,j,none⟩=false:=fun j=>h.frozen j
 obtain ⟨ws,h1,_⟩:=h
 rcases h1.2 with ⟨h0,_⟩ | ⟨g',cap',cur,he,hB,hg,hc1,hc2,hc3,hc4⟩
 ·cases h0
 ·injection he with he1 he2 he3
  injection he1 with he1
  injection he1 with he1
  subst he1 he3
  let mk:Fin n→M8:=fun j=>⟨xs.getD j [],h8 j j.2⟩
  obtain ⟨d,hd⟩:=exF (Array.ofFn mk)
  have hds:d.size=n:=by rw [hd]; simp
  have hdj:∀ j (hj:j < n),d[j]! = mk ⟨j,hj⟩:=fun j hj=>by rw [getElem!_pos d j (by omega)]; simp [hd]
  have hH:HoldsK M8.enc 8 w g 0 d:=by
   intro t ht
   rw [size_flatK,hds] at ht
   have htj:t / 8 < n:=by rw [Nat.div_lt_iff_lt_mul (by decide)]; exact ht
   have hm:t % 8 < 8:=Nat.mod_lt _ (by decide)
   constructor
   ·rw [get_flatK _ _ _ _ (by rw [hds]; exact ht),hdj _ htj]
    have:=hci (t / 8) htj (t % 8) (by rw [h8 _ htj]; exact hm)
    rw [show t / 8 * 8+t % 8=0+t by rw [Nat.mul_comm,Nat.div_add_mod,Nat.zero_add]] at this
    rw [this]
    show some _=some (id ((xs.getD (t / 8) []).map (Value.int .i64))[t % 8]!)
    have hl8:=h8 _ htj
    rw [getElem!_pos _ _ (by rw [List.length_map,hl8]; exact hm),List.getElem_map,getD_eq (by rw [hl8]; exact hm)]
    rfl
   ·rw [Nat.zero_add]; exact hfz t
  have hgl:=(Array.getElem?_eq_some_iff.1 hg).1
  have eg:∀ args w,(callFunc 100 args).run Tryz.prog w = .ok (.enter 100 args) w:=enters_of Tryz.func100 (by kernel_rfl) rfl
  have hS:=AnyQ.slices_SortFunc Tryz.sortMv 8 Tryz.isAgg100 Tryz.sizeOf100 M8.enc M8.len M8.one M8.cf M8.swo 100 #[] g 0 cap d w eg (M8.lays g 0 d.size w) hH hgl (by omega)
  rw [hds] at hS
  change Calls Tryz.prog 99 _ _ _ at hS
  refine hS.mono ?_
  rintro e w' ⟨rfl,d',m,os,hp,hs,rfl⟩
  obtain ⟨hp1,_,hp2⟩:=hp
  rw [hds] at hp1
  have e1:d'.extract 0 n=d':=by rw [← hp1]; simp
  have e2:d.extract 0 n=d:=by rw [← hds]; simp
  rw [e1,e2] at hp2
  have ex:d.toList.map (fun x:M8=>x.1)=xs:=by
   apply List.ext_getElem
   ·simp [hds,hl]
   ·intro j hj1 hj2
    simp only [List.getElem_map,Array.getElem_toList]
    have:=hdj j (by omega)
    rw [getElem!_pos d j (by omega)] at this
    rw [this]
    exact getD_eq hj2 []
  have hfs:(flatK M8.enc 8 d').size=n * 8:=by rw [size_flatK,hp1]
  have hcs:n * 8≤cur.size:=by rw [hc3]; exact Nat.mul_le_mul_right _ hc1
  have hW:sortWorldK M8.enc 8 w g 0 m d' os=sortWorld id w g 0 m (flatK M8.enc 8 d') os:=rfl
  rw [hW]
  refine ⟨rfl,d'.toList.map (fun x:M8=>x.1),?_,?_,⟨(flatK M8.enc 8 d').toList,⟨by rw [Array.length_toList,hfs],.inr ⟨g,cap,putCells id 0 (flatK M8.enc 8 d') cur,rfl,hB,heap_sortWorld_same 0 m _ os hg,hc1,hc2,by simpa [putCells] using hc3,?_⟩⟩,by simp [hp1],?_,?_⟩,below_sortWorld m _ os hB hgl,?_⟩
  ·rw [← ex]; exact hp2.map _
  ·rw [List.pairwise_map,List.pairwise_iff_getElem]
   intro i j hi hj hij
   simp only [Array.length_toList] at hi hj
   have:=hs i j (Nat.zero_le _) hij (by omega)
   rw [getElem!_pos d' i hi,getElem!_pos d' j hj] at this
   exact of_decide_eq_false this
  ·have:=putCells_take id (flatK M8.enc 8 d') cur (by omega)
   rw [hfs] at this
   rw [this,List.map_id]
  ·intro u hu
   obtain ⟨t,ht,rfl⟩:=List.getElem_of_mem hu
   rw [Array.length_toList,hfs] at ht
   have:=get_flatK M8.enc 8 d' t (by rw [hp1]; exact ht)
   rw [getElem!_pos _ _ (by omega)] at this
   rw [Array.getElem_toList,this]
   have hl8:=M8.len d'[t / 8]!
   rw [getElem!_pos _ _ (by rw [hl8]; exact Nat.mod_lt _ (by decide))]
   exact M8.one _ _ (List.getElem_mem _)
  ·intro j x hj
   rw [List.getElem?_map] at hj
   have hjl:j < d'.size:=by
    rcases Nat.lt_or_ge j d'.size with h | h
    ·exact h
    ·rw [List.getElem?_eq_none (by simpa using h)] at hj; cases hj
   show _=_
   rw [flat_M8 d' j hjl]
   rw [Array.getElem?_toList,Array.getElem?_eq_getElem hjl] at hj
   simp only [Option.map_some,Option.some.injEq] at hj
   rw [getElem!_pos d' j hjl,hj]
  ·intro k cs t hk ht
   refine heap_sortWorld_other _ _ _ _ (fun e=>?_) (Array.getElem?_eq_some_iff.1 hk).1
   subst e
   rw [hg] at hk
   injection hk with hk
   injection hk with _ hk
   exact ht hk.symm
end Go.Proofs.YtmikofeildnpdaaGreat

/- Adversaries with renamed processes: well-formed, their words, compositions. Plain lists. -/
namespace Go.Proofs.YtmikofeildnpdaaGreat
def MvN (n:Nat) (m:List Int):Prop:=m.length=8∧∃ hs f,RdN n hs f∧rdOf m=mkR n hs f
structure WfN (n:Nat) (ss:List (List (List Int))):Prop where
 h1:1≤n
 h5:n≤5
 l1:1≤ss.length
 l2:ss.length≤256
 l3:movesN ss≤4096
 ne:∀ s∈ss,0 < s.length
 mv:∀ s∈ss,∀ m∈s,MvN n m
 lead:LeadOK ss
 asc:∀ s∈ss,AscL (s.map rdOf)
 gr:growsB ss=true
theorem WfN.s {n:Nat} {ss:List (List (List Int))} (h:WfN n ss):WfS ss:=⟨h.asc,h.lead,h.l1⟩
theorem WfN.of {n:Nat} {ss:List (List (List Int))} (h8:∀ s∈ss,∀ m∈s,m.length=8) (h:chkA (n:Int) ss=0):WfN n ss:=by
 obtain ⟨⟨q1,q5⟩,⟨l1,l2,l3⟩,h3,h4⟩:=chkA_facts h
 have hst:∀ s∈ss,0 < s.length∧∀ j,j < s.length→mvErr (n:Int) ss.length s j=0:=fun s hs=>by
  have h5:=ssGo_zero h3 s hs
  unfold stErr at h5
  by_cases he:s.length=0
  ·rw [if_pos he] at h5; cases h5
  rw [if_neg he] at h5
  exact ⟨by omega,fun j hj=>mvGo_zero h5 j (by omega) (by omega)⟩
 have hmv:∀ s∈ss,∀ m∈s,chkRd (rdOf m)=0∧m.getD 0 0=(n:Int)∧0≤m.getD 7 0∧m.getD 7 0 < (ss.length:Int):=fun s hs m hm=>by
  obtain ⟨j,hj,rfl⟩:=List.mem_iff_getElem.1 hm
  obtain ⟨c1,c2,_,c4,c5⟩:=mvErr_zero ((hst s hs).2 j hj)
  rw [getD_eq hj] at c1 c2 c4 c5
  exact ⟨c1,c2,c4,c5⟩
 refine ⟨by omega,by omega,l1,l2,l3,fun s hs=>(hst s hs).1,fun s hs m hm=>?_,fun s hs m hm=>⟨(hmv s hs m hm).2.2.1,(hmv s hs m hm).2.2.2⟩,ascL_of h,h4⟩
 obtain ⟨c1,c2,_,_⟩:=hmv s hs m hm
 have hl:=h8 s hs m hm
 have e0:(rdOf m).getD 0 0=(n:Int):=by
  rw [← c2,rdOf,List.getD_eq_getElem?_getD,List.getElem?_take,if_pos (by omega),← List.getD_eq_getElem?_getD]
 obtain ⟨_,hs',f,r1,r2⟩:=rd_of (by rw [rdOf,List.length_take,hl]; rfl) c1 e0
 exact ⟨hl,hs',f,r1,r2⟩
theorem ssGo_ofN {n:Int} {len:Nat}:∀ {ss:List (List (List Int))},(∀ s∈ss,stErr n len s=0)→ssGo n len ss=0
 | [],_=>rfl
 | s::r,h=>by rw [ssGo,if_neg (fun k=>k (h s (by simp)))]; exact ssGo_ofN fun x hx=>h x (by simp [hx])
theorem mvGo_ofN {n:Int} {len:Nat} {ms:List (List Int)}:∀ (k i:Nat),(∀ j,i≤j→j < i+k→mvErr n len ms j=0)→mvGo n len ms i k=0
 | 0,_,_=>rfl
 | k+1,i,h=>by rw [mvGo,if_neg (fun q=>q (h i (by omega) (by omega)))]; exact mvGo_ofN k (i+1) fun j h1 h2=>h j (by omega) (by omega)
theorem WfN.chk {n:Nat} {ss:List (List (List Int))} (h:WfN n ss):chkA (n:Int) ss=0:=by
 have hs:ssGo (n:Int) ss.length ss=0:=ssGo_ofN fun s hs=>by
  have hne:=h.ne s hs
  rw [stErr,if_neg (by omega)]
  refine mvGo_ofN _ _ fun j _ hj=>?_
  have hj:j < s.length:=by omega
  have hm:s.getD j []∈s:=by rw [getD_eq hj]; exact List.getElem_mem hj
  obtain ⟨hl,hh,f,r1,r2⟩:=h.mv s hs _ hm
  obtain ⟨d1,d2⟩:=h.lead s hs _ hm
  have e0:(s.getD j []).getD 0 0=(n:Int):=by
   have:(rdOf (s.getD j [])).getD 0 0=(n:Int):=by rw [r2]; rfl
   rwa [rdOf,List.getD_eq_getElem?_getD,List.getElem?_take,if_pos (by omega),← List.getD_eq_getElem?_getD] at this
  have hc:chkRd ((s.getD j []).take 7)=0:=by
   have:=chkRd_mk h.h1 h.h5 r1
   rw [← r2] at this; exact this
  rw [mvErr,if_neg (fun k=>k hc),if_neg (fun k=>k e0),if_neg,if_neg (by omega)]
  rintro ⟨j0,hcm⟩
  have ha:=h.asc s hs
  rw [AscL,List.pairwise_iff_getElem] at ha
  have:=ha (j - 1) j (by rw [List.length_map]; omega) (by rw [List.length_map]; exact hj) (by omega)
  rw [List.getElem_map,List.getElem_map] at this
  rw [getD_eq hj,getD_eq (show j - 1 < s.length by omega)] at hcm
  have this:cmpL ((s[j - 1]'(by omega)).take 7) (s[j].take 7) < 0:=this
  omega
 have q1:=h.h1
 have q5:=h.h5
 have q2:=h.l1
 have q3:=h.l2
 have q4:=h.l3
 rw [chkA,if_neg (by omega),if_neg (by omega),hs,if_neg (fun k=>k rfl),h.gr,if_pos rfl]
def renM (a:List Int) (m:List Int):List Int:=renR a (rdOf m) ++ [m.getD 7 0]
def renS (a:List Int) (s:List (List Int)):List (List Int):=srtB cmpM [] (s.map (renM a))
def renA (a:List Int) (ss:List (List (List Int))):List (List (List Int)):=ss.map (renS a)
section
variable {n:Nat} {a b:List Int} {ss:List (List (List Int))} {s:List (List Int)} {m m':List Int}
theorem renM_facts (h1:1≤n) (h5:n≤5) (ha:IsP n a) (h:MvN n m):rdOf (renM a m)=renR a (rdOf m)∧(renM a m).getD 7 0=m.getD 7 0∧MvN n (renM a m)∧mvTo (renM a m)=mvTo m:=by
 obtain ⟨hl,hs,f,r1,r2⟩:=h
 have hR:=r1.ren h1 h5 ha
 have e:renR a (rdOf m)=mkR n (movedL a (hs.map fun x=>imgP a x n)) (imgP a f n):=by rw [r2,renR_mk ha h5 r1.len]
 have hl7:(renR a (rdOf m)).length=7:=by rw [e]; exact mkR_len h5 hR.len
 have e7:rdOf (renM a m)=renR a (rdOf m):=by rw [rdOf,renM,List.take_append_of_le_length (by omega),List.take_of_length_le (by omega)]
 have et:(renM a m).getD 7 0=m.getD 7 0:=by rw [renM,List.getD_eq_getElem?_getD,List.getElem?_append_right (by omega),hl7]; rfl
 refine ⟨e7,et,⟨by rw [renM,List.length_append,hl7]; rfl,_,_,hR,by rw [e7,e]⟩,by rw [mvTo,mvTo,et]⟩
theorem renS_mem {x:List Int}:x∈renS a s↔∃ m∈s,renM a m=x:=by rw [renS,srtB_mem weakM,List.mem_map]
theorem renS_len:(renS a s).length=s.length:=by rw [renS,srtB_len weakM,List.length_map]
theorem renM_inj (h1:1≤n) (h5:n≤5) (ha:IsP n a) (h:MvN n m) (h':MvN n m') (e:rdOf (renM a m)=rdOf (renM a m')):rdOf m=rdOf m':=by
 rw [(renM_facts h1 h5 ha h).1,(renM_facts h1 h5 ha h').1] at e
 obtain ⟨_,hs,f,r1,r2⟩:=h
 obtain ⟨_,hs',f',r1',r2'⟩:=h'
 rw [r2,r2'] at e ⊢
 exact renR_inj h1 h5 ha r1 r1' e
theorem asc_rd (hA:AscL (s.map rdOf)) (hm:m∈s) (hm':m'∈s) (e:rdOf m=rdOf m'):m=m':=by
 obtain ⟨i,hi,rfl⟩:=List.mem_iff_getElem.1 hm
 obtain ⟨j,hj,rfl⟩:=List.mem_iff_getElem.1 hm'
 rw [AscL,List.pairwise_iff_getElem] at hA
 have key:∀ i j (hi:i < s.length) (hj:j < s.length),i < j→rdOf s[i]=rdOf s[j]→False:=fun i j hi hj hij e=>by
  have:=hA i j (by rw [List.length_map]; exact hi) (by rw [List.length_map]; exact hj) hij
  rw [List.getElem_map,List.getElem_map,e,cmpL_self] at this
  omega
 rcases Nat.lt_trichotomy i j with h | h | h
 ·exact (key i j hi hj h e).elim
 ·subst h; rfl
 ·exact (key j i hj hi h e.symm).elim
theorem renS_anti (h1:1≤n) (h5:n≤5) (ha:IsP n a) (hA:AscL (s.map rdOf)) (hv:∀ m∈s,MvN n m):∀ x∈s.map (renM a),∀ y∈s.map (renM a),¬ cmpM x y < 0→¬ cmpM y x < 0→x=y:=fun x hx y hy h2 h3=>by
 obtain ⟨m,hm,rfl⟩:=List.mem_map.1 hx
 obtain ⟨m',hm',rfl⟩:=List.mem_map.1 hy
 rw [asc_rd hA hm hm' (renM_inj h1 h5 ha (hv m hm) (hv m' hm') (cmpL_anti h2 h3))]
theorem renS_asc (h1:1≤n) (h5:n≤5) (ha:IsP n a) (hA:AscL (s.map rdOf)) (hv:∀ m∈s,MvN n m):AscL ((renS a s).map rdOf):=by
 have hsrt:SrtG cmpM (renS a s):=srtB_sorted weakM _
 have hnd:(renS a s).Nodup:=by
  refine (srtB_perm weakM _).nodup_iff.2 ?_
  rw [List.Nodup,List.pairwise_map]
  refine List.Pairwise.imp_of_mem (fun {x y} hx hy hxy e=>?_) (List.pairwise_map.1 hA)
  have:=renM_inj h1 h5 ha (hv x hx) (hv y hy) (by rw [e])
  rw [this,cmpL_self] at hxy
  omega
 rw [AscL,List.pairwise_map]
 refine List.Pairwise.imp_of_mem (fun {x y} hx hy hxy=>?_) (List.pairwise_and_iff.2 ⟨hsrt,hnd⟩)
 rcases cmpL_total (rdOf x) (rdOf y) with h | h | h
 ·exact h
 ·refine absurd ?_ hxy.2
  have hx':=(srtB_mem weakM _).1 hx
  have hy':=(srtB_mem weakM _).1 hy
  have hz : ¬ cmpM x y < 0:=by show ¬ cmpL _ _ < 0; rw [h,cmpL_self]; omega
  exact renS_anti h1 h5 ha hA hv x hx' y hy' hz hxy.1
 ·exact absurd h hxy.1
theorem movesN_ren (a:List Int) (ss:List (List (List Int))):movesN (renA a ss)=movesN ss:=by
 unfold movesN renA
 rw [List.map_map]
 congr 1
 exact List.map_congr_left fun s _=>renS_len
theorem renA_getD (a:List Int) (ss:List (List (List Int))) (k:Nat):(renA a ss).getD k []=renS a (ss.getD k []):=by
 unfold renA
 rw [List.getD_eq_getElem?_getD,List.getD_eq_getElem?_getD,List.getElem?_map]
 cases ss[k]? with
 | none=>rfl
 | some x=>rfl
theorem insideB_iff {x y:Int}:insideB x y=true↔∀ p:Nat,p < 5→hasI x (p:Int)=true→hasI y (p:Int)=true:=by
 unfold insideB
 simp only [List.all_cons,List.all_nil,Bool.and_true,Bool.and_eq_true,Bool.or_eq_true,Bool.not_eq_true']
 constructor
 ·rintro ⟨a0,a1,a2,a3,a4⟩ p hp hx
  have:p=0∨p=1∨p=2∨p=3∨p=4:=by omega
  rcases this with rfl | rfl | rfl | rfl | rfl
  ·exact a0.resolve_left fun h=>by rw [show ((0:Nat):Int)=0 from rfl,h] at hx; cases hx
  ·exact a1.resolve_left fun h=>by rw [show ((1:Nat):Int)=1 from rfl,h] at hx; cases hx
  ·exact a2.resolve_left fun h=>by rw [show ((2:Nat):Int)=2 from rfl,h] at hx; cases hx
  ·exact a3.resolve_left fun h=>by rw [show ((3:Nat):Int)=3 from rfl,h] at hx; cases hx
  ·exact a4.resolve_left fun h=>by rw [show ((4:Nat):Int)=4 from rfl,h] at hx; cases hx
 ·intro h
  have g:∀ p:Nat,p < 5→hasI x (p:Int)=false∨hasI y (p:Int)=true:=fun p hp=>by
   cases e:hasI x (p:Int) with
   | false=>exact .inl rfl
   | true=>exact .inr (h p hp e)
  exact ⟨g 0 (by omega),g 1 (by omega),g 2 (by omega),g 3 (by omega),g 4 (by omega)⟩
theorem hasI_big {x:Int} (x0:0≤x) (hx:x < 2 ^ n) {p:Nat} (hp:n≤p) (h5:p < 5):hasI x (p:Int)=false:=by
 rw [hasI,twoI_pow h5]
 have:(2:Int) ^ n≤2 ^ p:=by
  exact_mod_cast Nat.pow_le_pow_right (by omega:0 < 2) hp
 rw [Int.ediv_eq_zero_of_lt x0 (by omega)]
 rfl
theorem inside_img (h1:1≤n) (h5:n≤5) (ha:IsP n a) {x y:Int} (x0:0≤x) (x1:x < 2 ^ n) (y0:0≤y) (y1:y < 2 ^ n) (h:insideB x y=true):insideB (imgP a x n) (imgP a y n)=true:=by
 rw [insideB_iff] at h ⊢
 intro q hq hx
 obtain ⟨q0,q1⟩:=img_rng h1 h5 ha x0 x1
 by_cases hqn:q < n
 ·obtain ⟨p,hp,e⟩:=perm_onto h1 h5 ha hqn
  rw [← e,img_has h1 h5 ha x0 x1 hp] at hx
  rw [← e,img_has h1 h5 ha y0 y1 hp]
  exact h p (by omega) hx
 ·rw [hasI_big q0 q1 (by omega) hq] at hx; cases hx
theorem MvN.f (h:MvN n m) (h5:n≤5):∃ hs f,RdN n hs f∧rdOf m=mkR n hs f∧m.getD 6 0=f:=by
 obtain ⟨hl,hs,f,r1,r2⟩:=h
 refine ⟨hs,f,r1,r2,?_⟩
 have:=mkR_f (f:=f) h5 r1.len
 rwa [← r2,rdOf,List.getD_eq_getElem?_getD,List.getElem?_take,if_pos (by omega),← List.getD_eq_getElem?_getD] at this
theorem WfN.ren (h:WfN n ss) (ha:IsP n a):WfN n (renA a ss) where
 h1:=h.h1
 h5:=h.h5
 l1:=by rw [renA,List.length_map]; exact h.l1
 l2:=by rw [renA,List.length_map]; exact h.l2
 l3:=by rw [movesN_ren]; exact h.l3
 ne s hs:=by
  obtain ⟨t,ht,rfl⟩:=List.mem_map.1 hs
  rw [renS_len]; exact h.ne t ht
 mv s hs m hm:=by
  obtain ⟨t,ht,rfl⟩:=List.mem_map.1 hs
  obtain ⟨x,hx,rfl⟩:=renS_mem.1 hm
  exact (renM_facts h.h1 h.h5 ha (h.mv t ht x hx)).2.2.1
 lead s hs m hm:=by
  obtain ⟨t,ht,rfl⟩:=List.mem_map.1 hs
  obtain ⟨x,hx,rfl⟩:=renS_mem.1 hm
  rw [(renM_facts h.h1 h.h5 ha (h.mv t ht x hx)).2.1,renA,List.length_map]
  exact h.lead t ht x hx
 asc s hs:=by
  obtain ⟨t,ht,rfl⟩:=List.mem_map.1 hs
  exact renS_asc h.h1 h.h5 ha (h.asc t ht) (h.mv t ht)
 gr:=by
  have hg:=h.gr
  rw [growsB,List.all_eq_true] at hg ⊢
  intro s hs
  obtain ⟨t,ht,rfl⟩:=List.mem_map.1 hs
  have hg:=hg t ht
  rw [gr2,List.all_eq_true] at hg ⊢
  intro m hm
  obtain ⟨x,hx,rfl⟩:=renS_mem.1 hm
  have hX:=h.mv t ht x hx
  obtain ⟨e1,e2,e3,e4⟩:=renM_facts h.h1 h.h5 ha hX
  have hg:=hg x hx
  rw [gr3,List.all_eq_true] at hg ⊢
  intro k hk
  rw [e2,renA_getD] at hk
  obtain ⟨y,hy,rfl⟩:=renS_mem.1 hk
  have hst:=stIn hy
  have hY:=h.mv _ hst.1 y hy
  have hg:=hg y hy
  obtain ⟨hsx,fx,rx1,rx2,rx3⟩:=hX.f h.h5
  obtain ⟨hsy,fy,ry1,ry2,ry3⟩:=hY.f h.h5
  obtain ⟨_,fx',qx1,qx2,qx3⟩:=e3.f h.h5
  obtain ⟨_,fy',qy1,qy2,qy3⟩:=(renM_facts h.h1 h.h5 ha hY).2.2.1.f h.h5
  rw [e1,rx2,renR_mk ha h.h5 rx1.len] at qx2
  rw [(renM_facts h.h1 h.h5 ha hY).1,ry2,renR_mk ha h.h5 ry1.len] at qy2
  have ex:=(mkR_inj (rx1.ren h.h1 h.h5 ha).len qx1.len qx2).2
  have ey:=(mkR_inj (ry1.ren h.h1 h.h5 ha).len qy1.len qy2).2
  rw [rx3,ry3] at hg
  rw [qx3,qy3,← ex,← ey]
  exact inside_img h.h1 h.h5 ha rx1.f0 rx1.f1 ry1.f0 ry1.f1 hg
theorem ren_alw (h:WfN n ss) (ha:IsP n a):∀ (w:List (List Int)) (s:Nat),alw (renA a ss) w s↔∃ u,alw ss u s∧w=u.map (renR a)
 | [],s=>⟨fun _=>⟨[],trivial,rfl⟩,fun _=>trivial⟩
 | r::w,s=>by
  have hR:=(h.ren ha)
  constructor
  ·intro hw
   obtain ⟨m,hm,rfl,h2⟩:=alw_cons_some hw
   rw [renA_getD] at hm
   obtain ⟨x,hx,rfl⟩:=renS_mem.1 hm
   obtain ⟨e1,e2,e3,e4⟩:=renM_facts h.h1 h.h5 ha (h.mv _ (stIn hx).1 x hx)
   rw [e4] at h2
   obtain ⟨u,hu,rfl⟩:=(ren_alw h ha w _).1 h2
   exact ⟨rdOf x::u,(alw_cons_mem h.asc h.lead hx).2 hu,by rw [List.map_cons,e1]⟩
  ·rintro ⟨u,hu,e⟩
   match u,e with
   | r'::u,e=>
    rw [List.map_cons] at e
    injection e with er ew
    subst ew
    obtain ⟨x,hx,rfl,h2⟩:=alw_cons_some hu
    obtain ⟨e1,e2,e3,e4⟩:=renM_facts h.h1 h.h5 ha (h.mv _ (stIn hx).1 x hx)
    rw [er,← e1]
    refine (alw_cons_mem hR.asc hR.lead (by rw [renA_getD]; exact renS_mem.2 ⟨x,hx,rfl⟩)).2 ?_
    rw [e4]
    exact (ren_alw h ha _ _).2 ⟨u,h2,rfl⟩
theorem renA_times (h:WfN n ss) (ha:IsP n a) (hb:IsP n b):renA a (renA b ss)=renA (timesL a b) ss:=by
 unfold renA
 rw [List.map_map]
 refine List.map_congr_left fun s hs=>?_
 have hv:=h.mv s hs
 have key:∀ m∈s,renM a (renM b m)=renM (timesL a b) m:=fun m hm=>by
  obtain ⟨e1,e2,_,_⟩:=renM_facts h.h1 h.h5 hb (hv m hm)
  obtain ⟨_,hh,f,r1,r2⟩:=hv m hm
  unfold renM at e1 e2 ⊢
  rw [e1,e2,r2,renR_times h.h1 h.h5 ha hb r1]
 refine srtB_uniq weakM (l:=s.map (renM (timesL a b))) ?_ (srtB_sorted weakM _) (renS_anti h.h1 h.h5 (ha.times hb) (h.asc s hs) hv)
 refine (srtB_perm weakM _).trans ?_
 refine ((srtB_perm weakM _).map _).trans ?_
 rw [List.map_map]
 have:s.map (renM a ∘ renM b)=s.map (renM (timesL a b)):=List.map_congr_left key
 rw [this]
theorem renA_one (h:WfN n ss):renA (oneL n) ss=ss:=by
 unfold renA
 conv=>rhs; rw [← List.map_id ss]
 refine List.map_congr_left fun s hs=>?_
 have hv:=h.mv s hs
 have:s.map (renM (oneL n))=s:=by
  conv=>rhs; rw [← List.map_id s]
  refine List.map_congr_left fun m hm=>?_
  obtain ⟨hl,hh,f,r1,r2⟩:=hv m hm
  rw [renM,r2,renR_one h.h1 h.h5 r1,← r2]
  show m.take 7 ++ [m.getD 7 0]=m
  conv=>rhs; rw [← List.take_append_drop 7 m]
  rw [List.drop_eq_getElem_cons (by omega),getD_eq (by omega:7 < m.length),List.drop_of_length_le (by omega)]
 rw [renS,this]
 refine srtB_id weakM ?_ fun x hx y hy h2 h3=>asc_rd (h.asc s hs) hx hy (cmpL_anti h2 h3)
 exact List.Pairwise.imp (fun h=>cmpL_asymm _ _ h) (List.pairwise_map.1 (h.asc s hs))
theorem eqW.symm {x y:List (List (List Int))} (h:eqW x y):eqW y x:=fun w=>(h w).symm
theorem eqW.trans {x y z:List (List (List Int))} (h:eqW x y) (g:eqW y z):eqW x z:=fun w=>(h w).trans (g w)
theorem eqW.ren {tt:List (List (List Int))} (h:WfN n ss) (h':WfN n tt) (ha:IsP n a) (e:eqW ss tt):eqW (renA a ss) (renA a tt):=fun w=>by
 rw [ren_alw h ha,ren_alw h' ha]
 exact ⟨fun ⟨u,h1,h2⟩=>⟨u,(e u).1 h1,h2⟩,fun ⟨u,h1,h2⟩=>⟨u,(e u).2 h1,h2⟩⟩
def kpA (ss:List (List (List Int))) (a:List Int):Prop:=eqW ss (renA a ss)
theorem kpA.one (h:WfN n ss):kpA ss (oneL n):=fun w=>by rw [renA_one h]
theorem kpA.times (h:WfN n ss) (ha:IsP n a) (hb:IsP n b) (ka:kpA ss a) (kb:kpA ss b):kpA ss (timesL a b):=by
 unfold kpA
 rw [← renA_times h ha hb]
 exact ka.trans (eqW.ren h (h.ren hb) ha kb)
theorem kpA.back (h:WfN n ss) (ha:IsP n a) (ka:kpA ss a):kpA ss (backL a):=by
 have hb:=back_isP h.h1 h.h5 ha
 have:=(eqW.ren h (h.ren ha) hb ka).symm
 rw [renA_times h hb ha,(back_left (chk_of h.h1 h.h5 ha)).1,ha.1,renA_one h] at this
 exact this
theorem kpA.conj (h:WfN n ss) {c x:List Int} (hc:IsP n c) (hx:IsP n x) (k:kpA (renA c ss) x):kpA ss (timesL (backL c) (timesL x c)):=by
 have hb:=back_isP h.h1 h.h5 hc
 unfold kpA at k ⊢
 rw [renA_times h hx hc] at k
 have:=eqW.ren (h.ren hc) (h.ren (hx.times hc)) hb k
 rw [renA_times h hb hc,(back_left (chk_of h.h1 h.h5 hc)).1,hc.1,renA_one h,renA_times h hb (hx.times hc)] at this
 exact this
theorem kpA.conj' (h:WfN n ss) {c x:List Int} (hc:IsP n c) (hx:IsP n x) (k:kpA ss x):kpA (renA c ss) (timesL c (timesL x (backL c))):=by
 have hb:=back_isP h.h1 h.h5 hc
 unfold kpA
 rw [renA_times h (hc.times (hx.times hb)) hc]
 have e:timesL (timesL c (timesL x (backL c))) c=timesL c x:=by
  rw [times_assoc ((hx.times hb).1) hc,times_assoc hb.1 hc,(back_left (chk_of h.h1 h.h5 hc)).1,hc.1,times_oneR hx.1]
 rw [e,← renA_times h hc hx]
 exact eqW.ren h (h.ren hx) hc k
end
end Go.Proofs.YtmikofeildnpdaaGreat
