/- Texts of this claim, put together: LPb LVd LVe LVg LVf. -/
import Derived.Test.YtcnedkkcgdkioaaGreatKSzl
import Derived.Test.YtcnedkkcgdkioaaGreatKSzj

set_option maxRecDepth 100000
set_option maxHeartbeats 12800000
namespace Go.Proofs.YtcnedkkcgdkioaaGreat
open Go.RowKit
theorem unionCx {w:World}{u v:Value}{fs gs:Jc}(hu:CxO w u fs) (hv:CxO w v gs) (hF:CxG fs) (hG:CxG gs) :
  Calls Tryz.prog 40 #[u,v] w fun e w'=>∃v',e = .returned (.tuple #[v',.int .i64 0])/\CxO w' v' (cxP (fs++gs))/\Below w.heap.size w w':=by
 have hf1:=hF.len;have hg1:=hG.len;have hfl:∀s∈fs,s.length<=1000000:=fun s h=>by have:=(hF.sm s h).2.1;omega
 have hgl:∀s∈gs,s.length<=1000000:=fun s h=>by have:=(hG.sm s h).2.1;omega
 have hvs:∀s∈fs++gs,VS s:=fun s h=>(List.mem_append.1 h).elim (hF.vs s) (hG.vs s);have hsm:∀s∈fs++gs,SmS s:=fun s h=>(List.mem_append.1 h).elim (hF.sm s) (hG.sm s)
 have hcl:(cxP (fs++gs)).length<=4096:=by
  rw[cxP_max hvs];have:=maxX_le (l:=fs++gs)
  rw[List.length_append] at this;omega
 obtain⟨ua,uc,rfl,hU⟩:=hu;obtain⟨va,vc,rfl,hV⟩:=hv;have KU:=OwX.kssc hU (by omega) hfl;have KV:=OwX.kssc hV (by omega) hgl;obtain⟨W1,hW1⟩:=exF (((w.alloc (.cells #[.slice ua fs.length uc] 57)).alloc (.cells #[.slice va gs.length vc] 57)).alloc (.cells #[.slice none 0 0] 57));have hb1:Below w.heap.size w W1:=by rw[hW1];exact(((Below.refl _ w).alloc (Nat.le_refl _) _).alloc (by simp) _).alloc (by simp only[World.size_alloc];omega) _
 have kA:W1.heap[w.heap.size]? = some (.cells #[.slice ua fs.length uc] 57):=by
  rw[hW1];exact(Below.heap_alloc _ _ _ (by simp only[World.size_alloc];omega)).trans ((Below.heap_alloc _ _ _ (by simp)).trans (heap_alloc_new w _))
 have kB:W1.heap[w.heap.size+1]? = some (.cells #[.slice va gs.length vc] 57):=by
  rw[hW1];refine(Below.heap_alloc _ _ _ (by simp)).trans ?_;have:=heap_alloc_new (w.alloc (.cells #[.slice ua fs.length uc] 57)) (.cells #[.slice va gs.length vc] 57)
  rwa [World.size_alloc] at this
 have kR:W1.heap[w.heap.size+1+1]? = some (.cells #[.slice none 0 0] 57):=by
  rw[hW1];have:=heap_alloc_new ((w.alloc (.cells #[.slice ua fs.length uc] 57)).alloc (.cells #[.slice va gs.length vc] 57)) (.cells #[.slice none 0 0] 57)
  rwa [World.size_alloc,World.size_alloc] at this
 have HB:=qH (bothCx (KU.keep hb1) (KV.keep hb1) hF hG);obtain⟨R,hR⟩:=exE (cxP (fs++gs));have HL:=qH (fun W u (hk:KSSC 2 W u (fs++gs))=>limitedCx hk (by rw[List.length_append];omega) hvs hsm hcl);rw[hR] at HL|-;have q0:=cell_of_one kA;have q1:=cell_of_one kB;rw[hW1] at q0 q1;clear hR;go_enter Tryz.func40, Tryz.ntmps40
 go_wp2_with fail
 rw[<-hW1];replace hW1:=qH hW1;refine HB.out.mono ?_;rintro e w2 ⟨rfl,hb2⟩;clear q0 q1;have hb12:=btt hb1 hb2;go_upto_region 4 with fail
 refine regUn4 (R:=R) (keptO hb2 kA) (keptO hb2 kB) (keptO hb2 kR) (hV.keep EVx.stb hb12) hgl (by omega) (by omega) (fun W hb=>cloneVsK (KU.keep (btt hb12 hb)) (by omega)) HL.out ?_;intro y2 y5 y6 y7 y9 W hg;intros
 obtain⟨-,-,-,-,-,g6⟩:=hg;obtain⟨W5,a,c,hb5,hO,rfl⟩:=g6 rfl;obtain⟨z4,fz,m1,hend⟩:=endCx (w:=w) (keptO (btt hb2 hb5) kR) hO (btt hb12 hb5) (by omega);replace m1:=qH m1;clear KU KV hO;go_wp2;exact⟨rfl,_,results_cx2 (k:=4) rfl _ _ _ rfl rfl m1.out,_,rfl,hend.out.1,hend.out.2⟩
theorem covB_mono {A B:Jc}(h:∀x,x∈A->x∈B) {s:Jb}(hB:covB B s=false):covB A s=false:=by
 cases hA:covB A s
 ·rfl
 ·obtain⟨t,ht,h1,h2⟩:=covB_iff.1 hA;rw[covB_iff.2 ⟨t,h t ht,h1,h2⟩] at hB;cases hB
theorem maxX_top {A:Jc}{M:Nat}(hM:∀s∈A,s.length<=M):∀(k:Nat) (t:Jb),t∈A->0 < t.length->M - t.length<=k->∃u∈maxX A,t.length<=u.length/\∀v∈t,v∈u
 | k,t,ht,h0,hk=>by
  cases hc:covB A t
  ·exact⟨t,maxX_mem.2 ⟨ht,h0,hc⟩,Nat.le_refl _,fun v h=>h⟩
  ·obtain⟨u,hu,h1,h2⟩:=covB_iff.1 hc;have:=hM u hu
   cases k with
   | zero=>omega
   | succ k=>
    obtain⟨x,hx,h3,h4⟩:=maxX_top hM k u hu (by omega) (by omega);exact⟨x,hx,by omega,fun v hv=>h4 v (h2 v hv)⟩
theorem maxX_app {A B:Jc}{M:Nat}(hA:∀s∈A,W2 s/\s.length<=M) (hB:∀s∈B,W2 s/\s.length<=M):maxX (maxX A++maxX B)=maxX (A++B):=by
 have hsub:∀x,x∈maxX A++maxX B->x∈A++B:=fun x h=>List.mem_append.2 ((List.mem_append.1 h).imp (fun h=>(maxX_mem.1 h).1) fun h=>(maxX_mem.1 h).1);have hw:∀s∈A++B,W2 s:=fun s h=>(List.mem_append.1 h).elim (fun h=>(hA s h).1) fun h=>(hB s h).1;refine ascG_unique ordX (maxX_asc fun s h=>hw s (hsub s h)) (maxX_asc hw) fun s=>?_;rw[maxX_mem,maxX_mem];constructor
 ·rintro⟨h1,h2,h3⟩;refine⟨hsub s h1,h2,?_⟩;cases hc:covB (A++B) s
  ·rfl
  ·obtain⟨t,ht,h4,h5⟩:=covB_iff.1 hc
   obtain⟨u,hu,h6,h7⟩:∃u∈maxX A++maxX B,t.length<=u.length/\∀v∈t,v∈u:=by
    rcases List.mem_append.1 ht with h|h
    ·obtain⟨u,hu,h6,h7⟩:=maxX_top (fun s h=>(hA s h).2) _ t h (by omega) (Nat.le_refl _);exact⟨u,List.mem_append.2 (.inl hu),h6,h7⟩
    ·obtain⟨u,hu,h6,h7⟩:=maxX_top (fun s h=>(hB s h).2) _ t h (by omega) (Nat.le_refl _);exact⟨u,List.mem_append.2 (.inr hu),h6,h7⟩
   rw[covB_iff.2 ⟨u,hu,by omega,fun v hv=>h7 v (h5 v hv)⟩] at h3;cases h3
 ·rintro⟨h1,h2,h3⟩;refine⟨?_,h2,covB_mono hsub h3⟩;rcases List.mem_append.1 h1 with h|h
  ·exact List.mem_append.2 (.inl (maxX_mem.2 ⟨h,h2,covB_mono (fun x hx=>List.mem_append.2 (.inl hx)) h3⟩))
  ·exact List.mem_append.2 (.inr (maxX_mem.2 ⟨h,h2,covB_mono (fun x hx=>List.mem_append.2 (.inr hx)) h3⟩))
def simsLt (N K:Nat) (xs:List Ex) (i:Nat):Jc:=(xs.filter fun x=>decide (x.1 < (i:Int))).map (simX N K)
theorem simsLt_mem {N K:Nat}{xs:List Ex}{i:Nat}{s:Jb}:s∈simsLt N K xs i↔∃x∈xs,x.1 < (i:Int)/\simX N K x=s:=by
 unfold simsLt;simp only[List.mem_map,List.mem_filter,decide_eq_true_eq,and_assoc]
theorem simsX_mem {N K:Nat}{xs:List Ex}{i:Int}{s:Jb}:s∈simsX N K xs i↔∃x∈xs,(i < 0\/x.1=i)/\simX N K x=s:=by
 unfold simsX;simp only[List.mem_map,List.mem_filter,decide_eq_true_eq,and_assoc]
theorem simX_le (N K:Nat) (x:Ex):(simX N K x).length<=N:=simN_len N
theorem unions_step {N K:Nat}{xs:List Ex}{i:Nat}:cxP (maxX (simsLt N K xs i)++maxX (simsX N K xs (i:Int)))=maxX (simsLt N K xs (i+1)):=by
 have hl:∀s∈simsLt N K xs i,W2 s/\s.length<=N:=fun s h=>by
  obtain⟨x,_,_,rfl⟩:=simsLt_mem.1 h;exact⟨simX_w2,simX_le _ _ _⟩
 have hx:∀s∈simsX N K xs (i:Int),W2 s/\s.length<=N:=fun s h=>by
  obtain⟨x,_,_,rfl⟩:=simsX_mem.1 h;exact⟨simX_w2,simX_le _ _ _⟩
 rw[cxP_max (fun s h=>(List.mem_append.1 h).elim (fun h=>(hl s (maxX_mem.1 h).1).1) fun h=>(hx s (maxX_mem.1 h).1).1),maxX_app hl hx];refine maxX_congr (fun s h=>(List.mem_append.1 h).elim (fun h=>(hl s h).1) fun h=>(hx s h).1) fun s=>?_;rw[List.mem_append,simsLt_mem,simsX_mem,simsLt_mem];constructor
 ·rintro(⟨x,h1,h2,h3⟩|⟨x,h1,h2,h3⟩)
  ·exact⟨x,h1,by omega,h3⟩
  ·exact⟨x,h1,by omega,h3⟩
 ·rintro⟨x,h1,h2,h3⟩;by_cases h:x.1 < (i:Int)
  ·exact .inl ⟨x,h1,h,h3⟩
  ·exact .inr ⟨x,h1,.inr (by omega),h3⟩
theorem unions_zero {N K:Nat}{xs:List Ex}(h:∀x∈xs,0<=x.1):maxX (simsLt N K xs 0) = []:=by
 have:simsLt N K xs 0 = []:=List.eq_nil_iff_forall_not_mem.2 fun s hs=>by
  obtain⟨x,h1,h2,_⟩:=simsLt_mem.1 hs;have:=h x h1
  omega
 rw[this];rfl
theorem unions_all {N K:Nat}{xs:List Ex}{m:Nat}(h:∀x∈xs,x.1 < (m:Int)):maxX (simsLt N K xs m)=maxX (simsX N K xs (-1)):=by
 refine maxX_congr (fun s hs=>by obtain⟨x,_,_,rfl⟩:=simsLt_mem.1 hs;exact simX_w2) fun s=>?_;rw[simsLt_mem,simsX_mem];constructor
 ·rintro⟨x,h1,h2,h3⟩;exact⟨x,h1,.inl (by decide),h3⟩
 ·rintro⟨x,h1,_,h3⟩;exact⟨x,h1,h x h1,h3⟩
theorem csL_has {N K m:Nat}{xs:List Ex}{x:Ex}(hx:x∈xs) (h0:0<=x.1) (h1:x.1 < (m:Int)) (hs:0 < (simX N K x).length):x.1∈csL N K xs (simX N K x) m:=by
 unfold csL natI;refine List.mem_map.2 ⟨x.1.toNat,List.mem_filter.2 ⟨List.mem_range.2 (by omega),?_⟩,by omega⟩;unfold csB;rw[List.any_eq_true];refine⟨simX N K x,?_,subB_iff.2 fun v h=>h⟩;unfold simsN;exact List.mem_filter.2 ⟨simsX_mem.2 ⟨x,hx,.inr (by omega),rfl⟩,decide_eq_true hs⟩
theorem simN_colors {ok:Nat->Bool}{l:List Int}:∀k,(simN ok l k).map (fun v=>v.getD 0 0)=((List.range k).filter ok).map fun(p:Nat)=>(p:Int)
 | 0=>rfl
 | k+1=>by
  rw[simN,List.range_succ,List.filter_append,List.map_append,List.filter_cons];cases hk:ok k
  ·rw[if_neg (by decide),if_neg (by decide)];simpa using simN_colors k
  ·rw[if_pos rfl,if_pos rfl,List.map_append,simN_colors k];rfl
def obL (n:Nat) (f:Int):List Nat:=(List.range n).filter fun p=>!hasI f (p:Int)
theorem simX_colors (N K:Nat) (x:Ex):(simX N K x).map (fun v=>v.getD 0 0)=(obL N (fltX x)).map fun(p:Nat)=>(p:Int):=simN_colors N
theorem color_at {s:Jb}{j:Nat}:(s.getD j []).getD 0 0=(s.map fun v=>v.getD 0 0).getD j 0:=by
 simp only[List.getD_eq_getElem?_getD,List.getElem?_map];cases s[j]?<;>rfl
theorem obs_ok:((List.range 5).all fun n=>(List.range 32).all fun f=>decide ((obL (n+1) (f:Int)).length=0↔bits .andNot .i64 (fullI ((n:Int)+1)) (f:Int)=0) && decide (((obL (n+1) (f:Int)).foldl (fun m p=>bits .or .i64 m (2 ^ p)) 0)=bits .andNot .i64 (fullI ((n:Int)+1)) (f:Int)))=true:=by decide +kernel
theorem obs_at {N:Nat}{x:Ex}(h1:1<=N) (h5:N<=5) (hf0:0<=fltX x) (hf1:fltX x<=31):((obL N (fltX x)).length=0↔mskX N x=0)/\((obL N (fltX x)).foldl (fun m p=>bits .or .i64 m (2 ^ p)) 0)=mskX N x:=by
 have:=List.all_eq_true.1 (List.all_eq_true.1 obs_ok (N - 1) (List.mem_range.2 (by omega))) (fltX x).toNat (List.mem_range.2 (by omega))
 rw[Bool.and_eq_true,decide_eq_true_eq,decide_eq_true_eq,show N - 1+1=N by omega,show((N - 1:Nat):Int)+1=(N:Int) by omega,show((fltX x).toNat:Int)=fltX x by omega] at this;exact this
theorem simX_len (N K:Nat) (x:Ex):(simX N K x).length=(obL N (fltX x)).length:=by
 have:=congrArg List.length (simX_colors N K x)
 simpa using this
theorem simX_zero {N K:Nat}{x:Ex}(h1:1<=N) (h5:N<=5) (hf0:0<=fltX x) (hf1:fltX x<=31):(simX N K x).length=0↔mskX N x=0:=by
 rw[simX_len];exact(obs_at h1 h5 hf0 hf1).1
theorem colM_map (s:Jb):∀m,s.foldl (fun m v=>bits BinOp.or IntKind.i64 m (2 ^ (v.getD 0 0).toNat)) m=(s.map fun v=>v.getD 0 0).foldl (fun m c=>bits BinOp.or IntKind.i64 m (2 ^ c.toNat)) m:=by
 induction s with
 | nil=>intro m;rfl
 | cons a s ih=>intro m;exact ih _
theorem natFold (l:List Nat):∀m:Int,(l.map fun(p:Nat)=>(p:Int)).foldl (fun m c=>bits BinOp.or IntKind.i64 m (2 ^ c.toNat)) m=l.foldl (fun m p=>bits BinOp.or IntKind.i64 m (2 ^ p)) m:=by
 induction l with
 | nil=>intro m;rfl
 | cons a l ih=>intro m;rw[List.map_cons,List.foldl_cons,List.foldl_cons,ih,Int.toNat_natCast]
theorem simX_colM {N K:Nat}{x:Ex}(h1:1<=N) (h5:N<=5) (hf0:0<=fltX x) (hf1:fltX x<=31):colM (simX N K x)=mskX N x:=by
 unfold colM;rw[colM_map,simX_colors,natFold];exact(obs_at h1 h5 hf0 hf1).2
theorem simX_col {N K:Nat}{x:Ex}{j:Nat}(h:j < (simX N K x).length):0<=((simX N K x).getD j []).getD 0 0/\((simX N K x).getD j []).getD 0 0 < (N:Int):=by
 rw[color_at,simX_colors];rw[simX_len] at h;rw[getD_eq (by simpa using h),List.getElem_map];have:=List.mem_range.1 (List.mem_filter.1 (List.getElem_mem h)).1
 omega
theorem simX_chr {N K:Nat}{x:Ex}{j:Nat}(h:j+1 < (simX N K x).length):((simX N K x).getD j []).getD 0 0 ≠ ((simX N K x).getD (j+1) []).getD 0 0:=by
 rw[color_at,color_at,simX_colors];rw[simX_len] at h;rw[getD_eq (by simp;omega),getD_eq (by simpa using h),List.getElem_map,List.getElem_map];have hp:(obL N (fltX x)).Pairwise (· < ·):=(List.pairwise_lt_range).filter _;have:=List.pairwise_iff_getElem.1 hp j (j+1) (by omega) h (by omega)
 omega
def RelV (N K:Nat) (xs:List Ex) (c l:Int):Prop:=∃x∈xs,∃p,p < N/\(!hasI (fltX x) (p:Int))=true/\c=(p:Int)/\l=(x.2.2.getD K []).getD p 0
theorem pts_rel {N K:Nat}{xs:List Ex}{v:List Int}:v∈ptsX (maxX (simsX N K xs (-1)))↔∃c l,v = [c,l]/\RelV N K xs c l:=by
 rw[ptsX_mem];constructor
 ·rintro⟨s,hs,hv⟩;obtain⟨x,hx,_,rfl⟩:=simsX_mem.1 (maxX_mem.1 hs).1;obtain⟨p,hp,ho,rfl⟩:=simN_mem.1 hv;exact⟨_,_,rfl,x,hx,p,hp,ho,rfl,rfl⟩
 ·rintro⟨c,l,rfl,x,hx,p,hp,ho,rfl,rfl⟩;have hv : [(p:Int),(x.2.2.getD K []).getD p 0]∈simX N K x:=simN_mem.2 ⟨p,hp,ho,rfl⟩;obtain⟨u,hu,_,h4⟩:=maxX_top (M:=N) (fun s h=>by obtain⟨y,_,_,rfl⟩:=simsX_mem.1 h;exact simX_le _ _ _) N (simX N K x) (simsX_mem.2 ⟨x,hx,.inl (show(-1:Int) < 0 by decide),rfl⟩) (List.length_pos_of_mem hv) (by omega);exact⟨u,hu,h4 _ hv⟩
theorem setY_at {x:Ex}{l:List Int}{ys:List Bool}{j:Nat}(hj:j < ys.length):∀p,(setY x l ys p).getD j false=true↔ys.getD j false=true\/∃q,q < p/\(!hasI (fltX x) (q:Int))=true/\(l.getD q 0).toNat=j
 | 0=>by simp[setY]
 | p+1=>by
  have ih:=setY_at (x:=x) (l:=l) hj p;have hl:=setY_len (x:=x) (l:=l) (ys:=ys) p;rw[setY];cases hb:(!hasI (fltX x) (p:Int))
  ·rw[if_neg (by decide),ih];constructor
   ·rintro(h|⟨q,h1,h2,h3⟩)
    ·exact .inl h
    ·exact .inr ⟨q,by omega,h2,h3⟩
   ·rintro(h|⟨q,h1,h2,h3⟩)
    ·exact .inl h
    ·rcases Nat.lt_or_ge q p with h|h
     ·exact .inr ⟨q,h,h2,h3⟩
     ·obtain rfl:q=p:=(by omega);rw[hb] at h2;cases h2
  ·rw[if_pos rfl];by_cases he:(l.getD p 0).toNat=j
   ·have:((setY x l ys p).set (l.getD p 0).toNat true).getD j false=true:=by
     rw[he,List.getD_eq_getElem?_getD,List.getElem?_set_self (by omega)];rfl
    rw[this];exact⟨fun _=>.inr ⟨p,by omega,hb,he⟩,fun _=>rfl⟩
   ·have:((setY x l ys p).set (l.getD p 0).toNat true).getD j false=(setY x l ys p).getD j false:=by
     rw[List.getD_eq_getElem?_getD,List.getElem?_set_ne he,<-List.getD_eq_getElem?_getD]
    rw[this,ih];constructor
    ·rintro(h|⟨q,h1,h2,h3⟩)
     ·exact .inl h
     ·exact .inr ⟨q,by omega,h2,h3⟩
    ·rintro(h|⟨q,h1,h2,h3⟩)
     ·exact .inl h
     ·rcases Nat.lt_or_ge q p with h|h
      ·exact .inr ⟨q,h,h2,h3⟩
      ·obtain rfl:q=p:=(by omega);exact absurd h3 he
theorem yesY_at {N K V:Nat}{xs:List Ex}{j:Nat}(hj:j < V):∀k,k<=xs.length->((yesY N K V xs k).getD j false=true↔∃i,i < k/\∃q,q < N/\(!hasI (fltX (xs.getD i exNil)) (q:Int))=true/\(((xs.getD i exNil).2.2.getD K []).getD q 0).toNat=j)
 | 0,_=>by simp[yesY,hj]
 | k+1,hk=>by
  rw[yesY,setY_at (by rw[yesY_len];exact hj),yesY_at hj k (by omega)];constructor
  ·rintro(⟨i,h1,h2⟩|h)
   ·exact⟨i,by omega,h2⟩
   ·exact⟨k,by omega,h⟩
  ·rintro⟨i,h1,h2⟩;rcases Nat.lt_or_ge i k with h|h
   ·exact .inl ⟨i,h,h2⟩
   ·obtain rfl:i=k:=(by omega);exact .inr h2
theorem relN_mem {ys:List Bool}{z:Int}:∀j,z∈relN ys j↔∃i,i < j/\ys.getD i false=true/\z=(i:Int)
 | 0=>by simp[relN]
 | j+1=>by
  rw[relN];have ih:=relN_mem (ys:=ys) (z:=z) j;cases hb:ys.getD j false
  ·rw[if_neg (by decide),ih];constructor
   ·rintro⟨i,h1,h2⟩;exact⟨i,by omega,h2⟩
   ·rintro⟨i,h1,h2,h3⟩;rcases Nat.lt_or_ge i j with h|h
    ·exact⟨i,h,h2,h3⟩
    ·obtain rfl:i=j:=(by omega);rw[hb] at h2;cases h2
  ·rw[if_pos rfl,List.mem_append,ih,List.mem_singleton];constructor
   ·rintro(⟨i,h1,h2⟩|h)
    ·exact⟨i,by omega,h2⟩
    ·exact⟨j,by omega,hb,h⟩
   ·rintro⟨i,h1,h2,h3⟩;rcases Nat.lt_or_ge i j with h|h
    ·exact .inl ⟨i,h,h2,h3⟩
    ·obtain rfl:i=j:=(by omega);exact .inr h3
theorem relN_asc {ys:List Bool}:∀j,(relN ys j).Pairwise (· < ·)
 | 0=>by simp[relN]
 | j+1=>by
  rw[relN];split
  ·refine List.pairwise_append.2 ⟨relN_asc j,by simp,fun a ha b hb=>?_⟩;obtain⟨i,h1,_,rfl⟩:=(relN_mem j).1 ha;rw[List.mem_singleton.1 hb];omega
  ·exact relN_asc j
theorem labels_rel {N K:Nat}{vs:Jb}{xs:List Ex}(hG:SysG N K vs xs):sortL28 ((ptsX (maxX (simsX N K xs (-1)))).map fun v=>v.getD 1 0)=relL N K vs.length xs:=by
 have hrow:∀c l,RelV N K xs c l->∃j:Nat,l=(j:Int)/\j < vs.length/\(vs.getD j []).getD 0 0=c:=by
  rintro c l ⟨x,hx,p,hp,_,rfl,rfl⟩;obtain⟨j,h1,h2,h3,_⟩:=((hG.ok x hx).rows K (Nat.le_refl _)).2 p hp;exact⟨j,h1,h2,h3⟩
 have hnd:((ptsX (maxX (simsX N K xs (-1)))).map fun v=>v.getD 1 0).Nodup:=by
  refine List.Pairwise.map _ (R:=fun a b=>a ≠ b/\a∈ptsX (maxX (simsX N K xs (-1)))/\b∈ptsX (maxX (simsX N K xs (-1)))) ?_ ?_
  ·rintro a b ⟨hne,ha,hb⟩ he;obtain⟨c,l,rfl,h1⟩:=pts_rel.1 ha;obtain⟨c',l',rfl,h2⟩:=pts_rel.1 hb;obtain rfl:l=l':=he;obtain⟨j,rfl,_,h3⟩:=hrow _ _ h1;obtain⟨j',h4,_,h5⟩:=hrow _ _ h2;obtain rfl:j=j':=(by omega);exact hne (by rw[<-h3,<-h5])
  ·have h1:(ptsX (maxX (simsX N K xs (-1)))).Pairwise fun a b=>cmpL a b < 0:=ptsX_asc _;refine List.Pairwise.imp_of_mem (fun {a b} ha hb h=>⟨fun e=>?_,ha,hb⟩) h1;subst e;rw[cmpL_self] at h;omega
 refine sorted_unique (lt:=fun a b:Int=>a < b) (fun a b h1 h2=>by omega) ?_ (relN_asc _) fun z=>?_
 ·have h1:=sortL28_asc ((ptsX (maxX (simsX N K xs (-1)))).map fun v=>v.getD 1 0)
  have h2:(sortL28 ((ptsX (maxX (simsX N K xs (-1)))).map fun v=>v.getD 1 0)).Nodup:=by
   unfold sortL28;exact(List.mergeSort_perm _ _).nodup_iff.2 hnd
  refine List.Pairwise.imp₂ (fun a b h3 h4=>?_) h1 h2;omega
 ·rw[sortL28_mem,List.mem_map];unfold relL;rw[relN_mem];constructor
  ·rintro⟨v,hv,rfl⟩;obtain⟨c,l,rfl,hR⟩:=pts_rel.1 hv;obtain⟨j,rfl,hj,_⟩:=hrow _ _ hR;obtain⟨x,hx,p,hp,ho,_,hl⟩:=hR;obtain⟨i,hi,rfl⟩:=List.getElem_of_mem hx;refine⟨j,hj,(yesY_at hj _ (Nat.le_refl _)).2 ⟨i,hi,p,hp,?_,?_⟩,rfl⟩
   ·rw[getD_eq hi];exact ho
   ·rw[getD_eq hi,<-hl];rfl
  ·rintro⟨j,hj,hy,rfl⟩;obtain⟨i,hi,q,hq,ho,hl⟩:=(yesY_at hj _ (Nat.le_refl _)).1 hy;have hx:xs.getD i exNil∈xs:=(by rw[getD_eq hi];exact List.getElem_mem _);obtain⟨j',h1,_⟩:=((hG.ok _ hx).rows K (Nat.le_refl _)).2 q hq;rw[h1,Int.toNat_natCast] at hl;subst hl;exact⟨[(q:Int),(j':Int)],pts_rel.2 ⟨_,_,rfl,_,hx,q,hq,ho,rfl,h1.symm⟩,rfl⟩
theorem indexI28 {w:World}{v:Value}{xs:List Int}{x:Int}(h:Ints w v xs) :
  Calls Tryz.prog 95 #[v,.int .i64 x] w fun e w'=>∃z:Int,e = .returned (.int .i64 z)/\decide (0<=z)=decide (x∈xs)/\Below w.heap.size w w':=by
 obtain⟨a,c,b,off,rfl,ha,hc,hl⟩:=h;have hcl:=qH hc;have h0:Hid (x ∉ xs.take 0):=by show ¬_;simp
 obtain⟨B,hB⟩:=exE (decide (x∈xs));rw[hB];replace hB:=qH hB;clear hc;go_enter Tryz.func95, Tryz.ntmps95
 go_wp2_with fail
 go_loopw [8] (fun iv wr=>∃i:Nat,iv = .int .i64 i/\i<=xs.length/\Hid (x ∉ xs.take i)/\Below w.heap.size w wr) (fun iv _=>xs.length - (intOf iv).toNat)
 case atStart=>exact⟨0,rfl,by omega,h0,Below.refl _ _⟩
 case round=>
  clear h0;obtain⟨i,rfl,hi,ht,hbr⟩:=hrel;by_cases hlt:i < xs.length
  ·obtain rfl:=ha (by omega);have hii:(i:Int) < (xs.length:Int):=(by omega);have c0:=cell_kept hbr (hcl.out i hlt);obtain⟨y,hy⟩:=exE (xs.getD i 0);have htk:xs.take (i+1)=xs.take i ++ [y]:=(by rw[take_snoc hlt 0,hy]);have hmem:y∈xs:=(by rw[<-hy,getD_eq hlt];exact List.getElem_mem hlt);rw[hy] at c0;clear hy;by_cases he:x=y
   ·subst he;have hBt:Hid (B=true):=hB.out.symm.trans (decide_eq_true hmem);have hge:decide ((0:Int)<=(i:Int))=true:=decide_eq_true (by omega);clear ht htk hmem;go_wp2;go_ret;exact⟨_,rfl,by rw[hBt.out];exact hge,hbr⟩
   ·have hz:(x == y)=false:=beq_eq_false_iff_ne.2 he
    have ht2:Hid (x ∉ xs.take (i+1)):=by
     show ¬_;rw[htk,List.mem_append,List.mem_singleton];exact fun h=>h.elim ht.out he
    replace he:=qH he;clear ht htk hmem;go_wp2;go_roundw
    case rel=>exact⟨i+1,by go_num,hlt,ht2,hbr⟩
    case measure=>simp[intOf];omega
  ·obtain rfl:i=xs.length:=(by omega);have hBf:Hid (B=false):=hB.out.symm.trans (decide_eq_false (by have:=ht.out;rwa [List.take_length] at this));clear ht;go_wp2;go_ret;exact⟨_,rfl,by rw[hBf.out];rfl,hbr⟩
theorem containsI28 {w:World}{v:Value}{xs:List Int}{x:Int}(h:Ints w v xs) :
  Calls Tryz.prog 47 #[v,.int .i64 x] w fun e w'=>e = .returned (.bool (decide (x∈xs)))/\Below w.heap.size w w':=by
 have HI:=qH (indexI28 (x:=x) h);obtain⟨a,c,rfl⟩:=h.shape;obtain⟨B,hB⟩:=exE (decide (x∈xs));rw[hB] at HI|-;clear h hB;go_enter Tryz.func47, Tryz.ntmps47
 go_wp2_with fail
 refine HI.out.mono ?_;rintro e w3 ⟨z,rfl,hz,hb3⟩;go_wp2;go_ret;exact⟨rfl,hb3⟩
theorem exeL_cases (n:Nat):∀(l:List (Int × List Int × Jb)) (vs:Jb),∀x∈(exeL n vs l).2,∃y∈l,x.1=y.1
 | [],vs,x,hx=>by cases hx
 | y::l,vs,x,hx=>by
  rw[exeL] at hx;rcases List.mem_cons.1 hx with rfl|h
  ·exact⟨y,List.mem_cons_self ..,rfl⟩
  ·obtain⟨z,hz,he⟩:=exeL_cases n l _ x h;exact⟨z,List.mem_cons_of_mem _ hz,he⟩
theorem sys_cases {n:Nat}{cs:List Cs}{ws:Jc}{x:Ex}(h:x∈(sysP n cs ws).2):0<=x.1/\x.1 < (cs.length:Int):=by
 obtain⟨y,hy,he⟩:=exeL_cases n _ _ x h;rw[he];unfold pairsP at hy;simp only[List.mem_flatMap,List.mem_map] at hy;obtain⟨a,ha,b,_,rfl⟩:=hy;have:=(List.mem_zipIdx ha).2.1
 exact⟨Int.natCast_nonneg _,by show((a.2:Nat):Int) < _;omega⟩
theorem lawCovers {w:World}{v:Value}{n i o an r:Int}{cs:List Cs}{ss:Jc}(h:PrV w v n i o cs an ss r) :
  Calls Tryz.prog 9 #[v] w (Yes w):=by
 have hmx : Tryz.prog.follows .mixedOrders=true:=by kernel_rfl
 have HR:=qH (fun W (hb:Below w.heap.size w W)=>refRightC (h.keep hb));have HB:=qH (fun W (hb:Below w.heap.size w W) (hf:fewP n i o cs an ss r=true)=>buildAll (h.keep hb) hf);have hh:=qH h;obtain⟨a,c,a',c',rfl,-,-⟩:=h;obtain⟨W1,hW1⟩:=exF (w.alloc (.cells #[.int .i64 n,.int .i64 i,.int .i64 o,.slice a cs.length c,.int .i64 an,.slice a' ss.length c',.int .i64 r] 29));have hb1:Below w.heap.size w W1:=by rw[hW1];exact(Below.refl _ w).alloc (Nat.le_refl _) _
 have kT:W1.heap[w.heap.size]? = some (.cells #[.int .i64 n,.int .i64 i,.int .i64 o,.slice a cs.length c,.int .i64 an,.slice a' ss.length c',.int .i64 r] 29):=by rw[hW1];exact heap_alloc_new _ _
 have HK:=qH (fun W (hb:Below W1.heap.size W1 W)=>keep7 hb (box7' kT));obtain⟨g0,g1,g2,g3,g4,g5,g6⟩:=HK.out W1 (Below.refl _ _);rw[hW1] at g0 g1 g2 g3 g4 g5 g6;obtain⟨Q,hQ⟩:∃Q,(fewP n i o cs an ss r && decide (bldE n i o cs an ss r=0))=Q:=⟨_,rfl⟩;simp only[hQ] at HR;clear kT;go_enter Tryz.func9, Tryz.ntmps9
 go_wp2_with fail
 rw[<-hW1];replace hW1:=qH hW1;refine(HR.out W1 hb1).mono ?_;rintro e w2 ⟨rfl,hb2⟩;clear g0 g1 g2 g3 g4 g5 g6;cases Q
 ·clear hQ;go_wp2_with fail
  refine(awakeC w2).mono ?_;rintro e w3 ⟨rfl,hb3⟩;have hfin:=btt (btt hb1 hb2) hb3;go_wp2;go_ret;exact⟨rfl,hfin⟩
 rw[Bool.and_eq_true,decide_eq_true_eq] at hQ;obtain⟨hfew,hbld⟩:=hQ;obtain⟨g0,g1,g2,g3,g4,g5,g6⟩:=HK.out w2 hb2;have hb12:=btt hb1 hb2;have HC:=qH (HB.out w2 hb12 hfew)
 have hcl:cs.length<=1000000:=by
  obtain⟨hc0,_⟩:=bldE_zero hbld hfew;have:=(chkT_len (chkP_zero hc0).1).2
  omega
 have hver:=verE_self hbld;have hcas:∀x∈(sysP n.toNat cs (wL ss r.toNat 0)).2,0<=x.1/\x.1 < (cs.length:Int):=fun x hx=>sys_cases hx;obtain⟨vs,hvs⟩:=exE ((sysP n.toNat cs (wL ss r.toNat 0)).1);obtain⟨xs,hxs⟩:=exE ((sysP n.toNat cs (wL ss r.toNat 0)).2);rw[hvs,hxs] at hver;rw[hxs] at hcas;replace hbld:=qH hbld;replace hfew:=qH hfew;replace hver:=qH hver;replace hcas:=qH hcas;go_wp2_with fail
 refine HC.out.mono ?_;rintro e w3 ⟨hO,hb3⟩;rcases hO with⟨hne,-⟩|⟨-,v',rfl,hS⟩
 ·exact absurd hbld.out hne
 rw[hvs,hxs] at hS;replace hvs:=qH hvs;replace hxs:=qH hxs;have hb13:=btt hb12 hb3;obtain⟨-,hn,hr,hr6,hG⟩:=sysG_ver hS hfew.out hver.out;obtain⟨N,hN⟩:=exE (n.toNat);obtain⟨K,hK⟩:=exE (r.toNat);rw[hN] at hn hG;rw[hK] at hr hG hr6;have hn1:=hG.n1;have hn5:=hG.n5;have hxl:=hG.xl;subst hn hr;replace hN:=qH hN;replace hK:=qH hK;have hSh:=qH (fun W (hb:Below w3.heap.size w3 W)=>hS.keep hb);obtain⟨sa,sc,sa',sc',va,vc,xa,xc,rfl,-,-,hX⟩:=hS;obtain⟨W4,hW4⟩:=exF (w3.alloc (.cells #[.int .i64 (N:Int),.int .i64 i,.int .i64 o,.slice sa cs.length sc,.int .i64 an,.slice sa' ss.length sc',.int .i64 (K:Int),.int .i64 (N:Int),.slice va vs.length vc,.slice xa xs.length xc] 35));have hb4:Below w3.heap.size w3 W4:=by rw[hW4];exact(Below.refl _ _).alloc (Nat.le_refl _) _
 have kS:W4.heap[w3.heap.size]? = some (.cells #[.int .i64 (N:Int),.int .i64 i,.int .i64 o,.slice sa cs.length sc,.int .i64 an,.slice sa' ss.length sc',.int .i64 (K:Int),.int .i64 (N:Int),.slice va vs.length vc,.slice xa xs.length xc] 35):=by rw[hW4];exact heap_alloc_new _ _
 have HY:=qH (fun W (hb:Below W4.heap.size W4 W)=>And.intro (keep7 hb (box10' kS).1) (keep3' hb (box10' kS).2));have HX:=qH (fun W (hb:Below w3.heap.size w3 W)=>hX.keep hb);have hCx:=protComplex (hSh.out W4 hb4) hfew.out;rw[hver.out,if_pos rfl,hN.out,hK.out] at hCx;obtain⟨F,hF⟩:=exE (maxX (simsX N K xs (-1)));rw[hF] at hCx;have hFG:CxG F:=by rw[<-hF];exact simsX_cxg hG
 have hFA:AnsG F:=by
  refine⟨by have:=hFG.len;omega,fun s hs=>⟨hFG.vs s hs,(hFG.sm s hs).2.1⟩⟩
 replace hF:=qH hF;replace hCx:=qH hCx;obtain⟨⟨p0,p1,p2,p3,p4,p5,p6⟩,p7,p8,p9⟩:=HY.out W4 (Below.refl _ _);rw[hW4] at p0 p1 p2 p3 p4 p5 p6 p7 p8 p9;clear kS hX g0 g1 g2 g3 g4 g5 g6 HC;go_wp2_with fail
 rw[<-hW4];replace hW4:=qH hW4;clear p0 p1 p2 p3 p4 p5 p6 p7 p8 p9;refine hCx.out.mono ?_;rintro e w5 ⟨v5,rfl,⟨fa,fc,rfl,hO5⟩,hb5⟩;obtain⟨W6,hW6⟩:=exF (w5.alloc (.cells #[.slice fa F.length fc] 57));have hb6:Below w5.heap.size w5 W6:=by rw[hW6];exact(Below.refl _ _).alloc (Nat.le_refl _) _
 have k6:W6.heap[w5.heap.size]? = some (.cells #[.slice fa F.length fc] 57):=by rw[hW6];exact heap_alloc_new _ _
 have hb46:=btt hb5 hb6;have hO6:=hO5.keep EVx.stb hb6;have hFl:∀s∈F,s.length<=1000000:=fun s hs=>by have:=(hFG.sm s hs).2.1;omega
 have hK6:=OwX.kssc hO6 (by have:=hFG.len;omega) hFl;have HC6:=qH (checkCx hK6 hFG);have HF6:=qH (fun W (hb:Below W6.heap.size W6 W)=>And.intro (cell_kept hb (cell_of_one k6)) (hO6.keep EVx.stb hb));have q0:=cell_of_one k6;rw[hW6] at q0;clear k6 hO5 hO6 hK6 hCx;go_wp2_with fail
 rw[<-hW6];replace hW6:=qH hW6;refine HC6.out.mono ?_;rintro e w7 ⟨rfl,hb7⟩;clear q0 HC6;have D7:=btt hb46 hb7;have S7:=btt hb4 D7;have P7:=btt hb2 (btt hb3 S7);obtain⟨W8,hW8⟩:=exF (w7.alloc (.cells #[.slice none 0 0] 57));have hb8:Below w7.heap.size w7 W8:=by rw[hW8];exact(Below.refl _ _).alloc (Nat.le_refl _) _
 have k8:W8.heap[w7.heap.size]? = some (.cells #[.slice none 0 0] 57):=by rw[hW8];exact heap_alloc_new _ _
 obtain⟨U,hU⟩:∃U:Nat->Jc,U=fun q=>maxX (simsLt N K xs q):=⟨_,rfl⟩;have hU0:Hid (U 0 = []):=by show _=_;rw[hU];exact unions_zero fun x hx=>(hcas.out x hx).1
 have hUs:Hid (∀q:Nat,cxP (U q++maxX (simsX N K xs (q:Int)))=U (q+1)):=fun q=>by rw[hU];exact unions_step
 have hUm:Hid (U cs.length=F):=by show _=_;rw[hU,<-hF.out];exact unions_all fun x hx=>(hcas.out x hx).2
 have hUG:Hid (∀q,CxG (U q)):=fun q=>by
  rw[hU];refine maxX_cxg (fun s hs=>?_) (fun s hs h0=>?_) ?_
  ·obtain⟨x,_,_,rfl⟩:=simsLt_mem.1 hs;exact simX_vs
  ·obtain⟨x,hx,_,rfl⟩:=simsLt_mem.1 hs;exact simX_sm (hG.ok x hx) hn5 hG.vl h0
  ·unfold simsLt;rw[List.length_map];exact Nat.le_trans (List.length_filter_le _ _) (by omega)
 obtain⟨g0,g1,g2,g3,g4,g5,g6⟩:=HK.out W8 (btt P7 hb8);rw[hW8] at g3;clear hU g0 g1 g2 g4 g5 g6;go_wp2_with fail
 rw[<-hW8];replace hW8:=qH hW8;clear g3;go_loopw [61] (fun iv wr=>∃q:Nat,iv = .int .i64 q/\q<=cs.length/\(∃ua uc,wr.heap[w7.heap.size]? = some (.cells #[.slice ua (U q).length uc] 57)/\OwX 38 1 EVx wr 0 (.slice ua (U q).length uc) (U q).length (U q))/\Below w7.heap.size w7 wr) (fun iv _=>cs.length - (intOf iv).toNat)
 case atStart=>exact⟨0,rfl,by omega,⟨none,0,by rw[hU0.out];exact k8,by rw[hU0.out];exact OwX.nil _ _⟩,hb8⟩
 case round=>
  clear k8;obtain⟨q,rfl,hq,⟨ua,uc,ku,hOu⟩,hbr⟩:=hrel;obtain⟨wo,hwo⟩:=exF (wr);subst hwo;by_cases hlt:q < cs.length
  ·have hCa:=protCase (idx:=(q:Int)) (hSh.out wo (btt S7 hbr)) hfew.out;have hca0:casE 0 (q:Int) cs.length=0:=(by unfold casE;rw[if_neg (fun h=>h rfl),if_neg (by omega)]);rw[hver.out,hca0,if_pos rfl,hN.out,hK.out] at hCa;have hus:=hUs.out q;have hDG:CxG (maxX (simsX N K xs (q:Int))):=simsX_cxg hG;obtain⟨D,hD⟩:=exE (maxX (simsX N K xs (q:Int)));rw[hD] at hCa hus hDG;replace hCa:=qH hCa;obtain⟨⟨p0,p1,p2,p3,p4,p5,p6⟩,p7,p8,p9⟩:=HY.out wo (btt D7 hbr);have hqi:(q:Int) < (cs.length:Int):=(by omega);clear hD hca0;go_wp2_with fail
   refine hCa.out.mono ?_;rintro e w9 ⟨v9,rfl,⟨da,dc,rfl,hOd⟩,hb9⟩;clear p0 p1 p2 p3 p4 p5 p6 p7 p8 p9;obtain⟨Wa,hWa⟩:=exF (w9.alloc (.cells #[.slice da D.length dc] 57));have hba:Below w9.heap.size w9 Wa:=(by rw[hWa];exact(Below.refl _ _).alloc (Nat.le_refl _) _);have ka:Wa.heap[w9.heap.size]? = some (.cells #[.slice da D.length dc] 57):=(by rw[hWa];exact heap_alloc_new _ _);have hb9a:=btt hb9 hba;have kua:=keptO hb9a ku;have HUn:=unionCx (w:=Wa) ⟨_,_,rfl,hOu.keep EVx.stb hb9a⟩ ⟨_,_,rfl,hOd.keep EVx.stb hba⟩ (hUG.out q) hDG;rw[hus] at HUn;replace HUn:=qH HUn;have q7:=cell_of_one kua;have q9:=cell_of_one ka;rw[hWa] at q7 q9;clear ku hOu hOd ka hCa hus hDG;go_wp2_with fail
   rw[<-hWa];replace hWa:=qH hWa;refine HUn.out.mono ?_;rintro e wb ⟨vb,rfl,⟨ba,bc,rfl,hOb⟩,hbb⟩;clear q7 q9 HUn;obtain⟨Wc,hWc⟩:=exF (wb.alloc (.cells #[.slice ba (U (q+1)).length bc] 57));have hbc:Below wb.heap.size wb Wc:=(by rw[hWc];exact(Below.refl _ _).alloc (Nat.le_refl _) _);have kc:Wc.heap[wb.heap.size]? = some (.cells #[.slice ba (U (q+1)).length bc] 57):=(by rw[hWc];exact heap_alloc_new _ _);have hbbc:=btt hbb hbc;have q11:=cell_of_one kc;obtain⟨z7,f7,m7,hend⟩:=endCx (w:=w7) (keptO hbbc kua) (hOb.keep EVx.stb hbc) (btt hbr (btt hb9a hbbc)) (Nat.le_refl _);rw[hWc] at q11 z7 f7;replace m7:=qH m7;clear kua hOb kc;go_wp2_with fail
   rw[<-hWc];replace hWc:=qH hWc;go_roundw
   case rel=>
    obtain⟨⟨a1,c1,he,hO1⟩,hb1'⟩:=hend.out;refine⟨q+1,by go_num,hlt,⟨ba,bc,m7.out,?_⟩,hb1'⟩;cases he;exact hO1
   case measure=>simp[intOf];omega
  ·obtain rfl:q=cs.length:=(by omega);have D8:=btt D7 hbr;have S8:=btt S7 hbr;have P8:=btt P7 hbr;have HUo:=qH (fun W (hb:Below wo.heap.size wo W)=>And.intro (cell_of_one (keptO hb ku)) (hOu.keep EVx.stb hb));have HF8:=qH (fun W (hb:Below wo.heap.size wo W)=>HF6.out W (btt hb7 (btt hbr hb)));obtain⟨⟨p0,p1,p2,p3,p4,p5,p6⟩,p7,p8,p9⟩:=HY.out wo D8;clear p0 p1 p2 p3 p4 p5 p6 p7 p8 ku hOu;go_wp2_with fail
   clear p9;go_loopw [87] (fun iv wr=>∃j:Nat,iv = .int .i64 j/\j<=xs.length/\Below wo.heap.size wo wr) (fun iv _=>xs.length - (intOf iv).toNat)
   case atStart=>exact⟨0,rfl,by omega,Below.refl _ _⟩
   case round=>
    obtain⟨j,rfl,hj,hbj⟩:=hrel;obtain⟨wj,hwj⟩:=exF (wr);subst hwj;by_cases hlt:j < xs.length
    ·obtain⟨xb,xo,rfl,hXC⟩:=(HX.out wj (btt S8 hbj)).at (by omega);obtain⟨u1,u2,q0,q1,q2,k1,k2⟩:=hXC j hlt;have hmem:xs.getD j exNil∈xs:=(by rw[getD_eq hlt];exact List.getElem_mem _);have gx:=hG.ex _ hmem;have ox:=hG.ok _ hmem;have hcx:=hcas.out _ hmem;have HC1:=fun W (hb:Below wj.heap.size wj W)=>protSimplexG (hSh.out W (btt S8 (btt hbj hb))) hfew.out hver.out hlt;have HC2:=fun W (hb:Below wj.heap.size wj W)=>execObliged (hSh.out W (btt S8 (btt hbj hb))) hfew.out hver.out hlt;obtain⟨x,hx⟩:=exE (xs.getD j exNil);rw[hx] at gx ox hcx q0 hmem k1 k2;obtain⟨wa,wc,rfl⟩:=k1.shape;obtain⟨ya,yc,rfl⟩:=k2.shape;simp only[hx,hN.out,hK.out] at HC1 HC2;have hz0:=simX_zero (K:=K) (x:=x) hn1 hn5 gx.f0 gx.f1;have hcol:=simX_colM (K:=K) (x:=x) hn1 hn5 gx.f0 gx.f1;have hhas:=fun h0=>csL_has (N:=N) (K:=K) hmem hcx.1 hcx.2 h0;have hchk:=fun(h0:0 < (simX N K x).length)=>chkS_zero (simX_sm ox hn5 hG.vl h0);have hchr:=fun j=>@simX_chr N K x j;have hcb:=fun j=>@simX_col N K x j;obtain⟨s,hs⟩:=exE (simX N K x);obtain⟨M,hM⟩:=exE (mskX N x);simp only[hs,hM] at HC1 HC2 hz0 hcol hhas hchk hchr hcb;obtain⟨z,hz⟩:∃z,(if s.length=0 then (16:Int) else 0)=z:=⟨_,rfl⟩;simp only[hz] at HC1;obtain⟨We,hWe⟩:=exF (wj.alloc (.cells #[.int .i64 x.1,.slice wa x.2.1.length wc,.slice ya x.2.2.length yc] 80));have hbe:Below wj.heap.size wj We:=(by rw[hWe];exact(Below.refl _ _).alloc (Nat.le_refl _) _);have ke:We.heap[wj.heap.size]? = some (.cells #[.int .i64 x.1,.slice wa x.2.1.length wc,.slice ya x.2.2.length yc] 80):=(by rw[hWe];exact heap_alloc_new _ _);have HQ:=qH (fun W (hb:Below We.heap.size We W)=>(box3' (keptO hb ke)).1);obtain⟨⟨p0,p1,p2,p3,p4,p5,p6⟩,p7,p8,p9⟩:=HY.out We (btt D8 (btt hbj hbe));rw[hWe] at p0 p1 p2 p3 p4 p5 p6 p7 p8 p9;have hji:(j:Int) < (xs.length:Int):=(by omega);replace HC1:=qH HC1;replace HC2:=qH HC2;replace hhas:=qH hhas;replace hchk:=qH hchk;replace hchr:=qH hchr;replace hcb:=qH hcb;replace hcol:=qH hcol;replace hz0:=qH hz0;replace hz:=qH hz;clear ke k1 k2 hXC gx ox hcx hmem hx hs hM;have hC:=qH (HC1.out We hbe);go_wp2_with fail
     rw[<-hWe];replace hWe:=qH hWe;clear p0 p1 p2 p3 p4 p5 p6 p7 p8 p9;refine hC.out.mono ?_;rintro e wf ⟨vf,rfl,hKf,hbf⟩;obtain⟨la,lc,rfl⟩:=hKf.shape;have Ef:=btt hbe hbf;obtain⟨⟨p0,p1,p2,p3,p4,p5,p6⟩,p7,p8,p9⟩:=HY.out wf (btt D8 (btt hbj Ef));have hC:=qH (HC2.out wf Ef);clear q0 q1 q2;go_wp2_with fail
     refine hC.out.mono ?_;rintro e wg ⟨rfl,hbg⟩;clear p0 p1 p2 p3 p4 p5 p6 p7 p8 p9 hC;have Eg:=btt Ef hbg;have hKg:=hKf.keep hbg;by_cases hM0:M=0
     ·have hs0:=hz0.out.2 hM0;have hz1:=hz.out;rw[if_pos hs0] at hz1;subst hM0 hz1;clear hKf hKg hs0;go_wp2_with fail
      go_roundw
      case rel=>exact⟨j+1,by go_num,hlt,btt hbj Eg⟩
      case measure=>simp[intOf];omega
     ·have hs1:0 < s.length:=by
       rcases Nat.eq_zero_or_pos s.length with h|h
       ·exact absurd (hz0.out.1 h) hM0
       ·exact h
      have hz1:=hz.out;rw[if_neg (by omega)] at hz1;subst hz1;have hMz:(M == 0)=false:=beq_eq_false_iff_ne.2 hM0;have hck:=hchk.out hs1;have hmemc:=hhas.out hs1;obtain⟨⟨p0,p1,p2,p3,p4,p5,p6⟩,p7,p8,p9⟩:=HY.out wg (btt D8 (btt hbj Eg));have hC3:=protCases (hSh.out wg (btt S8 (btt hbj Eg))) hKg hfew.out hcl;rw[hver.out] at hC3;have hce:csE 0 s=0:=(by unfold csE;rw[if_neg (fun h=>h rfl)];exact hck);rw[hce,if_pos rfl,hN.out,hK.out] at hC3;replace hC3:=qH hC3;replace hM0:=qH hM0;clear hKf hce;go_wp2_with fail
      refine hC3.out.mono ?_;rintro e wh ⟨vh,rfl,hI,hbh⟩;clear p0 p1 p2 p3 p4 p5 p6 p7 p8 p9 hC3;obtain⟨ia,ic,rfl⟩:=hI.shape;have hKh:=hKg.keep hbh;have hC4:=qH (chromC hKh hck hs1 (fun j hj=>hchr.out j hj));obtain⟨cl,hcl2⟩:=exE ((csL N K xs s cs.length).length);obtain⟨CL,hCL⟩:=exE (csL N K xs s cs.length);rw[hCL] at hI hmemc hcl2|-;replace hCL:=qH hCL;rw[hcl2] at hI|-;go_wp2_with fail
      refine hC4.out.mono ?_;rintro e wi ⟨rfl,hbi⟩;have hKi:=hKh.keep hbi;have hC5:=colorsC hKi hck hs1 (fun j hj=>⟨(hcb.out j hj).1,by have:=(hcb.out j hj).2;omega⟩);rw[hcol.out] at hC5;replace hC5:=qH hC5;clear hC4 hKh hKg;go_wp2_with fail
      refine hC5.out.mono ?_;rintro e wk ⟨rfl,hbk⟩;have Ek:=btt hbg (btt hbh (btt hbi hbk));have hIk:=hI.keep (btt hbi hbk);have q0:=HQ.out wk (btt hbf Ek);have hC6:=containsI28 (x:=x.1) hIk;rw[decide_eq_true hmemc] at hC6;replace hC6:=qH hC6;replace hmemc:=qH hmemc;clear hC5 hKi hI;go_wp2_with fail
      refine hC6.out.mono ?_;rintro e wl ⟨rfl,hbl⟩;clear hC6 hIk;go_wp2_with fail
      go_roundw
      case rel=>exact⟨j+1,by go_num,hlt,btt hbj (btt Ef (btt Ek hbl))⟩
      case measure=>simp[intOf];omega
    ·obtain rfl:j=xs.length:=(by omega);have Dj:=btt D8 hbj;have Sj:=btt S8 hbj;obtain⟨q5,hOF⟩:=HF8.out wj hbj;have hCv:=qH (verticesCx (w:=wj) ⟨_,_,rfl,hOF⟩ hFG)
     have hlab:Hid (sortL28 ((ptsX F).map fun v=>v.getD 1 0)=relL N K vs.length xs):=by
      show _=_;rw[<-hF.out];exact labels_rel hG
     have hvl:=hG.vl
     have hpl:(ptsX F).length<=100000:=by
      have h1:=congrArg List.length hlab.out;rw[sortL28_len,List.length_map] at h1;have h2:=relN_len (ys:=yesY N K vs.length xs xs.length) vs.length;unfold relL at h1;omega
     have hRe:=fun W (hb:Below w3.heap.size w3 W)=>relevantAll (hSh.out W hb) hfew.out hver.out;simp only[hN.out,hK.out] at hRe;obtain⟨RL,hRL⟩:=exE (relL N K vs.length xs);simp only[hRL] at hRe hlab
     have hrl:RL.length<=100000:=by
      have h1:=congrArg List.length hlab.out;rw[sortL28_len,List.length_map] at h1;omega
     replace hRe:=qH hRe;replace hRL:=qH hRL;clear hOF;go_wp2_with fail
     refine hCv.out.mono ?_;rintro e wf ⟨uv,rfl,hOv,hbf⟩;obtain⟨pa,pc,rfl⟩:=hOv.shape;have Df:=btt Dj hbf;obtain⟨⟨p0,p1,p2,p3,p4,p5,p6⟩,p7,p8,p9⟩:=HY.out wf Df;have hC:=qH (hRe.out wf (btt Sj hbf));have hKv:=hOv.ks (by omega);clear q5 hCv hOv;obtain⟨P,hP⟩:=exE (ptsX F);rw[hP] at hKv hpl hlab|-;replace hP:=qH hP;go_wp2_with fail
     refine hC.out.mono ?_;rintro e wg ⟨ur,rfl,hOr,hbg⟩;obtain⟨ra,rc,rfl⟩:=hOr.shape;clear p0 p1 p2 p3 p4 p5 p6 p7 p8 p9 hC;have hKg:=qH (fun W (hb:Below wg.heap.size wg W)=>hKv.keep (btt hbg hb));have Eg:=btt hbj (btt hbf hbg);go_wp2_with fail
     go_loopw [29,174] (fun ov iv wr=>∃k:Nat,iv = .int .i64 k/\k<=P.length/\OI wr wg.heap.size ov (((P.map fun v=>v.getD 1 0).take k).length) ((P.map fun v=>v.getD 1 0).take k)/\Below wg.heap.size wg wr) (fun _ iv _=>P.length - (intOf iv).toNat)
     case atStart=>exact⟨0,rfl,by omega,OI.nil _ _,Below.refl _ _⟩
     case round=>
      obtain⟨k,rfl,hk,hOo,hbk⟩:=hrel;obtain⟨wk,hwk⟩:=exF (wr);subst hwk;obtain⟨oa,oc,rfl⟩:=hOo.shape;by_cases hkl:k < P.length
      ·obtain⟨va1,vc1,vb1,vo1,hve,hva1,hvc1,-⟩:=hKg.out wk hbk;obtain⟨e1,e2⟩:pa=va1/\pc=vc1:=(by cases hve;exact⟨rfl,rfl⟩);subst e1 e2;obtain rfl:=hva1 (by omega);obtain⟨x2,xi⟩:=hvc1 k hkl
       have hsn:(P.map fun v=>v.getD 1 0).take (k+1)=(P.map fun v=>v.getD 1 0).take k ++ [(P.getD k []).getD 1 0]:=by
        rw[take_snoc (by rw[List.length_map];exact hkl) 0];congr 2
        rw[getD_eq (by rw[List.length_map];exact hkl),getD_eq hkl,List.getElem_map]
       obtain⟨y,hy⟩:=exE (P.getD k []);rw[hy] at x2 xi hsn;obtain⟨c1,l1,rfl⟩:=two x2;obtain⟨z0,z1⟩:=xi.all2;have hsn':(P.map fun v=>v.getD 1 0).take (k+1)=(P.map fun v=>v.getD 1 0).take k ++ [l1]:=hsn;have hki:(k:Int) < (P.length:Int):=(by omega);have htl:((P.map fun v=>v.getD 1 0).take k).length<=100000:=(by rw[List.length_take,List.length_map];omega);obtain⟨TK,hTK⟩:∃TK,(P.map fun v=>v.getD 1 0).take k=TK:=⟨_,rfl⟩;rw[hTK] at hOo hsn' htl|-;replace hsn':=qH hsn';obtain⟨Wv,hWv⟩:=exF (wk.alloc (.cells #[.int .i64 c1,.int .i64 l1] 83));have hba:Below wk.heap.size wk Wv:=(by rw[hWv];exact(Below.refl _ _).alloc (Nat.le_refl _) _);have kv:Wv.heap[wk.heap.size]? = some (.cells #[.int .i64 c1,.int .i64 l1] 83):=(by rw[hWv];exact heap_alloc_new _ _);obtain⟨y0,y1⟩:=boxL2 kv;have hOa:=hOo.keep hba;have hbka:=btt hbk hba;have hsz:=hbka.size;clear hve hva1 hvc1 x2 xi hsn hy hTK hOo kv;go_upto_region 37 with fail
       rw[<-hWv];replace hWv:=qH hWv;go_wp2_with (at_builtin;refine wpAppI rfl _ _ rfl rfl hOa rfl (by omega) hsz ?_)
       intro v6 w6 hO6 hg6 hb6
       have hN6:Hid (OI w6 wg.heap.size v6 ((P.map fun v=>v.getD 1 0).take (k+1)).length ((P.map fun v=>v.getD 1 0).take (k+1))):=by
        show OI _ _ _ _ _;rw[hsn'.out,List.length_append];exact hO6
       have hbr6:=hbka.trans hb6;clear hO6 hg6 hb6 hOa;go_wp2_with fail
       go_roundw
       case rel=>exact⟨k+1,by go_num,hkl,hN6.out,hbr6⟩
       case measure=>simp[intOf];omega
      ·obtain rfl:k=P.length:=(by omega);have htk:(P.map fun v=>v.getD 1 0).take P.length=P.map fun v=>v.getD 1 0:=List.take_of_length_le (by rw[List.length_map];exact Nat.le_refl _);rw[htk] at hOo|-;obtain⟨LB,hLB⟩:∃LB,(P.map fun v=>v.getD 1 0)=LB:=⟨_,rfl⟩;have hll:LB.length<=100000:=(by rw[<-hLB,List.length_map];exact hpl);rw[hLB] at hOo hlab|-;have hSo:=qH (sortI28A hOo (by omega));clear htk hLB hOo;go_wp2_with fail
       refine hSo.out.mono ?_;rintro e wx ⟨rfl,hOs,hbx⟩;have Gx:=hbk.trans hbx;have Ex:=btt Eg Gx;obtain⟨c7,hU7⟩:=HUo.out wx Ex;rw[hUm.out] at c7 hU7;obtain⟨c5,hF5⟩:=HF8.out wx Ex;have hFlen:F.length<=1000000:=(by have:=hFG.len;omega);have hC:=qH (sameCxT (OwX.kssc hU7 hFlen hFl).kss (OwX.kssc hF5 hFlen hFl).kss hFA);rw[hlab.out] at hOs;have hIs:=OI.intsE hOs (by omega);have hIr:=OI.intsE (hOr.keep Gx) (by omega);have hlr:Hid (LB.length=RL.length):=(by show _=_;rw[<-hlab.out,sortL28_len]);clear hSo hU7 hF5 hOs;go_wp2_with fail
       refine hC.out.mono ?_;rintro e wy ⟨rfl,hby⟩;clear hC c7 c5;have hE:=eqInts (hIs.keep hby) (hIr.keep hby);rw[decide_eq_true (rfl:RL=RL)] at hE;replace hE:=qH hE;clear hIs hIr;go_wp2_with fail
       refine hE.out.mono ?_;rintro e wz ⟨rfl,hqz⟩;have hbz:=hqz.below;clear hE;go_wp2_with fail
       refine(awakeC wz).mono ?_;rintro e wq ⟨rfl,hbq⟩;have hfin:=btt hb1 (btt P8 (btt Ex (btt hby (btt hbz hbq))));go_wp2;go_ret;exact⟨rfl,hfin⟩
end Go.Proofs.YtcnedkkcgdkioaaGreat
