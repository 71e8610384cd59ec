/- Texts of this claim, put together: G2 G3 AP S0 V0 V1 TH. -/
import Derived.Deep.RegionHeld3
import Derived.Deep.DeepCutAuto
import Derived.Deep.AppendLies
import Derived.Test.YtcnedkkcgdkioaaGreatKSi

set_option maxRecDepth 100000
set_option maxHeartbeats 12800000
namespace Go.Proofs.YtcnedkkcgdkioaaGreat
open Go.RowKit
section
variable {κ:Type} [DecidableEq κ]
end
theorem OI.form {w:World}{B:Nat}{v:Value}{n:Nat}{xs:List Int}(h:OI w B v n xs) (hn:0 < n):∃g cap,v = .slice (some ⟨g,0,none⟩) n cap/\B<=g:=by
 have hl:=h.length;rcases h.2 with⟨rfl,h'⟩|⟨g,cap,cur,h1,h2,_⟩
 ·omega
 ·exact⟨g,cap,h1,h2⟩
end Go.Proofs.YtcnedkkcgdkioaaGreat
namespace Go.Proofs.YtcnedkkcgdkioaaGreat
open Go.RowKit
theorem LeadOK.ofCls {ss:Jc}(h:ClsOK ss):LeadOK ss:=fun s hs m hm=>((h.2.2.2 s hs).2 m hm).2.2
end Go.Proofs.YtcnedkkcgdkioaaGreat
namespace Go.Proofs.YtcnedkkcgdkioaaGreat
open Go.RowKit
def NewAt (w:World) (v v':Value):Prop:=v'.ownBlock=v.ownBlock\/v'.ownBlock=some w.heap.size
section
variable {α:Type} {E:TypeId} {k:Nat} {El:World->List Value->α->Prop} {B n:Nat} {v:Value} {xs:List α}
theorem run_appX {P:Program}{T ty:TypeId}{z:Value}{bytes:Nat}(hE:ElemK P T E z k bytes) (hby:bytes<=128) (hk:0 < k) (hS:Stab E El) {w:World}{cs:List Value}{x:α}
  (hown:OwX E k El w B v n xs) (ad:Addr) (c:Nat) (hcs:cs.length=k) (hnews:∀j u,cs[j]? = some u->w.cell? (ad.add j)=some u) (hc1:∀u∈cs,u.oneCell'=true) (hEl:El w cs x) (hn:n<=1000000000000) (hB:B<=w.heap.size) :
  ∃v' w',(Builtin.append_ #[T,T] ty #[v,.slice (some ad) 1 c]).run P w = .ok v' w'/\OwX E k El w' B v' (n+1) (xs ++ [x])/\w.grownBy w' v.ownBlock/\NewAt w v v'/\Below B w w'/\KeepX E w w':=by
 obtain⟨i0,hi,hz0,hz1,hz2⟩:=info_parts hE.2.1;obtain⟨vs,k1,k2,k3,k4⟩:=hown;have hvl:vs.length=n * k:=k1.1
 have hbd:(n+1) * bytes<=140737488355328:=by
  have:(n+1) * bytes<=1000000000001 * 128:=Nat.mul_le_mul (by omega) hby
  omega
 obtain⟨v',w',hr,h1,hg,_,h5⟩:=run_append_own_at (P:=P) w B T ty E i0 z k bytes hE.1 hi hz0 hz1 hz2 hE.2.2 hk v n vs k1 ad 1 c cs (by simpa using hcs) hnews hc1 (by unfold maxLen;omega) hbd hB;have hX:KeepX E w w':=KeepX.own k1 hg;refine⟨v',w',hr,⟨vs++cs,h1,by simp[k2],?_,fun j x' hj=>?_⟩,hg,h5,(Below.refl B w).grown hg hB (fun k hk=>(k1.lt k hk).1),hX⟩
 ·intro u hu;rcases List.mem_append.1 hu with hu|hu
  ·exact k3 u hu
  ·exact hc1 u hu
 ·by_cases hjn:j < n
  ·rw[List.getElem?_append_left (by omega)] at hj;have hle:j * k+k<=n * k:=(by rw[<-Nat.succ_mul];exact Nat.mul_le_mul_right _ hjn);rw[List.drop_append_of_le_length (by omega),List.take_append_of_le_length (by rw[List.length_drop];omega)];exact hS _ _ _ _ (k4 j x' hj) hX
  ·rw[List.getElem?_append_right (by omega)] at hj
   have hj0:j - xs.length=0:=by
    have:=(List.getElem?_eq_some_iff.1 hj).1
    simpa using this
   rw[hj0] at hj;simp only[List.getElem?_cons_zero,Option.some.injEq] at hj;subst hj;obtain rfl:j=n:=(by omega);rw[<-hvl,List.drop_left,List.take_of_length_le (by omega)];exact hS _ _ _ _ hEl hX
theorem wp_appX {P:Program}{T:TypeId}{z:Value}{bytes:Nat}(hE:ElemK P T E z k bytes) (hby:bytes<=128) (hk:0 < k) (hS:Stab E El) {w:World}{cs:List Value}{x:α}{o:Oper}{a:Act}{K:Act->World->Prop}{Q:Exit->Act->World->Prop}(s y:Operand)
  (ho:o.op = .call { callee:=.builtin .append,args:=#[s,y],argTypes:=#[T,T] }) (hs:a.eval s=v) (hown:OwX E k El w B v n xs) (ad:Addr) (c:Nat) (hx:a.eval y = .slice (some ad) 1 c) (hcs:cs.length=k)
  (hnews:∀j u,cs[j]? = some u->w.cell? (ad.add j)=some u) (hc1:∀u∈cs,u.oneCell'=true) (hEl:El w cs x) (hn:n<=1000000000000) (hB:B<=w.heap.size)
  (h:∀v' w',OwX E k El w' B v' (n+1) (xs ++ [x])->w.grownBy w' v.ownBlock->NewAt w v v'->Below B w w'->KeepX E w w'->K (a.put o.dst v') w'):o.wp P a w K Q:=by
 obtain⟨v',w',hr,h2,h3,h4,h5,h6⟩:=run_appX (P:=P) (ty:=o.type) hE hby hk hS hown ad c hcs hnews hc1 hEl hn hB;unfold Oper.wp execOp;simp only[ho,resolve,invoke,builtin,Sem.run_bind,Sem.run_pure,Result.andThen_ok,List.map_toArray,List.map_cons,List.map_nil,hs,hx,hr];exact h v' w' h2 h3 h4 h5 h6
theorem step_appX {P:Program}{T:TypeId}{z:Value}{bytes:Nat}(hE:ElemK P T E z k bytes) (hby:bytes<=128) (hk:0 < k) (hS:Stab E El) {w:World}{cs:List Value}{x:α}{ops:Array Oper}{o:Oper}{a:Act}{K:Act->World->Prop}{Q:Exit->Act->World->Prop}{R:Prop}(hgd:o.guard=none) (s y:Operand)
  (ho:o.op = .call { callee:=.builtin .append,args:=#[s,y],argTypes:=#[T,T] }) (hs:a.eval s=v) (hown:OwX E k El w B v n xs) (ad:Addr) (c:Nat) (hx:a.eval y = .slice (some ad) 1 c) (hcs:cs.length=k)
  (hnews:∀j u,cs[j]? = some u->w.cell? (ad.add j)=some u) (hc1:∀u∈cs,u.oneCell'=true) (hEl:El w cs x) (hn:n<=1000000000000) (hB:B<=w.heap.size)
  (h:∀v' w',OwX E k El w' B v' (n+1) (xs ++ [x])->w.grownBy w' v.ownBlock->NewAt w v v'->Below B w w'->KeepX E w w'->K (a.put o.dst v') w') :
  if Region.wanted o (yielded ops a.tmps)=true then Oper.wp P o a w K Q else R:=by
 rw[if_pos (by simp[Region.wanted,hgd])];exact wp_appX hE hby hk hS s y ho hs hown ad c hx hcs hnews hc1 hEl hn hB h
end
def E1I (_:World) (cs:List Value) (x:Int):Prop:=cs = [.int .i64 x]
theorem E1I.stab (E:TypeId):Stab E E1I:=fun _ _ _ _ h _=>h
theorem elemInt1:ElemK Tryz.prog 48 3 (.int .i64 0) 1 8:=⟨by kernel_rfl,by kernel_rfl,rfl⟩
theorem OI.owx {w:World}{B:Nat}{v:Value}{n:Nat}{xs:List Int}(h:OI w B v n xs):OwX 3 1 E1I w B v n xs:=by
 refine⟨xs.map (Value.int .i64),h,h.length,fun u hu=>?_,fun j x hj=>?_⟩
 ·obtain⟨x,_,rfl⟩:=List.mem_map.1 hu;rfl
 ·show _=_;rw[Nat.mul_one,<-List.map_drop,<-List.map_take];have hlt:=(List.getElem?_eq_some_iff.1 hj).1;have hx:xs[j]=x:=(List.getElem?_eq_some_iff.1 hj).2;rw[List.drop_eq_getElem_cons hlt,hx];rfl
theorem OwX.oi {w:World}{B:Nat}{v:Value}{n:Nat}{xs:List Int}(h:OwX 3 1 E1I w B v n xs):OI w B v n xs:=by
 obtain⟨vs,h1,h2,_,h4⟩:=h
 have:vs=xs.map (Value.int .i64):=by
  have hl:vs.length=n:=by have:=h1.1;simpa using this
  refine List.ext_getElem (by simp;omega) fun j hj1 hj2=>?_;have hjx:j < xs.length:=by simpa using hj2
  have:=h4 j xs[j] (List.getElem?_eq_getElem hjx)
  have e:((vs.drop (j * 1)).take 1) = [Value.int .i64 xs[j]]:=this;rw[Nat.mul_one,List.drop_eq_getElem_cons hj1,List.take_succ_cons,List.take_zero] at e;rw[List.getElem_map];exact(List.cons.inj e).1
 subst this;exact h1
theorem OI.other {w w':World}{E:TypeId}{B:Nat}{v:Value}{n:Nat}{xs:List Int}(h:OI w B v n xs) (hne:3 ≠ E) (hx:KeepX E w w'):OI w' B v n xs:=ownsRow_X h hne hx
def Apart (u v:Value):Prop:=∀a b,u.ownBlock=some a->v.ownBlock=some b->a ≠ b
theorem Apart.symm {u v:Value}(h:Apart u v):Apart v u:=fun a b ha hb e=>h b a hb ha e.symm
def Two (B:Nat) (wr:World) (m:Nat) (xs ys:List Int) (u v:Value) (wx:World):Prop:=OI wx B u m xs/\OI wx B v m ys/\Apart u v/\KeepX 3 wr wx/\Below B wr wx
end Go.Proofs.YtcnedkkcgdkioaaGreat
namespace Go.Proofs.YtcnedkkcgdkioaaGreat
open Go.RowKit
def OBs (w:World) (B:Nat) (v:Value) (n:Nat) (xs:List Bool):Prop:=w.ownsRow B 4 1 v n (xs.map Value.bool)
theorem OBs.length {w:World}{B:Nat}{v:Value}{n:Nat}{xs:List Bool}(h:OBs w B v n xs):xs.length=n:=by have:=h.1;simpa using this
theorem OBs.keep {w w':World}{B:Nat}{v:Value}{n:Nat}{xs:List Bool}(h:OBs w B v n xs) (hb:Below w.heap.size w w'):OBs w' B v n xs:=by
 refine⟨h.1,?_⟩;rcases h.2 with h'|⟨g,cap,cur,h1,h2,h3,h4⟩
 ·exact .inl h'
 ·exact .inr ⟨g,cap,cur,h1,h2,(hb.block g (Array.getElem?_eq_some_iff.1 h3).1).trans h3,h4⟩
theorem OBs.store {w:World}{B g n cap:Nat}{xs:List Bool}(h:OBs w B (.slice (some ⟨g,0,none⟩) n cap) n xs) (j:Nat) (y:Bool) :
  OBs (w.setCell ⟨g,j,none⟩ (.bool y)) B (.slice (some ⟨g,0,none⟩) n cap) n (xs.set j y):=by
 have:=(World.ownsRow.stored h j (.bool y)).1
 unfold OBs;rw[List.map_set];exact this
theorem OBs.cell {w:World}{B g n cap:Nat}{xs:List Bool}(h:OBs w B (.slice (some ⟨g,0,none⟩) n cap) n xs) {j:Nat}(hj:j < n):w.cell? ⟨g,j,none⟩=some (.bool (xs.getD j false)):=by
 have hl:=h.length;rw[World.ownsRow.cellAt h j (by omega)];simp[show j < xs.length by omega]
theorem OBs.free {w:World}{B g n cap:Nat}{xs:List Bool}(h:OBs w B (.slice (some ⟨g,0,none⟩) n cap) n xs) (j:Nat):w.frozen? ⟨g,j,none⟩=false:=World.ownsRow.frozenAt h j
def stM (L:Nat) (prev:List Nat) (ms:Jb):Nat:=ms.foldl (fun acc m=>min (acc+prev.getD (mvTo m) 0) L) 0
def numL (ss:Jc) (L:Nat):Nat->List Nat
 | 0=>List.replicate ss.length 1
 | k+1=>ss.map (stM L (numL ss L k))
theorem numL_len (ss:Jc) (L:Nat):∀k,(numL ss L k).length=ss.length
 | 0=>by simp[numL]
 | k+1=>by simp[numL]
def cnt (ss:Jc):Nat->Nat->Nat
 | 0,_=>1
 | k+1,s=>((ss.getD s []).map fun m=>cnt ss k (mvTo m)).sum
theorem fold_min (L:Nat) (f g:List Int->Nat):∀(ms:Jb) (a:Nat),(∀m∈ms,g m=min (f m) L)->ms.foldl (fun acc m=>min (acc+g m) L) (min a L)=min (a+(ms.map f).sum) L
 | [],a,_=>by simp
 | m::r,a,h=>by
  rw[List.foldl_cons,h m (by simp),List.map_cons,List.sum_cons];have:=fold_min L f g r (a+f m) (fun x hx=>h x (by simp[hx]))
  rw[show min (min a L+min (f m) L) L=min (a+f m) L by omega,this,Nat.add_assoc]
theorem numL_cnt {ss:Jc}(hM:LeadOK ss) {L:Nat}(hL:1<=L):∀(k s:Nat),s < ss.length->(numL ss L k).getD s 0=min (cnt ss k s) L
 | 0,s,hs=>by
  rw[numL,cnt,List.getD_eq_getElem?_getD,List.getElem?_replicate,if_pos hs];simp;omega
 | k+1,s,hs=>by
  rw[numL,cnt,List.getD_eq_getElem?_getD,List.getElem?_map,List.getElem?_eq_getElem hs,Option.map_some,Option.getD_some,stM];have h1:ss.getD s []=ss[s]:=getD_eq hs [];rw[h1]
  have h2:=fold_min L (fun m=>cnt ss k (mvTo m)) (fun m=>(numL ss L k).getD (mvTo m) 0) ss[s] 0 (fun m hm=>by
   have h3:=hM _ (List.getElem_mem hs) m hm;have h4:mvTo m < ss.length:=(by unfold mvTo;omega);exact numL_cnt hM hL k (mvTo m) h4)
  rw[Nat.zero_add,Nat.zero_min] at h2;exact h2
theorem stM_le (L:Nat) (prev:List Nat) (ms:Jb):stM L prev ms<=L:=by
 have h:∀(ms:Jb) (a:Nat),a<=L->ms.foldl (fun acc m=>min (acc+prev.getD (mvTo m) 0) L) a<=L:=by
  intro ms;induction ms with
  | nil=>intro a h;exact h
  | cons m r ih=>intro a _;exact ih _ (Nat.min_le_right _ _)
 exact h ms 0 (Nat.zero_le _)
theorem numL_le (ss:Jc) {L:Nat}(hL:1<=L):∀(k j:Nat),(numL ss L k).getD j 0<=L
 | 0,j=>by rw[numL,List.getD_eq_getElem?_getD,List.getElem?_replicate];split<;>simp<;>omega
 | k+1,j=>by
  rw[numL,List.getD_eq_getElem?_getD,List.getElem?_map];cases ss[j]? with
  | none=>simp
  | some ms=>exact stM_le _ _ _
theorem refNum {w:World}{v:Value}{n:Int}{ss:Jc}(hA:AdvV w v n ss) (hM:LeadOK ss) (h0:0 < ss.length) (hl:ss.length<=90) {k L:Nat}{lim:Int}(hk:k<=100) (hL:lim+1=(L:Int)) (hL1:1<=L) (hL9:L<=1000000) :
  Calls Tryz.prog 169 #[v,.int .i64 (k:Int),.int .i64 lim] w fun e w'=>e = .returned (.int .i64 ((numL ss L k).getD 0 0:Nat))/\Below w.heap.size w w':=by
 obtain⟨sv,rfl,sa,sc,sb,so,rfl,hsa,hsc,_⟩:=hA;obtain rfl:=hsa h0;obtain⟨W1,hW1⟩:=exF (w.alloc (.cells #[.int .i64 n,.slice (some ⟨sb,so,none⟩) ss.length sc] 27));obtain⟨hb1,p0,p1,_⟩:=boxAdv hW1;obtain⟨N,hN⟩:=exE (ss.length);have hwL:IntKind.i64.wrap (lim+1)=(L:Int):=by rw[hL];exact IntWalk.i64_in _ (by omega)
 have hwL2:IntKind.i64.wrap (L:Int)=(L:Int):=IntWalk.i64_in _ (by omega);replace hsc:∀j,j < ss.length->∃u,w.cell? ⟨sb,so+j,none⟩=some u/\KS 8 w u (ss.getD j []):=hsc;rw[hN] at h0 hl p1 hW1 hsc|-;have hnl:OI W1 W1.heap.size (.slice none 0 0) 0 (natI (List.replicate 0 1)):=OI.nil _ _;replace hsc:=qH hsc;replace hN:=qH hN;replace hL:=qH hL
 have hMt:Hid (∀j,j < N->∀m∈ss.getD j [],0<=m.getD 7 0/\m.getD 7 0 < (N:Int)):=fun j hj m hm=>by
  have hjs:j < ss.length:=by rw[hN.out];exact hj
  have:=hM _ (by rw[getD_eq hjs];exact List.getElem_mem hjs) m hm
  rw[hN.out] at this;exact this
 clear hM;obtain⟨Z,hZ⟩:=exE ((numL ss L k).getD 0 0);rw[hZ];replace hZ:=qH hZ;go_enter Tryz.func169, Tryz.ntmps169
 go_wp2_with fail
 rw[<-hW1];replace hW1:=qH hW1;go_loopw [7,8] (fun lv iv wr=>∃i:Nat,iv = .int .i64 i/\i<=N/\OI wr W1.heap.size lv i (natI (List.replicate i 1))/\Below W1.heap.size W1 wr) (fun _ iv _=>N - (intOf iv).toNat)
 case atStart=>exact⟨0,rfl,by omega,hnl,Below.refl _ _⟩
 case round=>
  clear hnl;obtain⟨i,rfl,hi,hO,hbr⟩:=hrel;have c1:=cell_kept hbr p1;obtain⟨la,lc,hls⟩:=hO.shape;subst hls;by_cases hlt:i < N
  ·have hii:(i:Int) < (N:Int):=by omega
   have hr1:natI (List.replicate i 1) ++ [(1:Int)]=natI (List.replicate (i+1) 1):=by
    rw[natI,natI,List.replicate_succ',List.map_append];rfl
   replace hr1:=qH hr1;go_wp2_with (at_builtin;refine wpAppI rfl _ _ rfl rfl hO rfl (by omega) hbr.size ?_)
   intro v2 w2 ho2 hg2 hb2;rw[hr1.out] at ho2;have hbf:=hbr.trans hb2;go_wp2;go_roundw
   case rel=>exact⟨i+1,by go_num,hlt,ho2,hbf⟩
   case measure=>simp[intOf];omega
  ·obtain rfl:i=N:=(by omega);have hii : ¬((i:Int) < (i:Int)):=(by omega);have hO0:OI wr W1.heap.size (.slice la i lc) i (natI (numL ss L 0)):=(by rw[numL,hN.out];exact hO);clear hO;go_wp2_with fail
   obtain⟨wa,hwa⟩:=exF (wr);subst hwa;obtain⟨N,hNi⟩:=exE (i);subst hNi;go_loopw [7,9] (fun lv iv wr=>∃j:Nat,iv = .int .i64 j/\j<=k/\OI wr W1.heap.size lv i (natI (numL ss L j))/\Below W1.heap.size W1 wr) (fun _ iv _=>k - (intOf iv).toNat)
   case atStart=>exact⟨0,rfl,by omega,hO0,hbr⟩
   case round=>
    clear hO0 hbr c1;obtain⟨r,rfl,hr,hO,hbr⟩:=hrel;have c1:=cell_kept hbr p1;obtain⟨g,gc,hgs,hgb⟩:=hO.form h0;subst hgs;by_cases hltr:r < k
    ·have hri:(r:Int) < (k:Int):=(by omega);obtain⟨P,hP⟩:=exE (numL ss L r);have hPl:P.length=i:=(by rw[<-hP,numL_len];exact hN.out);have hPb:Hid (∀j,P.getD j 0<=L):=fun j=>by rw[<-hP];exact numL_le ss hL1 r j
     have hQ:Hid (numL ss L (r+1)=ss.map (stM L P)):=(by show _=_;rw[numL,hP]);rw[hP] at hO;obtain⟨wo,hwo⟩:=exF (wr);subst hwo;have hc1:=qH (fun W (hb:Below wo.heap.size wo W)=>cell_kept hb c1);have hcP:=qH (fun W (hb:Below wo.heap.size wo W) q (hq:q < i)=>by have:=cell_kept hb (hO.cell hq);rwa [natI_getD] at this);have hsw:=qH (fun W (hb:Below wo.heap.size wo W) j (hj:j < i)=>let ⟨u,h1,h2⟩:=hsc.out j hj;(⟨u,cell_kept (bt (bt hb1 hbr hb1.size) hb (bt hb1 hbr hb1.size).size) h1,h2.keep (bt (bt hb1 hbr hb1.size) hb (bt hb1 hbr hb1.size).size)⟩:∃u,W.cell? ⟨sb,so+j,none⟩=some u/\KS 8 W u (ss.getD j [])));have hn2:OI wo wo.heap.size (.slice none 0 0) 0 (natI ((ss.map (stM L P)).take 0)):=OI.nil _ _;replace hP:=qH hP;go_wp2_with fail
     go_loopw [10,11] (fun lv jv wr=>∃j:Nat,jv = .int .i64 j/\j<=i/\OI wr wo.heap.size lv j (natI ((ss.map (stM L P)).take j))/\Below wo.heap.size wo wr) (fun _ jv _=>i - (intOf jv).toNat)
     case atStart=>exact⟨0,rfl,by omega,hn2,Below.refl _ _⟩
     case round=>
      clear hn2 hO c1;obtain⟨j,rfl,hj,hO,hbo⟩:=hrel;have c1:=hc1.out wr hbo;obtain⟨la,lc,hls⟩:=hO.shape;subst hls;by_cases hltj:j < i
      ·have hji:(j:Int) < (i:Int):=(by omega);obtain⟨u,hu,hks⟩:=hsw.out wr hbo j hltj;obtain⟨ms,hms⟩:=exE (ss.getD j []);have hmt:=hMt.out j hltj;rw[hms] at hks hmt
       have hst:Hid ((ss.map (stM L P)).take (j+1)=(ss.map (stM L P)).take j ++ [stM L P ms]):=by
        have hjs:j < ss.length:=(by rw[hN.out];exact hltj);show _=_;rw[take_snoc (by rw[List.length_map];exact hjs) 0];congr 1
        rw[List.getD_eq_getElem?_getD,List.getElem?_map,List.getElem?_eq_getElem hjs,Option.map_some,Option.getD_some,<-getD_eq hjs [],hms]
       obtain⟨ma,mc,mb,mo,rfl,hma,hmc,hml⟩:=hks;obtain⟨wj,hwj⟩:=exF (wr);subst hwj;have hz:Hid (stM L P (ms.take 0)=0):=rfl;replace hmt:=qH hmt;replace hms:=qH hms;replace hmc:=qH hmc;go_wp2_with fail
       go_loopw [12,13] (fun av xv wr=>∃x a:Nat,av = .int .i64 a/\xv = .int .i64 x/\x<=ms.length/\a<=L/\Hid (stM L P (ms.take x)=a)/\wr=wj) (fun _ xv _=>ms.length - (intOf xv).toNat)
       case atStart=>exact⟨0,0,rfl,rfl,by omega,by omega,hz,by first|rfl|trivial⟩
       case round=>
        clear hz;obtain⟨x,a,rfl,rfl,hx,haL,hax,rfl⟩:=hrel;by_cases hltx:x < ms.length
        ·have hxi:(x:Int) < (ms.length:Int):=(by omega);obtain rfl:=hma (by omega);obtain⟨hm8,hmk⟩:=hmc.out x hltx;obtain⟨m,hm⟩:=exE (ms.getD x []);have hmr:=hmt.out m (by rw[<-hm,getD_eq hltx];exact List.getElem_mem hltx);rw[hm] at hm8 hmk;obtain⟨y0,y1,y2,y3,y4,y5,y6,y7,rfl⟩:=eight hm8;obtain⟨_,_,_,_,_,_,_,c7⟩:=hmk.all8;obtain⟨q,rfl⟩:∃q:Nat,y7=(q:Int):=⟨y7.toNat,by have:0<=y7:=hmr.1;omega⟩;have hqN:q < i:=(by have:(q:Int) < (i:Int):=hmr.2;omega);have hqi:(q:Int) < (i:Int):=(by omega);have hcq:=hcP.out wr hbo q hqN;obtain⟨b,hb⟩:=exE (P.getD q 0);have hbL:=hPb.out q;rw[hb] at hcq hbL
         have hnx:Hid (stM L P (ms.take (x+1))=min (a+b) L):=by
          show _=_;rw[take_snoc hltx [],hm,stM,List.foldl_append,List.foldl_cons,List.foldl_nil];have h1:(ms.take x).foldl (fun acc m=>min (acc+P.getD (mvTo m) 0) L) 0=a:=hax.out;rw[h1];have h2:mvTo [y0,y1,y2,y3,y4,y5,y6,(q:Int)]=q:=rfl;rw[h2,hb]
         have hws:IntKind.i64.wrap ((a:Int)+(b:Int))=(a:Int)+(b:Int):=IntWalk.i64_in _ (by omega);replace hb:=qH hb;replace hm:=qH hm;clear hax hmk hm8 hmr;by_cases hc:L < a+b
         ·have h1:(L:Int) < (a:Int)+(b:Int):=(by omega);have hn2:Hid (stM L P (ms.take (x+1))=L):=(by show _=_;rw[hnx.out];omega);clear hnx;go_wp2;go_roundw
          case rel=>exact⟨x+1,L,by go_num,by go_num,hltx,by omega,hn2,by first|rfl|trivial⟩
          case measure=>simp[intOf];omega
         ·have h1 : ¬((L:Int) < (a:Int)+(b:Int)):=(by omega);have hn2:Hid (stM L P (ms.take (x+1))=a+b):=(by show _=_;rw[hnx.out];omega);clear hnx;go_wp2;go_roundw
          case rel=>exact⟨x+1,a+b,by go_num,by go_num,hltx,by omega,hn2,by first|rfl|trivial⟩
          case measure=>simp[intOf];omega
        ·obtain rfl:x=ms.length:=(by omega);have hge : ¬((ms.length:Int) < (ms.length:Int)):=(by omega);have hfa:stM L P ms=a:=by have:=hax.out;rwa [List.take_length] at this
         have hst2:natI ((ss.map (stM L P)).take j) ++ [(a:Int)]=natI ((ss.map (stM L P)).take (j+1)):=by
          rw[hst.out,hfa,natI,natI,List.map_append];rfl
         replace hst2:=qH hst2;clear hax hfa;go_wp2_with (at_builtin;refine wpAppI rfl _ _ rfl rfl hO rfl (by omega) hbo.size ?_)
         intro v2 w2 ho2 hg2 hb2;rw[hst2.out] at ho2;have hbf:=hbo.trans hb2;go_wp2;go_roundw
         case rel=>exact⟨j+1,by go_num,hltj,ho2,hbf⟩
         case measure=>simp[intOf];omega
      ·obtain rfl:j=i:=by omega
       have hO2:OI wr W1.heap.size (.slice la j lc) j (natI (numL ss L (r+1))):=by
        have h1:=hO;rw[List.take_of_length_le (by rw[List.length_map,hN.out];exact Nat.le_refl _),<-hQ.out] at h1;exact h1.base hbr.size
       have hbf:=btt hbr hbo;have hge : ¬((j:Int) < (j:Int)):=(by omega);clear hO;go_wp2;go_roundw
       case rel=>exact⟨r+1,by go_num,hltr,hO2,hbf⟩
       case measure=>simp[intOf];omega
    ·obtain rfl:r=k:=(by omega);have hge : ¬((r:Int) < (r:Int)):=(by omega);have hc0:=hO.cell h0;rw[natI_getD] at hc0;have h0i:(0:Int) < (i:Int):=(by omega);rw[hZ.out] at hc0;go_wp2;go_ret;exact⟨rfl,bt hb1 hbr hb1.size⟩
def num (ss:Jc) (L k:Nat):Nat:=(numL ss L k).getD 0 0
theorem few_le {ss:Jc}(h:fewA ss=true):ss.length<=8/\movesN ss<=40:=by simp[fewA] at h;omega
theorem chk_cls {w:World}{v:Value}{n:Int}{ss:Jc}(hA:AdvV w v n ss) (hf:fewA ss=true) (h0:chkA n ss=0):ClsOK ss:=by
 obtain⟨h1,h2⟩:=few_le hf;exact clsOK_of hA.len8 h0 (by omega) (by omega)
theorem refNumG {w:World}{v:Value}{n:Int}{ss:Jc}(hA:AdvV w v n ss) (hO:ClsOK ss) {k L:Nat}{lim:Int}(hk:k<=100) (hL:lim+1=(L:Int)) (hL1:1<=L) (hL9:L<=1000000) :
  Calls Tryz.prog 169 #[v,.int .i64 (k:Int),.int .i64 lim] w fun e w'=>e = .returned (.int .i64 (num ss L k:Nat))/\Below w.heap.size w w':=
 refNum hA (LeadOK.ofCls hO) hO.2.2.1 hO.1 hk hL hL1 hL9
def PrV (w:World) (v:Value) (n i o:Int) (cs:List Cs) (an:Int) (ss:Jc) (r:Int):Prop:=
 ∃a c a' c',v = .agg #[.int .i64 n,.int .i64 i,.int .i64 o,.slice a cs.length c,.int .i64 an,.slice a' ss.length c',.int .i64 r]/\TaskV w (.agg #[.int .i64 n,.int .i64 i,.int .i64 o,.slice a cs.length c]) n i o cs/\AdvV w (.agg #[.int .i64 an,.slice a' ss.length c']) an ss
theorem PrV.keep {w w':World}{v:Value}{n i o an r:Int}{cs:List Cs}{ss:Jc}(h:PrV w v n i o cs an ss r) (hb:Below w.heap.size w w'):PrV w' v n i o cs an ss r:=by
 obtain⟨a,c,a',c',h1,h2,h3⟩:=h;exact⟨a,c,a',c',h1,h2.keep hb,h3.keep hb⟩
def chkP (n i o:Int) (cs:List Cs) (an:Int) (ss:Jc) (r:Int):Int:=
 if chkT n i o cs ≠ 0 then chkT n i o cs else if chkA an ss ≠ 0 then chkA an ss else if n ≠ an then 22 else if r < 0\/6 < r then 2 else 0
theorem chkP_zero {n i o an r:Int}{cs:List Cs}{ss:Jc}(h:chkP n i o cs an ss r=0):chkT n i o cs=0/\chkA an ss=0/\n=an/\0<=r/\r<=6:=by
 unfold chkP at h;by_cases h1:chkT n i o cs=0
 ·rw[if_neg (fun g=>g h1)] at h;by_cases h2:chkA an ss=0
  ·rw[if_neg (fun g=>g h2)] at h;by_cases h3:n=an
   ·rw[if_neg (fun g=>g h3)] at h;by_cases h4:r < 0\/6 < r
    ·rw[if_pos h4] at h;cases h
    ·exact⟨h1,h2,h3,by omega,by omega⟩
   ·rw[if_pos h3] at h;cases h
  ·rw[if_pos h2] at h;exact absurd h h2
 ·rw[if_pos h1] at h;exact absurd h h1
theorem box7' {W:World}{b:Nat}{v0 v1 v2 v3 v4 v5 v6:Value}{T:TypeId}(h:W.heap[b]? = some (.cells #[v0,v1,v2,v3,v4,v5,v6] T)):W.cell? ⟨b,0,none⟩=some v0/\W.cell? ⟨b,1,none⟩=some v1/\W.cell? ⟨b,2,none⟩=some v2/\W.cell? ⟨b,3,none⟩=some v3/\W.cell? ⟨b,4,none⟩=some v4/\W.cell? ⟨b,5,none⟩=some v5/\W.cell? ⟨b,6,none⟩=some v6:=
 ⟨by rw[cell_of_row _ _ 0 _ _ _ h];rfl,by rw[cell_of_row _ _ 1 _ _ _ h];rfl,by rw[cell_of_row _ _ 2 _ _ _ h];rfl,by rw[cell_of_row _ _ 3 _ _ _ h];rfl,by rw[cell_of_row _ _ 4 _ _ _ h];rfl,by rw[cell_of_row _ _ 5 _ _ _ h];rfl,by rw[cell_of_row _ _ 6 _ _ _ h];rfl⟩
theorem keep7 {W W1:World}{b:Nat}{v0 v1 v2 v3 v4 v5 v6:Value}(hb:Below W.heap.size W W1) (h:W.cell? ⟨b,0,none⟩=some v0/\W.cell? ⟨b,1,none⟩=some v1/\W.cell? ⟨b,2,none⟩=some v2/\W.cell? ⟨b,3,none⟩=some v3/\W.cell? ⟨b,4,none⟩=some v4/\W.cell? ⟨b,5,none⟩=some v5/\W.cell? ⟨b,6,none⟩=some v6) :
  W1.cell? ⟨b,0,none⟩=some v0/\W1.cell? ⟨b,1,none⟩=some v1/\W1.cell? ⟨b,2,none⟩=some v2/\W1.cell? ⟨b,3,none⟩=some v3/\W1.cell? ⟨b,4,none⟩=some v4/\W1.cell? ⟨b,5,none⟩=some v5/\W1.cell? ⟨b,6,none⟩=some v6:=
 ⟨cell_kept hb h.1,cell_kept hb h.2.1,cell_kept hb h.2.2.1,cell_kept hb h.2.2.2.1,cell_kept hb h.2.2.2.2.1,cell_kept hb h.2.2.2.2.2.1,cell_kept hb h.2.2.2.2.2.2⟩
theorem execCheck {w:World}{v:Value}{n i o an r:Int}{cs:List Cs}{ss:Jc}(h:PrV w v n i o cs an ss r) (hf:fewA ss=true) :
  Calls Tryz.prog 125 #[v] w fun e w'=>e = .returned (.int .i64 (chkP n i o cs an ss r))/\Below w.heap.size w w':=by
 obtain⟨a,c,a',c',rfl,hT,hA⟩:=h;obtain⟨W1,hW1⟩:=exF (w.alloc (.cells #[.int .i64 n,.int .i64 i,.int .i64 o,.slice a cs.length c,.int .i64 an,.slice a' ss.length c',.int .i64 r] 29));have hb1:Below w.heap.size w W1:=by rw[hW1];exact(Below.refl _ w).alloc (Nat.le_refl _) _
 have kT:W1.heap[w.heap.size]? = some (.cells #[.int .i64 n,.int .i64 i,.int .i64 o,.slice a cs.length c,.int .i64 an,.slice a' ss.length c',.int .i64 r] 29):=by rw[hW1];exact heap_alloc_new _ _
 have HK:=qH (fun W (hb:Below W1.heap.size W1 W)=>keep7 hb (box7' kT));have HT:=qH (checkT (hT.keep hb1));have HA:=qH (fun W (hb:Below W1.heap.size W1 W)=>checkA ((hA.keep hb1).keep hb) (by have:=(few_le hf).2;omega));obtain⟨z,hz⟩:=exE (chkT n i o cs);obtain⟨y,hy⟩:=exE (chkA an ss);rw[hz] at HT;simp only[hy] at HA;unfold chkP;rw[hz,hy];obtain⟨g0,g1,g2,g3,g4,g5,g6⟩:=HK.out W1 (Below.refl _ _);rw[hW1] at g0 g1 g2 g3 g4 g5 g6;clear hT hA kT hz hy;obtain⟨E,hE⟩:=exE ((if z ≠ 0 then z else if y ≠ 0 then y else if n ≠ an then 22 else if r < 0\/6 < r then 2 else 0));rw[hE];replace hE:=qH hE;go_enter Tryz.func125, Tryz.ntmps125
 go_wp2_with fail
 rw[<-hW1];replace hW1:=qH hW1;refine HT.out.mono ?_;rintro e w2 ⟨rfl,hb2⟩;have hbf:=btt hb1 hb2;by_cases hz0:z ≠ 0
 ·obtain rfl:z=E:=by rw[<-hE.out,if_pos hz0]
  have d1:(z != 0)=true:=by simpa using hz0
  go_wp2_with fail
  go_ret;exact⟨rfl,hbf⟩
 obtain rfl:z=0:=Decidable.not_not.1 hz0;clear g0 g1 g2 g3 g4 g5 g6;obtain⟨g0,g1,g2,g3,g4,g5,g6⟩:=HK.out w2 hb2;go_wp2_with fail
 refine(HA.out w2 hb2).mono ?_;rintro e w3 ⟨rfl,hb3⟩;replace hbf:=btt hb1 (btt hb2 hb3);clear g0 g1 g2 g3 g4 g5 g6;obtain⟨g0,g1,g2,g3,g4,g5,g6⟩:=HK.out w3 (btt hb2 hb3);by_cases hy0:y ≠ 0
 ·obtain rfl:y=E:=by rw[<-hE.out,if_neg hz0,if_pos hy0]
  have d1:(y != 0)=true:=by simpa using hy0
  go_wp2_with fail
  go_ret;exact⟨rfl,hbf⟩
 obtain rfl:y=0:=Decidable.not_not.1 hy0;by_cases hn:n ≠ an
 ·obtain rfl:22=E:=by rw[<-hE.out,if_neg hz0,if_neg hy0,if_pos hn]
  have d1:(n != an)=true:=by simpa using hn
  clear hn;go_wp2_with fail
  go_ret;exact⟨rfl,hbf⟩
 obtain rfl:n=an:=Decidable.not_not.1 hn;have hF:(if r < 0\/6 < r then (2:Int) else 0)=E:=by rw[<-hE.out,if_neg hz0,if_neg hy0,if_neg hn]
 clear hz0 hy0 hn;by_cases h1:r < 0
 ·obtain rfl:2=E:=by rw[<-hF,if_pos (.inl h1)]
  have d1:decide (r < 0)=true:=decide_eq_true h1;clear h1 hF;go_wp2_with fail
  go_ret;exact⟨rfl,hbf⟩
 have d1:decide (r < 0)=false:=decide_eq_false h1;by_cases h2:6 < r
 ·obtain rfl:2=E:=by rw[<-hF,if_pos (.inr h2)]
  have d2:decide (6 < r)=true:=decide_eq_true h2;clear h1 h2 hF;go_wp2_with fail
  go_ret;exact⟨rfl,hbf⟩
 obtain rfl:0=E:=by rw[<-hF,if_neg (by omega)]
 have d2:decide (6 < r)=false:=decide_eq_false h2;clear h1 h2 hF;go_wp2_with fail
 go_ret;exact⟨rfl,hbf⟩
theorem refCheckP {w:World}{v:Value}{n i o an r:Int}{cs:List Cs}{ss:Jc}(h:PrV w v n i o cs an ss r) :
  Calls Tryz.prog 102 #[v] w fun e w'=>e = .returned (.int .i64 (chkP n i o cs an ss r))/\Below w.heap.size w w':=by
 obtain⟨a,c,a',c',rfl,hT,hA⟩:=h;obtain⟨W1,hW1⟩:=exF (w.alloc (.cells #[.int .i64 n,.int .i64 i,.int .i64 o,.slice a cs.length c,.int .i64 an,.slice a' ss.length c',.int .i64 r] 29));have hb1:Below w.heap.size w W1:=by rw[hW1];exact(Below.refl _ w).alloc (Nat.le_refl _) _
 have kT:W1.heap[w.heap.size]? = some (.cells #[.int .i64 n,.int .i64 i,.int .i64 o,.slice a cs.length c,.int .i64 an,.slice a' ss.length c',.int .i64 r] 29):=by rw[hW1];exact heap_alloc_new _ _
 have HK:=qH (fun W (hb:Below W1.heap.size W1 W)=>keep7 hb (box7' kT));have HT:=qH (refCheckT (hT.keep hb1));have HA:=qH (fun W (hb:Below W1.heap.size W1 W)=>refCheckA ((hA.keep hb1).keep hb));obtain⟨z,hz⟩:=exE (chkT n i o cs);obtain⟨y,hy⟩:=exE (chkA an ss);rw[hz] at HT;simp only[hy] at HA;unfold chkP;rw[hz,hy];obtain⟨g0,g1,g2,g3,g4,g5,g6⟩:=HK.out W1 (Below.refl _ _);rw[hW1] at g0 g1 g2 g3 g4 g5 g6;clear hT hA kT hz hy;obtain⟨E,hE⟩:=exE ((if z ≠ 0 then z else if y ≠ 0 then y else if n ≠ an then 22 else if r < 0\/6 < r then 2 else 0));rw[hE];replace hE:=qH hE;go_enter Tryz.func102, Tryz.ntmps102
 go_wp2_with fail
 rw[<-hW1];replace hW1:=qH hW1;refine HT.out.mono ?_;rintro e w2 ⟨rfl,hb2⟩;have hbf:=btt hb1 hb2;by_cases hz0:z ≠ 0
 ·obtain rfl:z=E:=by rw[<-hE.out,if_pos hz0]
  have d1:(z != 0)=true:=by simpa using hz0
  go_wp2_with fail
  go_ret;exact⟨rfl,hbf⟩
 obtain rfl:z=0:=Decidable.not_not.1 hz0;clear g0 g1 g2 g3 g4 g5 g6;obtain⟨g0,g1,g2,g3,g4,g5,g6⟩:=HK.out w2 hb2;go_wp2_with fail
 refine(HA.out w2 hb2).mono ?_;rintro e w3 ⟨rfl,hb3⟩;replace hbf:=btt hb1 (btt hb2 hb3);clear g0 g1 g2 g3 g4 g5 g6;obtain⟨g0,g1,g2,g3,g4,g5,g6⟩:=HK.out w3 (btt hb2 hb3);by_cases hy0:y ≠ 0
 ·obtain rfl:y=E:=by rw[<-hE.out,if_neg hz0,if_pos hy0]
  have d1:(y != 0)=true:=by simpa using hy0
  go_wp2_with fail
  go_ret;exact⟨rfl,hbf⟩
 obtain rfl:y=0:=Decidable.not_not.1 hy0;by_cases hn:n ≠ an
 ·obtain rfl:22=E:=by rw[<-hE.out,if_neg hz0,if_neg hy0,if_pos hn]
  have d1:(n != an)=true:=by simpa using hn
  clear hn;go_wp2_with fail
  go_ret;exact⟨rfl,hbf⟩
 obtain rfl:n=an:=Decidable.not_not.1 hn;have hF:(if r < 0\/6 < r then (2:Int) else 0)=E:=by rw[<-hE.out,if_neg hz0,if_neg hy0,if_neg hn]
 clear hz0 hy0 hn;by_cases h1:r < 0
 ·obtain rfl:2=E:=by rw[<-hF,if_pos (.inl h1)]
  have d1:decide (r < 0)=true:=decide_eq_true h1;clear h1 hF;go_wp2_with fail
  go_ret;exact⟨rfl,hbf⟩
 have d1:decide (r < 0)=false:=decide_eq_false h1;by_cases h2:6 < r
 ·obtain rfl:2=E:=by rw[<-hF,if_pos (.inr h2)]
  have d2:decide (6 < r)=true:=decide_eq_true h2;clear h1 h2 hF;go_wp2_with fail
  go_ret;exact⟨rfl,hbf⟩
 obtain rfl:0=E:=by rw[<-hF,if_neg (by omega)]
 have d2:decide (6 < r)=false:=decide_eq_false h2;clear h1 h2 hF;go_wp2_with fail
 go_ret;exact⟨rfl,hbf⟩
def numP (cs:List Cs) (ss:Jc) (k:Nat):Nat:=cs.length * num ss 4097 k
theorem num_le {ss:Jc}(hO:ClsOK ss) {k L:Nat}(hL:1<=L):num ss L k<=L:=by
 unfold num;rw[numL_cnt (LeadOK.ofCls hO) hL k 0 hO.2.2.1];omega
theorem refNumberP {w:World}{v:Value}{n i o an r:Int}{cs:List Cs}{ss:Jc}(h:PrV w v n i o cs an ss r) (hO:ClsOK ss) (hl:cs.length<=1024) {k:Nat}(hk:k<=6) (hr:r=(k:Int)) :
  Calls Tryz.prog 103 #[v,.int .i64 4096] w fun e w'=>e = .returned (.int .i64 (numP cs ss k:Nat))/\Below w.heap.size w w':=by
 have hmx : Tryz.prog.follows .mixedOrders=true:=by kernel_rfl
 subst hr;obtain⟨a,c,a',c',rfl,hT,hA⟩:=h;obtain⟨W1,hW1⟩:=exF (w.alloc (.cells #[.int .i64 n,.int .i64 i,.int .i64 o,.slice a cs.length c,.int .i64 an,.slice a' ss.length c',.int .i64 (k:Int)] 29));have hb1:Below w.heap.size w W1:=by rw[hW1];exact(Below.refl _ w).alloc (Nat.le_refl _) _
 have kT:W1.heap[w.heap.size]? = some (.cells #[.int .i64 n,.int .i64 i,.int .i64 o,.slice a cs.length c,.int .i64 an,.slice a' ss.length c',.int .i64 (k:Int)] 29):=by rw[hW1];exact heap_alloc_new _ _
 have HK:=qH (fun W (hb:Below W1.heap.size W1 W)=>keep7 hb (box7' kT));have HN:=qH (fun W (hb:Below W1.heap.size W1 W)=>refNumG (k:=k) (L:=4097) (lim:=4096) ((hA.keep hb1).keep hb) hO (by omega) rfl (by omega) (by omega));have hle:=num_le hO (k:=k) (L:=4097) (by omega);unfold numP;obtain⟨z,hz⟩:=exE (num ss 4097 k);rw[hz] at hle|-;simp only[hz] at HN;have hm:cs.length * z<=1024 * 4097:=Nat.mul_le_mul hl hle
 have hwr:IntKind.i64.wrap ((cs.length:Int) * (z:Int))=((cs.length * z:Nat):Int):=by
  rw[<-Int.natCast_mul];exact IntWalk.i64_in _ (by omega)
 obtain⟨M,hM⟩:=exE (cs.length * z);rw[hM] at hwr|-;clear hT hA kT hz hO hle hm hM;go_enter Tryz.func103, Tryz.ntmps103
 go_wp2_with fail
 rw[<-hW1];replace hW1:=qH hW1;refine wp_region_bw hmx (by kernel_rfl) ?_
 repeat (refine WQ.step fun K hK=>?_;go_simp;first|(refine hK _ ?_;clear hK K)|(apply Exists.intro;refine⟨fun wq hC=>?_,hK _ ?_⟩;(·(first|with_reducible rfl|(obtain⟨g0,g1,g2,g3,g4,g5,g6⟩:=HK.out wq hC;go_simp;first|done|with_reducible rfl|with_reducible exact⟨rfl,rfl⟩)));clear hK K))
 (refine WQ.step fun K hK=>?_;go_simp;first|(refine hK _ ?_;clear hK K)|(apply Exists.intro;refine⟨fun wq hC=>?_,hK _ ?_⟩;(·(refine(HN.out wq hC).mono ?_;rintro e w' ⟨rfl,hb⟩;exact⟨rfl,btt hC hb⟩));clear hK K))
 repeat (refine WQ.step fun K hK=>?_;go_simp;first|(refine hK _ ?_;clear hK K)|(apply Exists.intro;refine⟨fun wq hC=>?_,hK _ ?_⟩;(·(first|with_reducible rfl|(go_simp;first|done|with_reducible rfl|with_reducible exact⟨rfl,rfl⟩)));clear hK K))
 refine WQ.nil ?_;intro w4 hb4;have hbf:=btt hb1 hb4;go_wp2;go_ret;exact⟨by first|rfl|(rw[hwr];rfl),hbf⟩
def fewP (n i o:Int) (cs:List Cs) (an:Int) (ss:Jc) (r:Int):Bool:=
 fewT cs && (fewA ss && (!(decide (3 < n) && decide (n<=5)) && (decide (chkP n i o cs an ss r ≠ 0) || (decide (numP cs ss r.toNat<=60) || decide (4096 < numP cs ss r.toNat)))))
theorem refFewP {w:World}{v:Value}{n i o an r:Int}{cs:List Cs}{ss:Jc}(h:PrV w v n i o cs an ss r) :
  Calls Tryz.prog 51 #[v] w fun e w'=>e = .returned (.bool (fewP n i o cs an ss r))/\Below w.heap.size w w':=by
 have HCk:=qH (fun W (hb:Below w.heap.size w W)=>refCheckP (h.keep hb));have HP:=qH (fun W (hb:Below w.heap.size w W)=>h.keep hb);obtain⟨a,c,a',c',rfl,hT,hA⟩:=h;obtain⟨W1,hW1⟩:=exF (w.alloc (.cells #[.int .i64 n,.int .i64 i,.int .i64 o,.slice a cs.length c,.int .i64 an,.slice a' ss.length c',.int .i64 r] 29));have hb1:Below w.heap.size w W1:=by rw[hW1];exact(Below.refl _ w).alloc (Nat.le_refl _) _
 have kT:W1.heap[w.heap.size]? = some (.cells #[.int .i64 n,.int .i64 i,.int .i64 o,.slice a cs.length c,.int .i64 an,.slice a' ss.length c',.int .i64 r] 29):=by rw[hW1];exact heap_alloc_new _ _
 have HK:=qH (fun W (hb:Below W1.heap.size W1 W)=>keep7 hb (box7' kT));have HT:=qH (refFewT (hT.keep hb1));have HA:=qH (fun W (hb:Below W1.heap.size W1 W)=>refFew ((hA.keep hb1).keep hb));have hcl:fewA ss=true->chkA an ss=0->ClsOK ss:=fun h1 h2=>chk_cls hA h1 h2;have hclh:=qH hcl;have hfl:=qH (fun(h1:fewT cs=true)=>(show cs.length<=30 from by unfold fewT at h1;rw[Bool.and_eq_true] at h1;exact of_decide_eq_true h1.1));obtain⟨P1,hP1⟩:=exE (fewT cs);obtain⟨P2,hP2⟩:=exE (fewA ss);rw[hP1] at HT hfl;simp only[hP2] at HA hclh;unfold fewP;rw[hP1,hP2];obtain⟨g0,g1,g2,g3,g4,g5,g6⟩:=HK.out W1 (Below.refl _ _);rw[hW1] at g0 g1 g2 g3 g4 g5 g6;clear hT hA kT hP1 hP2 hcl;obtain⟨z,hz⟩:=exE (chkP n i o cs an ss r);rw[hz];simp only[hz] at HCk;replace hz:=qH hz;obtain⟨E,hE⟩:=exE ((P1 && (P2 && (!(decide (3 < n) && decide (n<=5)) && (decide (z ≠ 0) || (decide (numP cs ss r.toNat<=60) || decide (4096 < numP cs ss r.toNat)))))));rw[hE];replace hE:=qH hE;go_enter Tryz.func51, Tryz.ntmps51
 go_wp2_with fail
 rw[<-hW1];replace hW1:=qH hW1;refine HT.out.mono ?_;rintro e w2 ⟨rfl,hb2⟩;have hbf:=btt hb1 hb2;cases P1
 ·obtain rfl:false=E:=hE.out;go_wp2_with fail
  go_ret;exact⟨rfl,hbf⟩
 have hcs:=hfl.out rfl;clear g0 g1 g2 g3 g4 g5 g6;obtain⟨g0,g1,g2,g3,g4,g5,g6⟩:=HK.out w2 hb2;go_wp2_with fail
 refine(HA.out w2 hb2).mono ?_;rintro e w3 ⟨rfl,hb3⟩;replace hbf:=btt hb1 (btt hb2 hb3);cases P2
 ·obtain rfl:false=E:=hE.out;go_wp2_with fail
  go_ret;exact⟨rfl,hbf⟩
 clear g0 g1 g2 g3 g4 g5 g6;obtain⟨g0,g1,g2,g3,g4,g5,g6⟩:=HK.out w3 (btt hb2 hb3);replace hE:Hid ((!(decide (3 < n) && decide (n<=5)) && (decide (z ≠ 0) || (decide (numP cs ss r.toNat<=60) || decide (4096 < numP cs ss r.toNat))))=E):=hE.out;by_cases hn:3 < n/\n<=5
 ·obtain rfl:false=E:=by rw[<-hE.out,decide_eq_true hn.1,decide_eq_true hn.2];rfl
  have d1:decide (3 < n)=true:=decide_eq_true hn.1;have d2:decide (n<=5)=true:=decide_eq_true hn.2;clear hn;go_wp2_with fail
  go_ret;exact⟨rfl,hbf⟩
 have hnb:(decide (3 < n) && decide (n<=5))=false:=by rw[<-Bool.decide_and];exact decide_eq_false hn
 replace hE:Hid ((decide (z ≠ 0) || (decide (numP cs ss r.toNat<=60) || decide (4096 < numP cs ss r.toNat)))=E):=by have h9:=hE.out;rw[hnb] at h9;exact h9
 by_cases hz0:z ≠ 0
 ·obtain rfl:true=E:=by rw[<-hE.out,decide_eq_true hz0,Bool.true_or]
  have hz1:(z != 0)=true:=by simpa using hz0
  rcases(show(3 < n/\5 < n)\/n<=3 by omega) with⟨q1,q2⟩|q1
  case' inl=>
   have d1:decide (3 < n)=true:=decide_eq_true q1;have d2:decide (n<=5)=false:=decide_eq_false (by omega);clear q2
  case' inr=>have d1:decide (3 < n)=false:=decide_eq_false (by omega)
  all_goals
   clear q1 hn hnb hz0;go_wp2_with fail
   refine(HCk.out w3 hbf).mono ?_;rintro e w4 ⟨rfl,hb4⟩;replace hbf:=btt hbf hb4;go_wp2_with fail
   go_ret;exact⟨rfl,hbf⟩
 obtain rfl:z=0:=Decidable.not_not.1 hz0;obtain⟨c1,c2,-,c4,c5⟩:=chkP_zero hz.out
 have q5:n<=5:=by
  unfold chkT at c1;by_cases h:5 < n
  ·rw[if_pos (.inl (.inr h))] at c1;cases c1
  ·omega
 have d1:decide (3 < n)=false:=decide_eq_false (by omega);have hO:=hclh.out rfl c2;obtain⟨k,rfl⟩:∃k:Nat,r=(k:Int):=⟨r.toNat,by omega⟩;have HN:=qH (fun W (hb:Below w.heap.size w W)=>refNumberP (k:=k) (HP.out W hb) hO (by omega) (by omega) rfl);replace hE:Hid ((decide (numP cs ss k<=60) || decide (4096 < numP cs ss k))=E):=by have h9:=hE.out;rw[Int.toNat_natCast] at h9;exact h9
 obtain⟨M,hM⟩:=exE (numP cs ss k);rw[hM] at hE;simp only[hM] at HN;clear hn hnb hz hz0 c1 c2 c4 c5 q5 hO hM;go_wp2_with fail
 refine(HCk.out w3 hbf).mono ?_;rintro e w4 ⟨rfl,hb4⟩;replace hbf:=btt hbf hb4;clear g0 g1 g2 g3 g4 g5 g6;obtain⟨g0,g1,g2,g3,g4,g5,g6⟩:=HK.out w4 (btt (btt hb2 hb3) hb4);go_wp2_with fail
 refine(HN.out w4 hbf).mono ?_;rintro e w5 ⟨rfl,hb5⟩;replace hbf:=btt hbf hb5;by_cases h6:M<=60
 ·obtain rfl:true=E:=by rw[<-hE.out,decide_eq_true h6,Bool.true_or]
  have e1:decide ((M:Int)<=60)=true:=decide_eq_true (by omega);clear h6;go_wp2_with fail
  go_ret;exact⟨rfl,hbf⟩
 have e1:decide ((M:Int)<=60)=false:=decide_eq_false (by omega);by_cases h7:4096 < M
 ·obtain rfl:true=E:=by rw[<-hE.out,decide_eq_true h7,Bool.or_true]
  have e2:decide ((4096:Int) < (M:Int))=true:=decide_eq_true (by omega);clear h6 h7;go_wp2_with fail
  go_ret;exact⟨rfl,hbf⟩
 obtain rfl:false=E:=by rw[<-hE.out,decide_eq_false h6,decide_eq_false h7];rfl
 have e2:decide ((4096:Int) < (M:Int))=false:=decide_eq_false (by omega);clear h6 h7;go_wp2_with fail
 go_ret;exact⟨rfl,hbf⟩
end Go.Proofs.YtcnedkkcgdkioaaGreat
