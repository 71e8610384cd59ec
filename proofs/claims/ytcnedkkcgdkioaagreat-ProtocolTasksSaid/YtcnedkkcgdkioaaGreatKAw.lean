/- Texts of this claim, put together: OK OL ON. -/
import Derived.Test.YtcnedkkcgdkioaaGreatKAv
import Derived.Shelf.SlSortCmp.NoneTotal

set_option maxRecDepth 100000
set_option maxHeartbeats 12800000
namespace Go.Proofs.YtcnedkkcgdkioaaGreat
open Go.RowKit
theorem OwX.frozen {α:Type}{E:TypeId}{k:Nat}{El:World→List Value→α→Prop}{w:World}{B g n cap:Nat}{xs:List α}(h:OwX E k El w B (.slice (some ⟨g,0,none⟩) n cap) n xs) (j:Nat):w.frozen? ⟨g,j,none⟩=false:=by
 obtain⟨vs,h1,_⟩:=h;exact World.ownsRow.frozenAt h1 j
def cmpw:List (List (List Int))→List (List (List Int))
 | []=>[]
 | [x]=>[x]
 | x::y::r=>if x=y then cmpw (y::r) else x::cmpw (y::r)
theorem cmpw_snoc:∀ {l:List (List (List Int))}{x y:List (List Int)},cmpw (l ++ [x] ++ [y])=if x=y then cmpw (l ++ [x]) else cmpw (l ++ [x]) ++ [y]
 | [],x,y=>by
  by_cases h:x=y
  ·subst h;simp[cmpw]
  ·simp[cmpw,h]
 | [a],x,y=>by
  by_cases ha:a=x<;>by_cases h:x=y<;>simp[cmpw,ha,h]
 | a::b::l,x,y=>by
  have ih:=cmpw_snoc (l:=b::l) (x:=x) (y:=y);simp only[List.cons_append] at ih⊢;by_cases ha:a=b
  ·rw[cmpw,if_pos ha,ih];by_cases h:x=y
   ·rw[if_pos h,if_pos h,cmpw,if_pos ha]
   ·rw[if_neg h,if_neg h,cmpw,if_pos ha]
  ·rw[cmpw,if_neg ha,ih];by_cases h:x=y
   ·rw[if_pos h,if_pos h,cmpw,if_neg ha]
   ·rw[if_neg h,if_neg h,cmpw,if_neg ha];rfl
theorem cmpw_take {xs:List (List (List Int))}{m:Nat}(h:m+1 < xs.length):cmpw (xs.take (m+2))=if xs.getD m []=xs.getD (m+1) [] then cmpw (xs.take (m+1)) else cmpw (xs.take (m+1)) ++ [xs.getD (m+1) []]:=by
 rw[take_snoc h [],take_snoc (show m < xs.length by omega) [],cmpw_snoc]
theorem cmpw_len_le:∀l:List (List (List Int)),(cmpw l).length≤l.length
 | []=>by simp[cmpw]
 | [x]=>by simp[cmpw]
 | x::y::r=>by
  have:=cmpw_len_le (y::r)
  rw[cmpw];split<;>simp at this⊢<;>omega
theorem compactw_put {xs cs:List (List (List Int))}{m kk:Nat}{x:List (List Int)}(hcl:cs.length=xs.length) (hk:kk < m) (hm:m < xs.length) (h1:cs.take kk=cmpw (xs.take m)) (h2:∀j,kk≤j→cs.getD j []=xs.getD j []) (hx:xs.getD m []=x) (hne : ¬xs.getD (m - 1) []=x) :
  (cs.set kk x).take (kk+1)=cmpw (xs.take (m+1))∧∀j,kk+1≤j→(cs.set kk x).getD j []=xs.getD j []:=by
 obtain⟨p,rfl⟩:∃p,m=p+1:=⟨m - 1,by omega⟩;refine⟨?_,fun j hj=>?_⟩
 ·rw[cmpw_take hm,if_neg (by rw[hx];exact hne),←h1,hx,List.take_set,take_snoc (show kk < cs.length by omega) [],List.set_append_right _ _ (by rw[List.length_take];exact Nat.min_le_left _ _),List.length_take,Nat.min_eq_left (by omega),Nat.sub_self];rfl
 ·rw[List.getD_eq_getElem?_getD,List.getElem?_set_ne (by omega),←List.getD_eq_getElem?_getD];exact h2 j (by omega)
theorem OwX.setTailK {w:World}{B g n cap m:Nat}{w0:World}{xs:List (List (List Int))}(h:OwX 38 1 (EWk w0) w B (.slice (some ⟨g,0,none⟩) n cap) n xs) (hm:m≤n) (vs:List Value) :
  OwX 38 1 (EWk w0) (w.setCells g (m * 1) vs) B (.slice (some ⟨g,0,none⟩) m cap) m (xs.take m)∧Below B w (w.setCells g (m * 1) vs)∧KeepX 38 w (w.setCells g (m * 1) vs):=by
 have hl:=h.length;obtain⟨ws,h1,h2,h3,h4⟩:=h;rcases h1.2 with⟨h0,_⟩|⟨g',cap',cur,he,hB,hg,hc1,hc2,hc3,hc4⟩
 ·cases h0
 ·injection he with he1 he2 he3;injection he1 with he1;injection he1 with he1;subst he1 he3;obtain⟨cur',k1,k2,k3,k4,k5,k6,k7,k8⟩:=setCells_row vs (m * 1) w cur hg;have hmn:m * 1≤n * 1:=Nat.mul_le_mul_right _ hm;have hwl:ws.length=n * 1:=h1.1
  have hws:cur'.toList.take (m * 1)=ws.take (m * 1):=by
   rw[k3,←hc4,List.take_take,Nat.min_eq_left hmn]
  refine⟨⟨ws.take (m * 1),⟨by rw[List.length_take];omega,.inr ⟨g,cap,cur',rfl,hB,k1,by omega,hc2,by rw[k2];exact hc3,hws⟩⟩,by rw[List.length_take];omega,fun u hu=>h3 u (List.mem_of_mem_take hu),fun j x hj=>?_⟩,⟨k6,k7,k8,by rw[k5];exact Nat.le_refl _,fun k hk=>k4 k (by omega)⟩,fun k cs t hk ht=>k4 k fun e=>?_⟩
  ·rw[List.getElem?_take] at hj;split at hj
   ·rename_i hjm
    have:=h4 j x hj
    have hjm7:j * 1+1≤m * 1:=(by rw[←Nat.succ_mul];exact Nat.mul_le_mul_right _ hjm);rw[List.drop_take,List.take_take,Nat.min_eq_left (by omega)];exact this
   ·cases hj
  ·subst e;rw[hg] at hk;injection hk with hk;injection hk with _ hk;exact ht hk.symm
theorem compactVs {w0 w:World}{B g n cap:Nat}{xs:List (List (List Int))}(hb0:Below w0.heap.size w0 w) (hB0:w0.heap.size≤B) (h:OwX 38 1 (EWk w0) w B (.slice (some ⟨g,0,none⟩) n cap) n xs) (hn:n≤1000) :
  Calls Tryz.prog 198 #[.slice (some ⟨g,0,none⟩) n cap,.func (.func 199) #[] #[]] w fun e w'=>∃m,e = .returned (.slice (some ⟨g,0,none⟩) m cap)∧OwX 38 1 (EWk w0) w' B (.slice (some ⟨g,0,none⟩) m cap) m (cmpw xs)∧Below B w w'∧KeepX 38 w w':=by
 have hl:=h.length
 have hB:B≤g:=by
  obtain⟨_,h1,_⟩:=h;exact(World.ownsRow.lt h1 g rfl).1
 have hnc:n≤cap∧(cap:Int)≤9223372036854775807:=by
  obtain⟨_,h1,_⟩:=h;rcases h1.2 with⟨h0,_⟩|⟨g',cap',cur,he,_,_,hc1,hc2,_⟩
  ·cases h0
  ·injection he with _ _ he3;subst he3;unfold maxLen at hc2;exact⟨hc1,by omega⟩
 obtain⟨hnc1,hnc2⟩:=hnc;have hcells:=qH (fun j (hj:j < n)=>OwX.kcell h hj);have hh:=qH h;have hlh:=qH hl;clear h hl
 have hfin0:Hid (∀q,cmpw (xs.take n)=xs.take n→OwX 38 1 (EWk w0) (w.drewN q) B (.slice (some ⟨g,0,none⟩) n cap) n (cmpw xs)):=fun q hq=>by
  rw[List.take_of_length_le (by rw[hlh.out];exact Nat.le_refl _)] at hq;rw[hq];exact hh.out.keep (EWk.stab _ _) (below_drewN (Below.refl _ w) q)
 have hBw:Hid (∀q,Below B w (w.drewN q)∧KeepX 38 w (w.drewN q)):=fun q=>⟨below_drewN (Below.refl _ w) q,KeepX.below (below_drewN (Below.refl _ w) q)⟩;by_cases h2:n < 2
 ·have hall:Hid (cmpw (xs.take n)=xs.take n):=by
   show _=_;have:n=0∨n=1:=by omega
   rcases this with rfl|rfl
   ·simp[cmpw]
   ·match xs,hlh.out with
    | [x],_=>simp[cmpw]
  have hd:decide ((n:Int) < 2)=true:=decide_eq_true (by omega);go_enter Tryz.func198, Tryz.ntmps198
  go_wp2;go_ret;exact⟨n,rfl,hfin0.out 0 hall.out,(hBw.out 0).1,(hBw.out 0).2⟩
 ·have hd:decide ((n:Int) < 2)=false:=decide_eq_false (by omega)
  have h1:Hid (cmpw (xs.take (0+1))=xs.take (0+1)):=by
   show _=_;match xs,hlh.out with
   | x::r,_=>simp[cmpw]
   | [],h=>simp at h;omega
  go_enter Tryz.func198, Tryz.ntmps198
  go_wp2_with fail
  go_loopg [5] n (fun f kv wr=>∃p q:Nat,kv = .int .i64 ((p:Int)+1)∧p+1≤n∧n≤p+1+f∧wr=w.drewN q∧Hid (cmpw (xs.take (p+1))=xs.take (p+1)))
  case atStart=>exact⟨0,0,rfl,by omega,by omega,rfl,h1⟩
  case round=>
   clear h1;obtain⟨p,q,rfl,hp,hpf,rfl,hc⟩:=hrel;by_cases hlt:p+1 < n
   ·obtain⟨f,rfl⟩:∃f,gk=f+1:=⟨gk - 1,by omega⟩;obtain⟨u1,c0,hx7⟩:=hcells.out (p+1) hlt;obtain⟨u2,d0,hy7⟩:=hcells.out p (by omega);obtain⟨x,hx⟩:=exE (xs.getD (p+1) []);obtain⟨y,hy⟩:=exE (xs.getD p []);have htk:=cmpw_take (xs:=xs) (m:=p) (by rw[hlh.out];exact hlt);rw[hx,hy] at htk;rw[hx] at hx7;rw[hy] at hy7;have HC:=fun q=>eqVxs (hx7.keep (below_drewN hb0 q)).ks (hy7.keep (below_drewN hb0 q)).ks;obtain⟨sa1,sc1,hs1⟩:=hx7.shape;obtain⟨sa2,sc2,hs2⟩:=hy7.shape;subst hs1 hs2;have hix1:(p:Int)+1 < (n:Int):=(by omega);have hix0:(0:Int)≤(p:Int):=(by omega);have hix2:(0:Int)≤(p:Int)+1:=(by omega);have hix3:(p:Int) < (n:Int):=(by omega);have hwr:IntKind.i64.wrap ((p:Int)+1 - 1)=(p:Int):=(by rw[show(p:Int)+1 - 1=(p:Int) by omega];exact IntWalk.i64_in _ (by omega));have htn:((p:Int)+1).toNat=p+1:=(by omega);have hty:=hy;have hxt:=hx;clear hx7 hy7 hx hy;by_cases he:x=y
    ·simp only[decide_eq_true he] at HC;replace HC:=qH HC;rw[if_pos he.symm,hc.out] at htk;have htk:=qH htk;replace hty:=qH hty;clear he hc hxt;go_wp2_with fail
     go_quiet ((go_at_call 199;first|exact quietOn (HC.out _)|(refine(HC.out _).mono ?_;rintro e w' ⟨he,k,rfl⟩;exact⟨he,_,World.drewN_drewN _ _ _⟩)))
     go_wp2_with fail
     obtain⟨N2,hN2⟩:=exE (n - (p+1));obtain⟨C2,hC2⟩:=exE (cap - (p+1));rw[hN2,hC2];have hnN:n=p+1+N2:=(by omega);replace hC2:=qH hC2;replace hN2:=qH hN2;have hnNh:=qH hnN;have hN2i:(1:Int)≤(N2:Int):=(by omega);have hs0:Hid (xs.take (p+1)=cmpw (xs.take (p+1+(0+1)))):=htk.out.symm;have hO0:OwX 38 1 (EWk w0) (w.drewN (q+nq)) B (.slice (some ⟨g,0,none⟩) n cap) n xs:=hh.out;have hb0:Below B w (w.drewN (q+nq)):=below_drewN (Below.refl _ w) _;have hk0:KeepX 38 w (w.drewN (q+nq)):=KeepX.below (below_drewN (Below.refl _ w) _);have hk0h:=qH hk0;have hsame:Hid (∀j,p+1≤j→xs.getD j []=xs.getD j []):=fun _ _=>rfl;clear hnN c0 d0 hix1 hix2 htn hwr hk0;go_loopg [5,7] N2 (fun f kv rv wr=>∃(kk r:Nat) (cs:List (List (List Int))),kv = .int .i64 ((kk:Nat):Int)∧rv = .int .i64 ((r:Int)+1)∧r+1≤N2∧N2≤r+1+f∧kk < p+1+(r+1)∧OwX 38 1 (EWk w0) wr B (.slice (some ⟨g,0,none⟩) n cap) n cs∧Hid (cs.take kk=cmpw (xs.take (p+1+(r+1))))∧Hid (∀j,kk≤j→cs.getD j []=xs.getD j [])∧Below B w wr∧Hid (KeepX 38 w wr))
     case atStart=>exact⟨p+1,0,xs,by go_num,rfl,by omega,by omega,by omega,hO0,hs0,hsame,hb0,hk0h⟩
     case round=>
      clear hO0 hs0 hsame hb0 hk0h;obtain⟨kk,r,cs,rfl,rfl,hr,hrf,hkk,hO,htkk,hsm,hbw,hkx⟩:=hrel;have hcl:=hO.length;have hOh:=qH hO;have hnn:=hnNh.out;by_cases hltr:r+1 < N2
      ·obtain⟨f,rfl⟩:∃f,gk=f+1:=⟨gk - 1,by omega⟩;obtain⟨u1,c0,hx7⟩:=OwX.kcell hO (j:=p+1+(r+1)) (by omega);obtain⟨u2,d0,hy7⟩:=OwX.kcell hO (j:=p+1+r) (by omega);obtain⟨u3,e0,hz7⟩:=OwX.kcell hO (j:=kk) (by omega);rw[hsm.out _ (by omega)] at hx7;rw[hsm.out _ (by omega)] at hy7;obtain⟨x,hx⟩:=exE (xs.getD (p+1+(r+1)) []);obtain⟨y,hy⟩:=exE (xs.getD (p+1+r) []);obtain⟨z,hz⟩:=exE (cs.getD kk []);have htt:=cmpw_take (xs:=xs) (m:=p+1+r) (by rw[hlh.out];omega);have hput:=compactw_put (xs:=xs) (cs:=cs) (m:=p+1+(r+1)) (kk:=kk) (x:=x) (by rw[hcl,hlh.out]) hkk (by rw[hlh.out];omega) htkk.out hsm.out hx;rw[show p+1+r+1=p+1+(r+1) by omega,hx,hy] at htt;rw[show p+1+(r+1) - 1=p+1+r by omega,hy] at hput;rw[hx] at hx7;rw[hy] at hy7;have hbr0:Below w0.heap.size w0 wr:=hb0.trans (hbw.mono hB0);have HC:=fun q=>eqVxs (hx7.keep (below_drewN hbr0 q)).ks (hy7.keep (below_drewN hbr0 q)).ks;have hx7h:=qH hx7;obtain⟨sa1,sc1,hs1⟩:=hx7.shape;obtain⟨sa2,sc2,hs2⟩:=hy7.shape;subst hs1 hs2;have hi1:(r:Int)+1 < (N2:Int):=(by omega);have hi2:(0:Int)≤(r:Int)+1:=(by omega);have hi3:(0:Int)≤(r:Int):=(by omega);have hi4:(r:Int) < (N2:Int):=(by omega);have hi5:(kk:Int) < (n:Int):=(by omega);have hN2b:(N2:Int)≤1000:=(by omega);have hkkb:(kk:Int)≤1000:=(by omega);have htn:((r:Int)+1).toNat=r+1:=(by omega);have hwr:IntKind.i64.wrap ((r:Int)+1 - 1)=(r:Int):=(by rw[show(r:Int)+1 - 1=(r:Int) by omega];exact IntWalk.i64_in _ (by omega));have hwr2:IntKind.i64.wrap (r:Int)=(r:Int):=IntWalk.i64_in _ (by omega);clear hx7 hy7 hz7 hx hy hz hO;by_cases he:x=y
       ·simp only[decide_eq_true he] at HC;replace HC:=qH HC;rw[if_pos he.symm] at htt;have htt2:Hid (cs.take kk=cmpw (xs.take (p+1+(r+1+1)))):=htkk.out.trans htt.symm;clear he htt hput;replace hnn:=qH hnn;replace hcl:=qH hcl;go_wp2_with fail
        go_quiet ((go_at_call 199;first|exact quietOn (HC.out _)|(refine(HC.out _).mono ?_;rintro e w' ⟨he,k,rfl⟩;exact⟨he,_,World.drewN_drewN _ _ _⟩)))
        clear hwr hwr2 htn;go_wp2_with fail
        go_roundg f
        case measure=>omega
        case rel=>exact⟨kk,r+1,cs,rfl,by go_num,by omega,by omega,by omega,hOh.out,htt2,hsm,below_drewN hbw _,hkx.out.trans (KeepX.below (below_drewN (Below.refl _ _) _))⟩
       ·simp only[decide_eq_false he] at HC;replace HC:=qH HC;obtain⟨hp1,hp2⟩:=hput (fun h=>he h.symm);have hp1h:=qH hp1;have hp2h:=qH hp2;have hst:Hid (∀d,OwX 38 1 (EWk w0) ((wr.drewN d).setCell ⟨g,kk,none⟩ (.slice sa1 x.length sc1)) B (.slice (some ⟨g,0,none⟩) n cap) n (cs.set kk x)):=fun d=>(OwX.store1 (EWk.stab _ _) (OwX.keep (EWk.stab _ _) hOh.out (below_drewN (Below.refl _ _) d)) (by omega) (u:=.slice sa1 x.length sc1) rfl (x:=x) ⟨_,rfl,hx7h.out⟩).1;have hst3:Hid (∀d,Below B w ((wr.drewN d).setCell ⟨g,kk,none⟩ (.slice sa1 x.length sc1))):=fun d=>Below.setCell (p:=⟨g,kk,none⟩) (below_drewN hbw d) hB _
        have hst2:Hid (∀d,KeepX 38 w ((wr.drewN d).setCell ⟨g,kk,none⟩ (.slice sa1 x.length sc1))):=fun d=>by
         obtain⟨_,h1,_⟩:=OwX.keep (EWk.stab _ _) hOh.out (below_drewN (Below.refl wr.heap.size wr) d);obtain⟨cs',g0⟩:=ownsRow_ty h1 g rfl;exact(hkx.out.trans (KeepX.below (below_drewN (Below.refl _ _) d))).trans (KeepX.setCell (p:=⟨g,kk,none⟩) g0 _)
        have hfz:∀j,wr.frozen? ⟨g,j,none⟩=false:=fun j=>hOh.out.frozen j;have f0:=hfz kk;clear he htt hput hp1 hp2 hfz;replace hnn:=qH hnn;replace hcl:=qH hcl;go_wp2_with fail
        go_quiet ((go_at_call 199;first|exact quietOn (HC.out _)|(refine(HC.out _).mono ?_;rintro e w' ⟨he,k,rfl⟩;exact⟨he,_,World.drewN_drewN _ _ _⟩)))
        clear hwr hwr2 htn;go_wp2_with fail
        go_roundg f
        case measure=>omega
        case rel=>exact⟨kk+1,r+1,cs.set kk x,by go_num,by go_num,by omega,by omega,by omega,hst.out _,hp1h,hp2h,hst3.out _,hst2.out _⟩
      ·have hrN:r+1=N2:=(by omega);have hfz:∀j,wr.frozen? ⟨g,j,none⟩=false:=fun j=>hO.frozen j
       have hcs:∀j,j < n - kk→(wr.cell? ⟨g,kk+j,none⟩).isSome=true:=fun j hj=>by
        obtain⟨_,h1,_⟩:=OwX.kcell hO (j:=kk+j) (by omega);rw[h1];rfl
       have hcl7:=fun ty=>Lib.run_clear_slice (P:=Tryz.prog) wr 55 38 ty (.slice none 0 0) (by kernel_rfl) (fun w=>by kernel_rfl) rfl rfl g kk (n - kk) (cap - kk) (by omega) hcs (fun j _=>hfz _);obtain⟨Z,hZ⟩:=exE (List.replicate (n - kk) (Value.slice none 0 0));simp only[hZ] at hcl7;obtain⟨t1,t2,t3⟩:=OwX.setTailK hO (m:=kk) (by omega) Z;rw[htkk.out,List.take_of_length_le (by rw[hlh.out];omega)] at t1;rw[Nat.mul_one] at t1 t2 t3;obtain⟨W2,hW2⟩:=exE (wr.setCells g kk Z);rw[hW2] at t1 t2 t3;simp only[hW2] at hcl7;have hfin:=qH t1;have hkf:=qH (hkx.out.trans t3);have hbf:=hbw.trans t2;have hk1:(kk:Int)≤(n:Int):=(by omega);have hkn:kk < n:=(by omega);have hkc:kk < cap:=(by omega);have hk2:(kk:Int)≤(cap:Int):=(by omega);have hge:decide ((r:Int)+1 < (N2:Int))=false:=decide_eq_false (by omega);clear t1 t2 t3 hO hOh hfz hcs hZ hW2 htkk hkx hsm;replace hnn:=qH hnn;replace hcl:=qH hcl;replace hrN:=qH hrN;go_wp2;go_ret;exact⟨kk,rfl,hfin.out,hbf,hkf.out⟩
    ·simp only[decide_eq_false he] at HC;replace HC:=qH HC;rw[if_neg (fun h=>he h.symm),hc.out] at htk;have htk2:Hid (cmpw (xs.take (p+1+1))=xs.take (p+1+1)):=(by show _=_;rw[htk,←hxt];exact(take_snoc (by rw[hlh.out];exact hlt) []).symm);clear he hc hty htk hxt;go_wp2_with fail
     go_quiet ((go_at_call 199;first|exact quietOn (HC.out _)|(refine(HC.out _).mono ?_;rintro e w' ⟨he,k,rfl⟩;exact⟨he,_,World.drewN_drewN _ _ _⟩)))
     go_wp2_with fail
     go_roundg f
     case measure=>omega
     case rel=>exact⟨p+1,_,by go_num,by omega,by omega,(by first|exact rfl|exact World.drewN_drewN _ _ _),htk2⟩
   ·obtain rfl:n=p+1:=(by omega);have hfin:=qH (hfin0.out q hc.out);obtain⟨b1,b2⟩:=hBw.out q;have b2h:=qH b2;clear hc b2;go_wp2_with fail
    go_ret;exact⟨p+1,by first|rfl|(congr 2;done),hfin.out,b1,b2h.out⟩
open Go.Shelf Go.Lib Go.Sort
theorem elemVx:ElemK Tryz.prog 38 83 (.agg #[.int .i64 0,.int .i64 0]) 2 16:=⟨by kernel_rfl,by kernel_rfl,rfl⟩
theorem elemVs:ElemK Tryz.prog 55 38 (.slice none 0 0) 1 24:=⟨by kernel_rfl,by kernel_rfl,rfl⟩
theorem cloneVs {w:World}(ad:Addr) (n c:Nat) (news:List Value) (hl:news.length=n * 1) (hn:n≤1000000) (hc:∀j u,news[j]? = some u→w.cell? (ad.add j)=some u) (h1:∀u∈news,u.oneCell'=true) :
  Calls Tryz.prog 90 #[.slice (some ad) n c] w fun e w'=>∃v',e = .returned v'∧w'.ownsRow w.heap.size 38 1 v' n news∧Go.RowKit.Below w.heap.size w w':=by
 have q22:=fun(w:World)=>Lib.run_eql_slice_nil (P:=Tryz.prog) w 55 38 (some ad) n c 0 0 elemVs.1;obtain⟨i0,hi,hz0,hz1,hz2⟩:=info_parts elemVs.2.1;have A:Hid (∀j u,news[j]? = some u→w.cell? (ad.add j)=some u):=hc;clear hc;have hn':n * 24≤140737488355328:=by omega
 go_enter Tryz.func90, Tryz.ntmps90
 go_wp2_with (at_builtin;refine wpList_append_own _ rfl _ _ 55 rfl w.heap.size 38 i0 _ 1 24 elemVs.1 hi hz0 hz1 hz2 elemVs.2.2 (by decide) _ _ _ rfl (World.ownsRow_made w #[] 0 (Nat.le_refl _) (Nat.zero_le _) (by simp)) ad n c news rfl ?qc1 ?qc2 ?qc3 ?qc4 ?qc5 ?qc6 ?_)
 case qc1=>exact hl
 case qc2=>
  intro j u hj;exact Lib.cell?_alloc_some _ (A.out j u hj)
 case qc3=>exact h1
 case qc4=>unfold maxLen;omega
 case qc5=>rw[Nat.zero_add];exact hn'
 case qc6=>simp
 intro v' w1 hown hgrow hnil;go_wp2;go_ret;refine⟨v',rfl,by simpa using hown,?_⟩;exact((Below.refl _ w).alloc (Nat.le_refl _) _).grown hgrow (by simp) (by intro k hk;simp[Value.ownBlock] at hk;omega)
theorem cloneVsNil {w:World}(n c:Nat):Calls Tryz.prog 90 #[.slice none n c] w fun e w'=>e = .returned (.slice none 0 0)∧w'=w:=by
 have q22:=fun(w:World)=>Lib.run_eql_slice_nil (P:=Tryz.prog) w 55 38 none n c 0 0 elemVs.1;go_enter Tryz.func90, Tryz.ntmps90
 go_wp2;go_ret;exact⟨rfl,rfl⟩
theorem cloneVx {w:World}(ad:Addr) (n c:Nat) (news:List Value) (hl:news.length=n * 2) (hn:n≤1000000) (hc:∀j u,news[j]? = some u→w.cell? (ad.add j)=some u) (h1:∀u∈news,u.oneCell'=true) :
  Calls Tryz.prog 200 #[.slice (some ad) n c] w fun e w'=>∃v',e = .returned v'∧w'.ownsRow w.heap.size 83 2 v' n news∧Go.RowKit.Below w.heap.size w w':=by
 have q22:=fun(w:World)=>Lib.run_eql_slice_nil (P:=Tryz.prog) w 38 83 (some ad) n c 0 0 elemVx.1;obtain⟨i0,hi,hz0,hz1,hz2⟩:=info_parts elemVx.2.1;have A:Hid (∀j u,news[j]? = some u→w.cell? (ad.add j)=some u):=hc;clear hc;have hn':n * 16≤140737488355328:=by omega
 go_enter Tryz.func200, Tryz.ntmps200
 go_wp2_with (at_builtin;refine wpList_append_own _ rfl _ _ 38 rfl w.heap.size 83 i0 _ 2 16 elemVx.1 hi hz0 hz1 hz2 elemVx.2.2 (by decide) _ _ _ rfl (World.ownsRow_made w #[] 0 (Nat.le_refl _) (Nat.zero_le _) (by simp)) ad n c news rfl ?qc1 ?qc2 ?qc3 ?qc4 ?qc5 ?qc6 ?_)
 case qc1=>exact hl
 case qc2=>
  intro j u hj;exact Lib.cell?_alloc_some _ (A.out j u hj)
 case qc3=>exact h1
 case qc4=>unfold maxLen;omega
 case qc5=>rw[Nat.zero_add];exact hn'
 case qc6=>simp
 intro v' w1 hown hgrow hnil;go_wp2;go_ret;refine⟨v',rfl,by simpa using hown,?_⟩;exact((Below.refl _ w).alloc (Nat.le_refl _) _).grown hgrow (by simp) (by intro k hk;simp[Value.ownBlock] at hk;omega)
theorem cloneVxNil {w:World}(n c:Nat):Calls Tryz.prog 200 #[.slice none n c] w fun e w'=>e = .returned (.slice none 0 0)∧w'=w:=by
 have q22:=fun(w:World)=>Lib.run_eql_slice_nil (P:=Tryz.prog) w 38 83 none n c 0 0 elemVx.1;go_enter Tryz.func200, Tryz.ntmps200
 go_wp2;go_ret;exact⟨rfl,rfl⟩
theorem cloneVxK {w:World}{v:Value}{xs:List (List Int)}(h:KS 2 w v xs) (hn:xs.length≤1000000) :
  Calls Tryz.prog 200 #[v] w fun e w'=>∃u,e = .returned u∧OwX 83 2 EI w' w.heap.size u xs.length xs∧Go.RowKit.Below w.heap.size w w':=by
 obtain⟨a,c,b,off,rfl,ha,hc,_⟩:=h;have hlens:=KS.lens hc;cases a with
 | none=>
  have h0:xs.length=0:=by
   rcases Nat.eq_zero_or_pos xs.length with h'|h'
   ·exact h'
   ·cases ha h'
  obtain rfl:=List.length_eq_zero_iff.1 h0;refine(cloneVxNil 0 c).mono ?_;rintro e w' ⟨rfl,rfl⟩;exact⟨_,rfl,OwX.nil _ _,Below.refl _ _⟩
 | some ad=>
  refine(cloneVx ad xs.length c (xs.flatten.map (Value.int .i64)) (by rw[List.length_map,flat_len hlens]) hn ?_ ?_).mono ?_
  ·intro j u hj
   have hpos:0 < xs.length:=by
    rcases Nat.eq_zero_or_pos xs.length with h'|h'
    ·rw[List.length_eq_zero_iff.1 h'] at hj;simp at hj
    ·exact h'
   have:=ha hpos
   injection this with this;subst this;rw[Addr.add_lit];exact KS.flat hc j u hj
  ·intro u hu;obtain⟨i,_,rfl⟩:=List.mem_map.1 hu;rfl
  ·rintro e w' ⟨u,rfl,h1,h2⟩;exact⟨u,rfl,OwX.ofFlat h1 hlens rfl,h2⟩
theorem kssc_vals {w:World}{a:Option Addr}{c:Nat}{xs:List (List (List Int))}(h:KSSC 2 w (.slice a xs.length c) xs) (h0:0 < xs.length) :
  ∃b off vs,a=some ⟨b,off,none⟩∧vs.length=xs.length∧(∀(j:Nat) (u:Value),vs[j]? = some u→w.cell? ⟨b,off+j,none⟩=some u)∧WK w vs xs∧∀u∈vs,u.oneCell'=true:=by
 obtain⟨a',c',b,off,hv,ha,hc,_⟩:=h;injection hv with hv1 hv2 hv3;have hl:((List.range xs.length).map fun j=>(w.cell? ⟨b,off+j,none⟩).getD (.slice none 0 0)).length=xs.length:=by rw[List.length_map,List.length_range]
 have hg:∀(j:Nat) (u:Value),((List.range xs.length).map fun j=>(w.cell? ⟨b,off+j,none⟩).getD (.slice none 0 0))[j]? = some u→w.cell? ⟨b,off+j,none⟩=some u∧KSC 2 w u (xs.getD j []):=fun j u hu=>by
  have hj:j < xs.length:=by have:=(List.getElem?_eq_some_iff.1 hu).1;omega
  obtain⟨v,h1,h2⟩:=hc j hj;rw[List.getElem?_map,List.getElem?_range hj] at hu;injection hu with hu;have hu:(w.cell? ⟨b,off+j,none⟩).getD (.slice none 0 0)=u:=hu;rw[h1] at hu;have hu:v=u:=hu;subst hu;exact⟨h1,h2⟩
 refine⟨b,off,_,hv1.trans (ha h0),hl,fun j u hu=>(hg j u hu).1,⟨hl,fun j v u hv hu=>?_⟩,fun u hu=>?_⟩
 ·have:=(hg j v hv).2
  rwa [List.getD_eq_getElem?_getD,hu] at this
 ·obtain⟨j,hj,rfl⟩:=List.getElem_of_mem hu;exact(hg j _ (List.getElem?_eq_getElem hj)).2.oneCell
theorem cloneVsK {w:World}{v:Value}{ss:List (List (List Int))}(h:KSSC 2 w v ss) (hn:ss.length≤1000000) :
  Calls Tryz.prog 90 #[v] w fun e w'=>∃u,e = .returned u∧OwX 38 1 (EWk w) w' w.heap.size u ss.length ss∧Go.RowKit.Below w.heap.size w w':=by
 obtain⟨a,c,rfl⟩:=h.shape;rcases Nat.eq_zero_or_pos ss.length with h0|h0
 ·obtain rfl:=List.length_eq_zero_iff.1 h0;cases a with
  | none=>
   refine(cloneVsNil _ _).mono ?_;rintro e w' ⟨rfl,rfl⟩;exact⟨_,rfl,OwX.nil _ _,Below.refl _ _⟩
  | some ad=>
   refine(cloneVs ad 0 c [] rfl (by decide) (fun j u hj=>by simp at hj) (by simp)).mono ?_;rintro e w' ⟨u,rfl,ho,hb⟩;exact⟨u,rfl,OwX.ofWK ho ⟨rfl,by simp⟩,hb⟩
 ·obtain⟨b,off,vs,rfl,hl,hc,hW,h1⟩:=kssc_vals h h0;refine(cloneVs ⟨b,off,none⟩ ss.length c vs (by omega) hn (fun j u hj=>by rw[Addr.add_lit];exact hc j u hj) h1).mono ?_;rintro e w' ⟨u,rfl,ho,hb⟩;exact⟨u,rfl,OwX.ofWK ho hW,hb⟩
theorem sortVsNil (p:Option Addr) (cap:Nat) (w:World):Calls Tryz.prog 197 #[.slice p 0 cap,.func (.func 92) #[] #[]] w fun e w'=>e = .returned (.tuple #[])∧w'=w:=
 AnyF.slices_SortFunc_none (P:=Tryz.prog) (ρ:=Tryz.sortVs_ren) { Tryz.sortVs with } p cap (.func (.func 92) #[] #[]) w
theorem compactVsNil (p:Option Addr) (cap:Nat) (w:World):Calls Tryz.prog 198 #[.slice p 0 cap,.func (.func 199) #[] #[]] w fun e w'=>e = .returned (.slice p 0 cap)∧w'=w:=by
 go_enter Tryz.func198, Tryz.ntmps198
 go_wp2;go_ret;exact⟨rfl,rfl⟩
def EVx (w:World) (cs:List Value) (x:List (List Int)):Prop:=∃a c,cs = [.slice a x.length c]∧OwX 83 2 EI w 0 (.slice a x.length c) x.length x
theorem EVx.stab {E:TypeId}(h:83 ≠ E):Stab E EVx:=fun _ _ _ _ ⟨a,c,e,k⟩ hx=>⟨a,c,e,k.other (EI.stab _) h hx⟩
theorem EVx.stb:Stab 38 EVx:=EVx.stab (by decide)
theorem EVx.stc:Stab 57 EVx:=EVx.stab (by decide)
def oCx10_0:Oper:=⟨some 30,.fieldAddr 57 (.tmp 4) 0,0,"complex.go:103",#[],none⟩
def oCx10_1:Oper:=⟨some 31,.load 55 (.tmp 30),55,"complex.go:103",#[⟨0,.data⟩],none⟩
def oCx10_2:Oper:=⟨some 32,.move (.tmp 6),38,"complex.go:103",#[],none⟩
def oCx10_3:Oper:=⟨some 33,.call { callee:=.value (.func 200),args:=#[.tmp 32],argTypes:=#[38] },38,"complex.go:103",#[⟨2,.data⟩],none⟩
def oCx10_4:Oper:=⟨some 34,.buildSlice 55 1 #[(0,.tmp 33)],55,"complex.go:103",#[⟨3,.data⟩],none⟩
def oCx10_5:Oper:=⟨some 35,.call { callee:=.builtin .append,args:=#[.tmp 31,.tmp 34],argTypes:=#[55,55] },55,"complex.go:103",#[⟨1,.data⟩,⟨4,.data⟩,⟨3,.chain⟩],none⟩
def oCx10_6:Oper:=⟨some 36,.fieldAddr 57 (.tmp 4) 0,0,"complex.go:103",#[⟨0,.phase⟩,⟨1,.phase⟩,⟨2,.phase⟩,⟨3,.phase⟩,⟨4,.phase⟩,⟨5,.phase⟩],none⟩
def oCx10_7:Oper:=⟨none,.store 55 (.tmp 36) (.tmp 35),0,"complex.go:103",#[⟨6,.data⟩,⟨5,.data⟩,⟨5,.chain⟩,⟨0,.phase⟩,⟨1,.phase⟩,⟨2,.phase⟩,⟨3,.phase⟩,⟨4,.phase⟩,⟨5,.phase⟩],none⟩
def opsCxo10:List Oper:=[oCx10_0,oCx10_1,oCx10_2,oCx10_3,oCx10_4,oCx10_5,oCx10_6,oCx10_7]
theorem regCx10 {w:World}{x0 x1 x2 x3 x5 x7 x8 x9 x10 x11 x12 x13 x14 x15 x16 x17 x18 x19 x20 x21 x22 x23 x24 x25 x26 x27 x28 x29 x30 x31 x32 x33 x34 x35 x36 x37 x38:Value}{Q:Exit→Act→World→Prop}{b4 B oc sc:Nat}{oa sa:Option Addr}{xs:List (List (List Int))}{s:List (List Int)}
  (k4:w.heap[b4]? = some (.cells #[.slice oa xs.length oc] 57)) (ho:OwX 38 1 EVx w B (.slice oa xs.length oc) xs.length xs) (hs:∀W,Below B w W→KSC 2 W (.slice sa s.length sc) s) (hsl:s.length≤1000000) (hxl:xs.length≤1000000) (hBb:B≤b4)
  (hfin:∀(y3 y4 y5 _y7:Value) (W:World),(Below B w W∧((fun i=>decide (i < 8)) 7=false→W.heap[b4]? = some (.cells #[.slice oa xs.length oc] 57))∧((fun i=>decide (i < 8)) 5=false→OwX 38 1 EVx W B (.slice oa xs.length oc) xs.length xs)∧((fun i=>decide (i < 8)) 3=true→(∃a c,y3 = .slice a s.length c)∧OwX 83 2 EI W 0 y3 s.length s)∧((fun i=>decide (i < 8)) 4=true→(fun i=>decide (i < 8)) 5=false→∃g,y4 = .slice (some ⟨g,0,none⟩) 1 1∧W.heap[g]? = some (.cells #[y3] 38))∧((fun i=>decide (i < 8)) 5=true→(∃a c,y5 = .slice a (xs.length+1) c)∧OwX 38 1 EVx W B y5 (xs.length+1) (xs ++ [s]))∧((fun i=>decide (i < 8)) 7=true→W.heap[b4]? = some (.cells #[y5] 57))∧w.heap.size≤W.heap.size)→(True)→(True)→(True)→(True)→Q .normal ⟨#[x0,x1,x2,x3,.pointer (some ⟨b4,0,none⟩),x5,.slice sa s.length sc,x7,x8,x9,x10,x11,x12,x13,x14,x15,x16,x17,x18,x19,x20,x21,x22,x23,x24,x25,x26,x27,x28,x29,.pointer (some ⟨b4,0,none⟩),.slice oa xs.length oc,.slice sa s.length sc,y3,y4,y5,.pointer (some ⟨b4,0,none⟩),x37,x38],[]⟩ W) :
  (Code.region 10 opsCxo10.toArray true).wp Tryz.prog Q ⟨#[x0,x1,x2,x3,.pointer (some ⟨b4,0,none⟩),x5,.slice sa s.length sc,x7,x8,x9,x10,x11,x12,x13,x14,x15,x16,x17,x18,x19,x20,x21,x22,x23,x24,x25,x26,x27,x28,x29,x30,x31,x32,x33,x34,x35,x36,x37,x38],[]⟩ w:=by
 have hBs:B≤w.heap.size:=by have:=(Array.getElem?_eq_some_iff.1 k4).1;omega
 obtain⟨SG,hSG⟩:=exS (StepG Tryz.prog opsCxo10.toArray (fun ys=>⟨#[x0,x1,x2,x3,.pointer (some ⟨b4,0,none⟩),x5,.slice sa s.length sc,x7,x8,x9,x10,x11,x12,x13,x14,x15,x16,x17,x18,x19,x20,x21,x22,x23,x24,x25,x26,x27,x28,x29,ys 0,ys 1,ys 2,ys 3,ys 4,ys 5,ys 6,x37,x38],[]⟩) [eqV (.pointer (some ⟨b4,0,none⟩)),eqV (.slice oa xs.length oc),eqV (.slice sa s.length sc),anyV,anyV,anyV,eqV (.pointer (some ⟨b4,0,none⟩)),anyV] (fun _ _=>True) (fun D ys W=>Below B w W∧(D 7=false→W.heap[b4]? = some (.cells #[.slice oa xs.length oc] 57))∧(D 5=false→OwX 38 1 EVx W B (.slice oa xs.length oc) xs.length xs)∧(D 3=true→(∃a c,(ys 3) = .slice a s.length c)∧OwX 83 2 EI W 0 (ys 3) s.length s)∧(D 4=true→D 5=false→∃g,(ys 4) = .slice (some ⟨g,0,none⟩) 1 1∧W.heap[g]? = some (.cells #[(ys 3)] 38))∧(D 5=true→(∃a c,(ys 5) = .slice a (xs.length+1) c)∧OwX 38 1 EVx W B (ys 5) (xs.length+1) (xs ++ [s]))∧(D 7=true→W.heap[b4]? = some (.cells #[(ys 5)] 57))∧w.heap.size≤W.heap.size) Q)
 have st0:SG 0 oCx10_0:=by
  subst hSG;refine StepG.mk rfl (openY 3 fun y3=>openY 4 fun y4=>openY 5 fun y5=>fun ys D W K _ _ _ hG hK=>?_);simp only[updG,Nat.reduceEqDiff,reduceIte] at hG⊢;unfold oCx10_0;obtain⟨g1,g2,g3,g4,g5,g6,g7,g8⟩:=hG;go_simp;exact hK _ _ trivial ⟨g1,g2,g3,g4,g5,g6,g7,g8⟩ rfl
 have st1:SG 1 oCx10_1:=by
  subst hSG;refine StepG.mk rfl (openY 0 fun y0=>openY 3 fun y3=>openY 4 fun y4=>openY 5 fun y5=>fun ys D W K hD hcl hd hG hK=>?_);have e0:y0=_:=(hd.get 0 rfl).2;subst e0;simp only[updG,Nat.reduceEqDiff,reduceIte] at hG⊢;unfold oCx10_1;have d7:=hcl.no (j:=7) (i:=1) rfl (by kernel_rfl) hD;obtain⟨g1,g2,g3,g4,g5,g6,g7,g8⟩:=hG;have z0:=cell_of_one (g2 d7);go_simp;exact hK _ _ trivial ⟨g1,g2,g3,g4,g5,g6,g7,g8⟩ rfl
 have st2:SG 2 oCx10_2:=by
  subst hSG;refine StepG.mk rfl (openY 3 fun y3=>openY 4 fun y4=>openY 5 fun y5=>fun ys D W K _ _ _ hG hK=>?_);simp only[updG,Nat.reduceEqDiff,reduceIte] at hG⊢;unfold oCx10_2;obtain⟨g1,g2,g3,g4,g5,g6,g7,g8⟩:=hG;go_simp;exact hK _ _ trivial ⟨g1,g2,g3,g4,g5,g6,g7,g8⟩ rfl
 have st3:SG 3 oCx10_3:=by
  subst hSG;refine StepG.mk rfl (openY 2 fun y2=>openY 3 fun y3=>openY 4 fun y4=>openY 5 fun y5=>fun ys D W K hD hcl hd hG hK=>?_);have e2:y2=_:=(hd.get 2 rfl).2;subst e2;simp only[updG,Nat.reduceEqDiff,reduceIte] at hG⊢;unfold oCx10_3;have d4:=hcl.no (j:=4) (i:=3) rfl (by kernel_rfl) hD;have d5:=hcl.no (j:=5) (i:=3) rfl (by kernel_rfl) hD;have d7:=hcl.no (j:=7) (i:=3) rfl (by kernel_rfl) hD;obtain⟨g1,g2,g3,g4,g5,g6,g7,g8⟩:=hG;go_simp;refine(cloneVxK (hs W g1).ks hsl).mono ?_;rintro e W9 ⟨u9,rfl,h9,hb9⟩;obtain⟨a1,c1,rfl⟩:=h9.shape;exact hK _ _ trivial ⟨g1.trans (hb9.mono (Nat.le_trans hBs g8)),fun _=>keptO hb9 (g2 d7),fun _=>(g3 d5).keep EVx.stb hb9,fun _=>⟨⟨_,_,rfl⟩,h9.base (Nat.zero_le _)⟩,fun h=>(by rw[show addG D 3 4=D 4 from rfl,d4] at h;cases h),fun h=>(by rw[show addG D 3 5=D 5 from rfl,d5] at h;cases h),fun h=>(by rw[show addG D 3 7=D 7 from rfl,d7] at h;cases h),Nat.le_trans g8 hb9.size⟩ trivial
 have st4:SG 4 oCx10_4:=by
  subst hSG;refine StepG.mk rfl (openY 3 fun y3=>openY 4 fun y4=>openY 5 fun y5=>fun ys D W K hD hcl hd hG hK=>?_);have d3:=(hd.get 3 rfl).1;simp only[updG,Nat.reduceEqDiff,reduceIte] at hG⊢;unfold oCx10_4;have d5:=hcl.no (j:=5) (i:=4) rfl (by kernel_rfl) hD;have d7:=hcl.no (j:=7) (i:=4) rfl (by kernel_rfl) hD;have d3:=(hd.get 3 rfl).1;obtain⟨g1,g2,g3,g4,g5,g6,g7,g8⟩:=hG;obtain⟨⟨a1,c1,e1⟩,h1⟩:=g4 d3;subst e1;have ha:Below W.heap.size W (W.alloc (.cells #[.slice a1 s.length c1] 38)):=(Below.refl _ W).alloc (Nat.le_refl _) _;go_simp;exact hK _ _ trivial ⟨g1.trans (ha.mono (Nat.le_trans hBs g8)),fun _=>keptO ha (g2 d7),fun _=>(g3 d5).keep EVx.stb ha,fun _=>⟨⟨_,_,rfl⟩,h1.keep (EI.stab _) ha⟩,fun _ _=>⟨_,rfl,heap_alloc_new W _⟩,fun h=>(by rw[show addG D 4 5=D 5 from rfl,d5] at h;cases h),fun h=>(by rw[show addG D 4 7=D 7 from rfl,d7] at h;cases h),Nat.le_trans g8 ha.size⟩ trivial
 have st5:SG 5 oCx10_5:=by
  subst hSG;refine StepG.mk rfl (openY 1 fun y1=>openY 3 fun y3=>openY 4 fun y4=>openY 5 fun y5=>fun ys D W K hD hcl hd hG hK=>?_);have e1:y1=_:=(hd.get 1 rfl).2;have d4:=(hd.get 4 rfl).1;have d3:=(hd.get 3 rfl).1;subst e1;simp only[updG,Nat.reduceEqDiff,reduceIte] at hG⊢;unfold oCx10_5;have d7:=hcl.no (j:=7) (i:=5) rfl (by kernel_rfl) hD;have d3:=(hd.get 3 rfl).1;have d4:=(hd.get 4 rfl).1;obtain⟨g1,g2,g3,g4,g5,g6,g7,g8⟩:=hG;obtain⟨⟨a1,c1,e1⟩,h1⟩:=g4 d3;subst e1;obtain⟨g,e4,hg⟩:=g5 d4 hD;subst e4;refine wp_appX (B:=B) (cs:=[.slice a1 s.length c1]) (x:=s) elemVs (by decide) (by decide) EVx.stb _ _ (by rfl) (by rfl) (g3 hD) ⟨g,0,none⟩ 1 (by rfl) rfl (World.news_of_block hg) (fun u hu=>by rw[List.mem_singleton.1 hu];rfl) ⟨a1,c1,rfl,h1⟩ (by omega) (Nat.le_trans hBs g8) ?_;intro v9 w9 hO9 hg9 hn9 hb9 hx9;obtain⟨a9,c9,rfl⟩:=hO9.shape;exact hK _ _ trivial ⟨g1.trans hb9,fun _=>(hx9 b4 _ _ (g2 d7) (by decide)).trans (g2 d7),fun h=>(by cases h),fun _=>⟨⟨_,_,rfl⟩,h1.other (EI.stab _) (by decide) hx9⟩,fun _ h=>(by cases h),fun _=>⟨⟨_,_,rfl⟩,hO9⟩,fun h=>(by rw[show addG D 5 7=D 7 from rfl,d7] at h;cases h),Nat.le_trans g8 hg9.size⟩ trivial
 have st6:SG 6 oCx10_6:=by
  subst hSG;refine StepG.mk rfl (openY 3 fun y3=>openY 4 fun y4=>openY 5 fun y5=>fun ys D W K _ _ _ hG hK=>?_);simp only[updG,Nat.reduceEqDiff,reduceIte] at hG⊢;unfold oCx10_6;obtain⟨g1,g2,g3,g4,g5,g6,g7,g8⟩:=hG;go_simp;exact hK _ _ trivial ⟨g1,g2,g3,g4,g5,g6,g7,g8⟩ rfl
 have st7:SG 7 oCx10_7:=by
  subst hSG;refine StepG.mk rfl (openY 6 fun y6=>openY 3 fun y3=>openY 4 fun y4=>openY 5 fun y5=>fun ys D W K hD _ hd hG hK=>?_);have e6:y6=_:=(hd.get 6 rfl).2;have d5:=(hd.get 5 rfl).1;subst e6;simp only[updG,Nat.reduceEqDiff,reduceIte] at hG⊢;unfold oCx10_7;have d5:=(hd.get 5 rfl).1;obtain⟨g1,g2,g3,g4,g5,g6,g7,g8⟩:=hG;obtain⟨⟨a9,c9,hy5⟩,hO9⟩:=g6 d5;subst hy5;have k7:=g2 hD;have z0:=cell_of_one k7;have fz:=row_free k7;have hX:=KeepX.setCell (p:=⟨b4,0,none⟩) k7 (.slice a9 (xs.length+1) c9);go_simp;exact hK undef _ trivial ⟨g1.setCell (p:=⟨b4,0,none⟩) hBb _,fun h=>(by cases h),fun h=>(by rw[show addG D 7 5=D 5 from rfl,d5] at h;cases h),fun h=>(let ⟨p,q⟩:=g4 h;⟨p,q.other (EI.stab _) (by decide) hX⟩),fun _ h=>(by rw[show addG D 7 5=D 5 from rfl,d5] at h;cases h),fun _=>⟨⟨_,_,rfl⟩,hO9.other EVx.stc (by decide) hX⟩,fun _=>heap_setCell_same W b4 0 _ _ _ k7,(by simpa using g8)⟩ trivial
 subst hSG;refine wp_region_sg (l:=opsCxo10) ⟨st0,st1,st2,st3,st4,st5,st6,st7,trivial⟩ (fun i=>([x30,x31,x32,x33,x34,x35,x36,undef]:List Value).getD i undef) (by kernel_rfl) (by kernel_rfl) ⟨sE,sE,sE,fun _ _ _ h _=>h,fun _ _ _ h _=>h,fun _ _ _ h _=>h,sE,fun _ _ _ h _=>h,trivial⟩ ?g0 ?gx ?fin
 case g0=>exact⟨(below_drewN (Below.refl _ w) 1).mono hBs,fun _=>k4,fun _=>ho.keep EVx.stb (below_drewN (Below.refl _ w) 1),fun h=>(by cases h),fun h=>(by cases h),fun h=>(by cases h),fun h=>(by cases h),Nat.le_refl _⟩
 case gx=>exact fun D D' ys W h ⟨g1,g2,g3,g4,g5,g6,g7,g8⟩=>⟨g1,fun q=>g2 ((h 7 (by decide)).trans q),fun q=>g3 ((h 5 (by decide)).trans q),fun q=>g4 ((h 3 (by decide)).trans q),fun q q'=>g5 ((h 4 (by decide)).trans q) ((h 5 (by decide)).trans q'),fun q=>g6 ((h 5 (by decide)).trans q),fun q=>g7 ((h 7 (by decide)).trans q),g8⟩
 case fin=>
  intro ys W hG hp;try dsimp only
  rw[(hp 0 (by decide):ys 0=_),(hp 1 (by decide):ys 1=_),(hp 2 (by decide):ys 2=_),(hp 6 (by decide):ys 6=_)];exact hfin (ys 3) (ys 4) (ys 5) (ys 7) W hG (hp 3 (by decide)) (hp 4 (by decide)) (hp 5 (by decide)) (hp 7 (by decide))
end Go.Proofs.YtcnedkkcgdkioaaGreat
