/- Texts of this claim, put together: V3 V4 TJ TK. -/
import Derived.Test.YtcnedkkcgdkioaaGreatKSk
import Derived.Control

set_option maxRecDepth 100000
set_option maxHeartbeats 12800000
namespace Go.Proofs.YtcnedkkcgdkioaaGreat
open Go.RowKit
attribute [local go_sem] Oper.semAt_some
def colD (r:Nat):Deferred:={ target:=.collected r,args:=#[] }
theorem leavesAll {fn:Func}{tmps:Array Value}{R:Ending->World->Prop}{p:Tmp}{B:Nat}(hres:fn.results = #[.tmp p]):∀(rs:List Nat) (w:World),(∀r∈rs,w.heap[r]? = some (.deferred (some []))/\B<=r)->rs.Nodup->
  (∀w',Below B w w'->R (.returned (tmps.getD p undef)) w')->LeavesInM Fence.wide 0 Tryz.prog fn tmps R (rs.map colD) .returning w
 | [],w,_,_,h=>⟨_,results_tmp hres _ _ _,h w (Below.refl _ _)⟩
 | r::rs,w,hr,hn,h=>by
  rw[List.nodup_cons] at hn;obtain⟨h1,h2⟩:=hr r (by simp);refine⟨by simp,.inl ⟨r,_,rfl,run_takeDeferred h1,?_⟩⟩;have hb:Below B w (w.putObj r (.deferred none)):=below_putObj (Below.refl _ _) h2 _;refine leavesAll hres rs _ (fun r' hr'=>?_) hn.2 (fun w' hw'=>h w' (hb.trans hw'));obtain⟨h3,h4⟩:=hr r' (by simp[hr']);exact⟨(World.putObj_heap_other (fun e=>hn.1 (by rw[<-e];exact hr'))).trans h3,h4⟩
def selP (pre:List (Nat × List Int)) (j:Nat):Jb:=pre.filterMap fun x=>if x.1=j then some x.2 else none
theorem selP_app (a b:List (Nat × List Int)) (j:Nat):selP (a++b) j=selP a j++selP b j:=List.filterMap_append
theorem selP_map (k j:Nat):∀ms:Jb,selP (ms.map fun m=>(k,m)) j=if k=j then ms else []
 | []=>by simp[selP]
 | m::r=>by
  have h:=selP_map k j r;rw[selP] at h;rw[List.map_cons,selP,List.filterMap_cons];by_cases e:k=j
  ·rw[if_pos e] at h|-;simp only[if_pos e];rw[h]
  ·rw[if_neg e] at h|-;simp only[if_neg e];exact h
theorem selP_lt:∀(ss:Jc) (k j:Nat),j < k->selP (mvs k ss) j = []
 | [],_,_,_=>rfl
 | l::r,k,j,h=>by rw[mvs,selP_app,selP_map,if_neg (by omega),selP_lt r (k+1) j (by omega)];rfl
theorem selP_all:∀(ss:Jc) (k j:Nat),selP (mvs k ss) (k+j)=ss.getD j []
 | [],_,_=>rfl
 | l::r,k,0=>by rw[mvs,selP_app,selP_map,Nat.add_zero,if_pos rfl,selP_lt r (k+1) k (by omega),List.append_nil];rfl
 | l::r,k,j+1=>by
  rw[mvs,selP_app,selP_map,if_neg (by omega),List.nil_append,show k+(j+1)=k+1+j by omega,selP_all r (k+1) j];rfl
theorem mvs_in3:∀ {ss:Jc}{k:Nat}{x:Nat × List Int},x∈mvs k ss->∃i,x.1=k+i/\i < ss.length/\x.2∈ss.getD i []
 | [],_,_,h=>by cases h
 | l::r,k,x,h=>by
  rw[mvs,List.mem_append] at h;rcases h with h|h
  ·obtain⟨m,hm,rfl⟩:=List.mem_map.1 h;exact⟨0,rfl,by simp,hm⟩
  ·obtain⟨i,h1,h2,h3⟩:=mvs_in3 h;exact⟨i+1,by omega,by simp;omega,h3⟩
def rowP (L N:Nat) (P:List Nat) (pre:List (Nat × List Int)):List Nat:=(List.range N).map fun s=>stM L P (selP pre s)
theorem rowP_nil (L N:Nat) (P:List Nat):rowP L N P []=List.replicate N 0:=by
 refine List.ext_getElem (by simp[rowP]) fun i h1 h2=>?_;simp[rowP,selP,stM]
theorem rowP_at {L N:Nat}{P:List Nat}{pre:List (Nat × List Int)}{s:Nat}(h:s < N):(rowP L N P pre).getD s 0=stM L P (selP pre s):=by
 rw[getD_eq (by simpa [rowP] using h)];simp[rowP]
theorem rowP_step {L N:Nat}{P:List Nat}{pre:List (Nat × List Int)}{s:Nat}{m:List Int}:rowP L N P (pre ++ [(s,m)])=(rowP L N P pre).set s (min (stM L P (selP pre s)+P.getD (mvTo m) 0) L):=by
 refine List.ext_getElem (by simp[rowP]) fun i h1 h2=>?_;have hi:i < N:=by simpa [rowP] using h1
 rw[List.getElem_set];simp only[rowP,List.getElem_map,List.getElem_range];by_cases e:s=i
 ·subst e;rw[if_pos rfl,selP_app,stM,List.foldl_append];have:selP [(s,m)] s = [m]:=by simp[selP]
  rw[this,List.foldl_cons,List.foldl_nil];rfl
 ·rw[if_neg e,selP_app];have:selP [(s,m)] i = []:=by simp[selP,e]
  rw[this,List.append_nil]
theorem rowP_all (L:Nat) (P:List Nat) (ss:Jc):rowP L ss.length P (mvs 0 ss)=ss.map (stM L P):=by
 refine List.ext_getElem (by simp[rowP]) fun i h1 h2=>?_;have hi:i < ss.length:=by simpa [rowP] using h1
 simp only[rowP,List.getElem_map,List.getElem_range];have:=selP_all ss 0 i
 rw[Nat.zero_add] at this;rw[this,getD_eq hi]
theorem OI.same {w w':World}{B g n c:Nat}{xs:List Int}(h:OI w B (.slice (some ⟨g,0,none⟩) n c) n xs) (hn:0 < n) (hg:w'.heap[g]? = w.heap[g]?):OI w' B (.slice (some ⟨g,0,none⟩) n c) n xs:=by
 refine⟨h.1,?_⟩;rcases h.2 with⟨_,h'⟩|⟨g',cap,cur,h1,h2,h3,h4⟩
 ·omega
 ·have:g'=g:=by injection h1 with h1;injection h1 with h1;injection h1 with h1;exact h1.symm
  subst this;exact .inr ⟨g',cap,cur,h1,h2,hg.trans h3,h4⟩
theorem OI.made {w:World}{B g n c:Nat}{xs:List Int}(h:OI w B (.slice (some ⟨g,0,none⟩) n c) n xs) (hn:0 < n):B<=g/\g < w.heap.size/\∃cs,w.heap[g]? = some (.cells cs 3):=by
 rcases h.2 with⟨_,h'⟩|⟨g',cap,cur,h1,h2,h3,h4⟩
 ·omega
 ·have:g'=g:=by injection h1 with h1;injection h1 with h1;injection h1 with h1;exact h1.symm
  subst this;exact⟨h2,(Array.getElem?_eq_some_iff.1 h3).1,_,h3⟩
def WdOK (ss:Jc):Prop:=ss.length<=90/\movesN ss<=1000000/\0 < ss.length/\∀s∈ss,0 < s.length/\∀m∈s,m.length=8/\0<=m.getD 7 0/\m.getD 7 0 < (ss.length:Int)
theorem ClsOK.wd {ss:Jc}(h:ClsOK ss):WdOK ss:=⟨h.1,by have:=h.2.1;omega,h.2.2.1,fun s hs=>⟨(h.2.2.2 s hs).1,fun m hm=>((h.2.2.2 s hs).2 m hm).2⟩⟩
theorem LeadOK.ofWd {ss:Jc}(h:WdOK ss):LeadOK ss:=fun s hs m hm=>((h.2.2.2 s hs).2 m hm).2
theorem numberW {w:World}{v:Value}{n:Int}{ss:Jc}(hA:AdvV w v n ss) (hOc:WdOK ss) {k L:Nat}{lim:Int}(hk:k<=100) (hL:lim+1=(L:Int)) (hL1:1<=L) (hL9:L<=2000000) :
  Calls Tryz.prog 190 #[v,.int .i64 (k:Int),.int .i64 lim] w fun e w'=>e = .returned (.int .i64 (num ss L k:Nat))/\Below w.heap.size w w':=by
 have h8:=hA.len8;have hA':=hA;obtain⟨sv,rfl,hK⟩:=hA';obtain⟨sa,sc,hsv⟩:=hK.shape;subst hsv;obtain⟨N,hN⟩:=exE (ss.length);have h0:=hOc.2.2.1;have hl:=hOc.1;rw[hN] at h0 hl hK|-;have hwL:IntKind.i64.wrap (lim+1)=(L:Int):=by rw[hL];exact IntWalk.i64_in _ (by omega)
 have hwL2:IntKind.i64.wrap (L:Int)=(L:Int):=IntWalk.i64_in _ (by omega);obtain⟨W1,hW1⟩:=exF (((w.alloc (.cells #[.int .i64 n,.slice sa N sc] 27)).alloc (.cells #[.int .i64 lim] 3)).alloc (.cells #[.int .i64 1] 3));have hs1:W1.heap.size=w.heap.size+3:=by rw[hW1];simp
 have hb1:Below w.heap.size w W1:=by rw[hW1];exact(((Below.refl _ w).alloc (Nat.le_refl _) _).alloc (by simp) _).alloc (by simp;omega) _
 have kA:W1.heap[w.heap.size]? = some (.cells #[.int .i64 n,.slice sa N sc] 27):=by
  rw[hW1];exact(Below.heap_alloc _ _ _ (by simp;omega)).trans ((Below.heap_alloc _ _ _ (by simp)).trans (World.alloc_heap_new w _))
 have kL:W1.heap[w.heap.size+1]? = some (.cells #[.int .i64 lim] 3 (0,0)):=by
  rw[hW1];refine(Below.heap_alloc _ _ _ (by simp)).trans ?_;have:=World.alloc_heap_new (w.alloc (.cells #[.int .i64 n,.slice sa N sc] 27)) (.cells #[.int .i64 lim] 3)
  rwa [World.size_alloc] at this
 have k1:W1.heap[w.heap.size+1+1]? = some (.cells #[.int .i64 1] 3 (0,0)):=by
  rw[hW1];have:=World.alloc_heap_new ((w.alloc (.cells #[.int .i64 n,.slice sa N sc] 27)).alloc (.cells #[.int .i64 lim] 3)) (.cells #[.int .i64 1] 3)
  simpa only [World.size_alloc] using this
 have hc1:=cell_of_one k1;obtain⟨d0,d1⟩:=box2 kA;refine callsIn_wide.1 (callsIn_of_wp_marks (n:=0) Tryz.func190 rfl trivial ?_);simp only[Tryz.ntmps190,List.size_toArray,List.length_cons,List.length_nil,Nat.reduceAdd,Nat.reduceSub,Array.replicate_succ,Array.replicate_zero,List.push_toArray,List.append_toArray,List.nil_append,List.cons_append];refine wpIn_wide.2 ?_;replace hN:=qH hN;replace hOc:=qH hOc;replace hK:=qH hK;replace hL:=qH hL;replace hs1:=qH hs1;go_wp2_with fail
 rw[<-hW1];replace hW1:=qH hW1;refine(repeatOne hc1 h0 hl).mono ?_;rintro e w2 ⟨u,rfl,hOI,hb2⟩;have hb12:=bt hb1 hb2 hb1.size;obtain⟨ua,uc,hus⟩:=hOI.shape;subst hus;have kA2:=(hb2.block w.heap.size (by have:=hs1.out;omega)).trans kA;have kL2:=(hb2.block (w.heap.size+1) (by have:=hs1.out;omega)).trans kL;go_wp2_with fail
 have hOI0:OI (w2.alloc (.cells #[.slice ua N uc] 48)) w.heap.size (.slice ua N uc) N (natI (numL ss L 0)):=by
  rw[numL,hN.out];exact(hOI.keep ((Below.refl _ _).alloc (Nat.le_refl _) _)).base hb1.size
 have hbx0:(w2.alloc (.cells #[.slice ua N uc] 48)).heap[w2.heap.size]? = some (.cells #[.slice ua N uc] 48 (0,0)):=heap_alloc_new _ _;have hb20:Below w2.heap.size w2 (w2.alloc (.cells #[.slice ua N uc] 48)):=(Below.refl _ _).alloc (Nat.le_refl _) _
 refine wp_loop (fun a W=>∃(u4 u8 u9 u10 u11 u12 u13 u14 u15 u18 u19 u20 u21 u22 u23 u24 u25 u26 u27 u28 u29 u30 u31 u32 u33 u34 u35 u36 u37 u38 u39 u40 u41 u42 u43 u44 u45 u46:Value) (i:Nat) (rs:List Nat) (cv:Value),i<=k/\W.heap[w2.heap.size]? = some (.cells #[cv] 48 (0,0))/\OI W w.heap.size cv N (natI (numL ss L i))/\(∀r∈rs,W.heap[r]? = some (.deferred (some []))/\w2.heap.size<=r)/\rs.Nodup/\Below w2.heap.size w2 W/\
  a = { tmps:=#[.agg #[.int .i64 n,.slice sa N sc],.int .i64 (k:Int),.int .i64 lim,.pointer (some ⟨w.heap.size,0,none⟩),u4,.pointer (some ⟨w.heap.size+1,0,none⟩),.int .i64 0,.pointer (some ⟨w2.heap.size,0,none⟩),u8,u9,u10,u11,u12,u13,u14,u15,.int .i64 (k:Int),.int .i64 (i:Int),u18,u19,u20,u21,u22,u23,u24,u25,u26,u27,u28,u29,u30,u31,u32,u33,u34,u35,u36,u37,u38,u39,u40,u41,u42,u43,u44,u45,u46],defers:=rs.map colD }) (fun a _=>k - (intOf (a.tmps.getD 17 undef)).toNat) ?_ ?_
 ·refine⟨_,_,_,_,_,_,_,_,_,_,_,_,_,_,_,_,_,_,_,_,_,_,_,_,_,_,_,_,_,_,_,_,_,_,_,_,_,_,0,[],_,Nat.zero_le _,hbx0,hOI0,by simp,List.nodup_nil,hb20,rfl⟩
 clear hOI0 hbx0 hb20 hOI;rintro a wr ⟨u4,u8,u9,u10,u11,u12,u13,u14,u15,u18,u19,u20,u21,u22,u23,u24,u25,u26,u27,u28,u29,u30,u31,u32,u33,u34,u35,u36,u37,u38,u39,u40,u41,u42,u43,u44,u45,u46,i,rs,cv,hi,hbx,hO,hrs,hnd,hbr,rfl⟩;obtain⟨g,gc,hgs,hgb⟩:=hO.form h0;subst hgs;have hsz2:w.heap.size+1+1 < w2.heap.size:=by have:=hs1.out;have:=hb2.size;omega
 have kA3:=(hbr.block w.heap.size (by omega)).trans kA2;have kL3:=(hbr.block (w.heap.size+1) (by omega)).trans kL2;obtain⟨d0,d1⟩:=box2 kA3;have cb:=cell_of_one hbx;have cl:=cell_of_one kL3;by_cases hlt:i < k
 ·have hik:(i:Int) < (k:Int):=by omega
  obtain⟨P,hP⟩:=exE (numL ss L i);rw[hP] at hO;have hPb:Hid (∀j,P.getD j 0<=L):=fun j=>by rw[<-hP];exact numL_le ss hL1 i j
  have hQ:Hid (numL ss L (i+1)=ss.map (stM L P)):=by show _=_;rw[numL,hP]
  replace hP:=qH hP;replace hsz2:=qH hsz2;go_wp2_with (first|(at_make;refine wpMakeI rfl _ _ rfl N rfl rfl (by omega) (Nat.le_refl _) ?_;intro w3 ho3 hgr3 hb3;have hb34:=(Below.refl w3.heap.size w3).alloc (Nat.le_refl _) (.cells #[.slice (some ⟨wr.heap.size,0,none⟩) N N] 48);obtain⟨e0,e1⟩:=(box2 ((hb3.block w.heap.size (by have:=hsz2.out;have:=hbr.size;omega)).trans kA3));replace e0:=cell_kept hb34 e0;replace e1:=cell_kept hb34 e1)|(go_at_call 219;refine(movesCall _ _ _ _ _).mono ?_;rintro e w5 ⟨rfl,rfl⟩))
  obtain⟨gb,hgbe⟩:=exF (w3.heap.size);obtain⟨gN,hgN⟩:=exF (wr.heap.size);obtain⟨W4,hW4⟩:=exF ((w3.alloc (.cells #[.slice (some ⟨wr.heap.size,0,none⟩) N N] 48)).alloc (.cells #[.int .i64 n,.slice sa N sc] 27));have hb4:Below w3.heap.size w3 W4:=by rw[hW4];exact hb34.alloc hb34.size _
  have hs4:W4.heap.size=gb+1+1:=by rw[hW4,hgbe];simp
  have hb24:Below wr.heap.size wr W4:=hb3.trans (hb4.mono hb3.size)
  have kX:W4.heap[gb+1]? = some (.cells #[.int .i64 n,.slice sa N sc] 27):=by
   rw[hW4,hgbe];have:=World.alloc_heap_new (w3.alloc (.cells #[.slice (some ⟨wr.heap.size,0,none⟩) N N] 48)) (.cells #[.int .i64 n,.slice sa N sc] 27)
   rwa [World.size_alloc] at this
  have kB:W4.heap[gb]? = some (.cells #[.slice (some ⟨gN,0,none⟩) N N] 48 (0,0)):=by
   rw[hW4,hgbe,hgN];exact(Below.heap_alloc _ _ _ (by simp)).trans (heap_alloc_new _ _)
  rw[<-hW4,<-hgN];rw[<-hgN] at ho3;obtain⟨hgN1,hgN2,_⟩:=ho3.made h0;rw[<-hgbe] at hgN2;have hsr:wr.heap.size=gN:=hgN.symm;have hsz3:=hsz2.out;have hbs:=hbr.size;have hcx:W4.cell? ⟨gb+1,1,none⟩=some (.slice sa N sc):=box_cell kX rfl;have ho4:=(ho3.keep hb4).base (B':=w.heap.size) (by omega);have hO4:=hO.keep hb24;have hbl2:w2.heap.size < wr.heap.size:=(Array.getElem?_eq_some_iff.1 hbx).1;have hbx4:=(hb24.block w2.heap.size hbl2).trans hbx;have kL4:=(hb24.block (w.heap.size+1) (by omega)).trans kL3
  have hrs4:∀r∈rs,W4.heap[r]? = some (.deferred (some []))/\w2.heap.size<=r/\r < gN:=fun r hr=>by
   have h1:=(Array.getElem?_eq_some_iff.1 (hrs r hr).1).1;exact⟨(hb24.block r h1).trans (hrs r hr).1,(hrs r hr).2,by omega⟩
  have hbr4:Below w2.heap.size w2 W4:=hbr.trans (hb24.mono hbr.size);have hbW4:Below w.heap.size w W4:=hb12.trans (hbr4.mono (by omega));obtain⟨hgm1,hgm2,_⟩:=hO.made h0;rw[hsr] at hgm2;have hmx : Tryz.prog.follows .mixedOrders=true:=by kernel_rfl
  rw[<-hgbe];have hrw0:natI (List.replicate N 0)=List.replicate N 0:=by simp[natI]
  have hI0:(∀k,(k=gN)↔k=gN)/\OI W4 w.heap.size (.slice (some ⟨gN,0,none⟩) N N) N (natI (rowP L N P [])):=⟨fun _=>Iff.rfl,by rw[rowP_nil,hrw0];exact ho4⟩;clear hW4 d0 d1 cb cl kA3 kL3 hb3 hgr3 ho3 ho4 hO hbx hrs hb34 hb4 hb24 hbr e0 e1 kX;replace hgN:=qH hgN;replace hgbe:=qH hgbe
  refine wpIn_wide.1 (wpIn_rfB (gf:=247) (lb:=#[.pointer (some ⟨gb+1,0,none⟩)]) rfl (enters_of Tryz.func247 (by kernel_rfl) rfl) (mvSeq hK.out hbW4 hcx) (Below.refl _ _) (fun _=>rfl) mvR_put (fun _ _ _ _ h=>h)
   (fun pre D W=>(∀k,D k↔k=gN)/\OI W w.heap.size (.slice (some ⟨gN,0,none⟩) N N) N (natI (rowP L N P pre))) (fun _ _ _ _=>False)
   (fun pre D W W' h hs hk=>⟨h.1,h.2.same h0 (hk gN ((h.1 gN).2 rfl))⟩) (fun _ _ _ _ _ h _ _=>h)
   (fun k=>k=gN) (fun k hk=>by omega) (fun k hk=>by omega) (fun k hk=>by omega) hI0
   (fun x=>(x.2.map (Value.int .i64)).toArray) 178 (fun x b t=>(((t.setIfInBounds 24 (.int .i64 x.1)).setIfInBounds 25 (.agg (x.2.map (Value.int .i64)).toArray)).setIfInBounds 9 (.int .i64 x.1)).setIfInBounds 10 (.pointer (some ⟨b,0,none⟩))) ?assign ?body ?done ?stop)
  case assign=>
   rintro l pre ⟨s,m⟩ W K ⟨r,hr⟩ hK;obtain⟨q0,hq0,hq,hm⟩:=mvs_in3 (x:=(s,m)) (k:=0) (ss:=ss) (by rw[<-hr];simp);obtain rfl:s=q0:=(by have h:s=0+q0:=hq0;omega);clear hq0;obtain⟨y0,y1,y2,y3,y4,y5,y6,y7,rfl⟩:=eight (h8 _ (by rw[getD_eq hq];exact List.getElem_mem hq) m hm);clear hr hq hm;simp only[List.setIfInBounds_toArray,List.set_cons_succ,List.set_cons_zero,List.map_cons,List.map_nil] at hK;simp only[mvEnc,List.map_cons,List.map_nil];gi_wp2;exact hK
  case body=>
   rintro l pre ⟨s,m⟩ D W b ⟨hD,hM⟩ hBd hOn hGr ⟨r,hr⟩ hlen hBb hnb hbb;obtain⟨q0,hq0,hq,hm⟩:=mvs_in3 (x:=(s,m)) (k:=0) (ss:=ss) (by rw[<-hr];simp);obtain rfl:s=q0:=(by have h:s=0+q0:=hq0;omega);clear hq0;have hmem:ss.getD s []∈ss:=(by rw[getD_eq hq];exact List.getElem_mem hq);obtain⟨hm8,ht0,ht1⟩:=((hOc.out.2.2.2 _ hmem).2 m hm);have hsN:s < N:=(by rw[<-hN.out];exact hq);rw[hN.out] at ht1;obtain⟨y0,y1,y2,y3,y4,y5,y6,y7,rfl⟩:=eight hm8;replace ht0:0<=y7:=ht0;replace ht1:y7 < (N:Int):=ht1;obtain⟨q,rfl⟩:∃q:Nat,y7=(q:Int):=⟨y7.toNat,by omega⟩;have hqN:q < N:=(by omega);have hqi:(q:Int) < (N:Int):=(by omega);have hsi:(s:Int) < (N:Int):=(by omega);obtain⟨a0,ha0⟩:=exE (stM L P (selP pre s));have ha0L:a0<=L:=(by rw[<-ha0];exact stM_le _ _ _);obtain⟨b0,hb0⟩:=exE (P.getD q 0);have hb0L:=hPb.out q;rw[hb0] at hb0L;have cs:=hM.cell hsN;rw[natI_getD,rowP_at hsN,ha0] at cs;have cf:=hM.free s;have cgb:W.cell? ⟨gb,0,none⟩=some (.slice (some ⟨gN,0,none⟩) N N):=hOn.cell (p:=⟨gb,0,none⟩) (by show ¬(gb=gN);omega) (cell_of_one kB);have ccb:W.cell? ⟨w2.heap.size,0,none⟩=some (.slice (some ⟨g,0,none⟩) N gc):=hOn.cell (p:=⟨w2.heap.size,0,none⟩) (by show ¬(w2.heap.size=gN);omega) (cell_of_one hbx4);have cl:W.cell? ⟨w.heap.size+1,0,none⟩=some (.int .i64 lim):=hOn.cell (p:=⟨w.heap.size+1,0,none⟩) (by show ¬(w.heap.size+1=gN);omega) (cell_of_one kL4);have cq:=hOn.cell (p:=⟨g,q,none⟩) (by show ¬(g=gN);omega) (hO4.cell hqN);rw[natI_getD,hb0] at cq;simp only[List.map_cons,List.map_nil] at hBb;obtain⟨p0,p1,p2,p3,p4,p5,p6,p7⟩:=box8 hBb;have hws:IntKind.i64.wrap ((a0:Int)+(b0:Int))=(a0:Int)+(b0:Int):=IntWalk.i64_in _ (by omega)
   have hstore:∀(k':Nat) (y:Int),OI ((W.drewN k').setCell ⟨gN,s,none⟩ (.int .i64 y)) w.heap.size (.slice (some ⟨gN,0,none⟩) N N) N ((natI (rowP L N P pre)).set s y)/\Only D W ((W.drewN k').setCell ⟨gN,s,none⟩ (.int .i64 y)):=fun k' y=>
    ⟨((hM.same (w':=W.drewN k') h0 rfl).store s y).1,((Only.refl D W).drewN k').setCell (p:=⟨gN,s,none⟩) ((hD gN).2 rfl) _⟩
   have hval0:min (stM L P (selP pre s)+P.getD (mvTo [y0,y1,y2,y3,y4,y5,y6,(q:Int)]) 0) L=min (a0+b0) L:=by
    have h2:mvTo [y0,y1,y2,y3,y4,y5,y6,(q:Int)]=q:=rfl;rw[h2,ha0,hb0]
   have hBd':=qH hBd;replace hD:=qH hD;replace hstore:=qH hstore;replace hval0:=qH hval0;clear hr hq hm hmem hm8 ht0 ht1 hBb hM hlen hI0 hcx hBd ha0 hb0 hrs4 hbx4 kL4 kB hO4;simp only[List.setIfInBounds_toArray,List.set_cons_succ,List.set_cons_zero,List.map_cons,List.map_nil];gi_wp2
   have hcast:Hid (natI ((rowP L N P pre).set s (min (a0+b0) L))=(natI (rowP L N P pre)).set s (min ((a0:Int)+(b0:Int)) (L:Int))):=by
    show _=_;rw[natI,natI,List.map_set];congr 1
    omega
   replace hstore:=hstore.out;refine wpIn_region_qtail 16 hmx (by kernel_rfl) (by kernel_rfl) (by kernel_rfl) (by rintro⟨a,w,h⟩;exact h) ?_;intro ops';simp only[List.take_succ_cons,List.take_zero,List.drop_succ_cons,List.drop_zero]
   repeat (quiet_step (fail))
   refine wpQuiet_nil ?_;intro k';obtain⟨hfin,hOf⟩:=hstore k' (min ((a0:Int)+(b0:Int)) (L:Int));replace hfin:=qH hfin;replace hOf:=qH hOf;go_wp2;exact⟨D,hOf.out,Gr.refl _ _,fun j hj=>Nat.lt_of_lt_of_le (hBd'.out j hj) hOf.out.size,hD.out,by rw[rowP_step,hval0.out,hcast.out];exact hfin.out⟩
  case done=>
   intro d xs D W hS hI hOn hGr hd hnd' hdef;obtain⟨hD,hM⟩:=hI;have hdgN:d ≠ gN:=(by omega);have hbl4:w2.heap.size < gN:=(by omega);have cgb:W.cell? ⟨gb,0,none⟩=some (.slice (some ⟨gN,0,none⟩) N N):=hOn.cell (p:=⟨gb,0,none⟩) (by show ¬(gb=gN);omega) (cell_of_one kB);have hbx5:=(hOn.same w2.heap.size (by omega) (by omega)).trans hbx4;have ccb:=cell_of_one hbx5;have hfb:=free_of_one hbx5;have hset:=one_setCell (u:=.slice (some ⟨gN,0,none⟩) N N) hbx5
   have hO5:Hid (OI (W.setCell ⟨w2.heap.size,0,none⟩ (.slice (some ⟨gN,0,none⟩) N N)) w.heap.size (.slice (some ⟨gN,0,none⟩) N N) N (natI (numL ss L (i+1)))):=by
    have h1:=hM.same (w':=W.setCell ⟨w2.heap.size,0,none⟩ (.slice (some ⟨gN,0,none⟩) N N)) h0 (Below.heap_setCell _ ⟨w2.heap.size,0,none⟩ _ gN (by show gN ≠ w2.heap.size;omega));rw[hS,<-hN.out,rowP_all,<-hQ.out] at h1;rw[hN.out] at h1;exact h1
   have hrs5:Hid (∀r∈d::rs,(W.setCell ⟨w2.heap.size,0,none⟩ (.slice (some ⟨gN,0,none⟩) N N)).heap[r]? = some (.deferred (some []))/\w2.heap.size<=r):=fun r hr=>by
    rcases List.mem_cons.1 hr with rfl|hr
    ·exact⟨(Below.heap_setCell _ ⟨w2.heap.size,0,none⟩ _ r (by show r ≠ w2.heap.size;omega)).trans hdef,by omega⟩
    ·obtain⟨h1,h2,h3⟩:=hrs4 r hr
     have h4:r ≠ w2.heap.size:=fun e=>by
      rw[e,hbx4] at h1;cases h1
     exact⟨((Below.heap_setCell _ ⟨w2.heap.size,0,none⟩ _ r h4).trans (hOn.same r (by omega) (by omega))).trans h1,h2⟩
   have hnd5:Hid (d::rs).Nodup:=by
    show List.Nodup _;rw[List.nodup_cons];exact⟨fun hr=>by have:=(hrs4 d hr).2.2;omega,hnd⟩
   have hbr5:Hid (Below w2.heap.size w2 (W.setCell ⟨w2.heap.size,0,none⟩ (.slice (some ⟨gN,0,none⟩) N N))):=Below.setCell (p:=⟨w2.heap.size,0,none⟩) (hbr4.trans (hOn.below (by omega) (fun j hj=>by omega))) (Nat.le_refl _) _;have hik9:IntKind.i64.wrap ((i:Int)+1)=(i:Int)+1:=IntWalk.i64_in _ (by omega);replace hbx5:=qH hset;clear hM hS hD hOn hGr hI0 hcx hO4 hbx4 kB kL4 hrs4 hset hdef;go_wp2;refine⟨⟨_,_,_,_,_,_,_,_,_,_,_,_,_,_,_,_,_,_,_,_,_,_,_,_,_,_,_,_,_,_,_,_,_,_,_,_,_,_,i+1,d::rs,.slice (some ⟨gN,0,none⟩) N N,hlt,hbx5.out,hO5.out,hrs5.out,hnd5.out,hbr5.out,rfl⟩,?_⟩;simp[intOf]
   omega
  case stop=>
   intro d c pre D W _ h;exact h.elim
 ·obtain rfl:i=k:=by omega
  have hge : ¬((i:Int) < (i:Int)):=by omega
  have h0i:(0:Int) < (N:Int):=by omega
  have c0:=hO.cell h0;rw[natI_getD] at c0;obtain⟨Z,hZ⟩:=exE ((numL ss L i).getD 0 0);rw[hZ] at c0;have hZ2:Hid (num ss L i=Z):=hZ;have hbf:=qH (hb12.trans (hbr.mono (by omega)));replace hrs:=qH hrs;replace hnd:=qH hnd;clear hO hbx hbr hZ;go_wp2;refine leavesAll (B:=w.heap.size) rfl rs wr (fun r hr=>⟨(hrs.out r hr).1,by have:=(hrs.out r hr).2;omega⟩) hnd.out (fun w' hw'=>⟨?_,hbf.out.trans hw'⟩);rw[hZ2.out];rfl
theorem countedW {w:World}{v:Value}{n:Int}{ss:Jc}(hA:AdvV w v n ss) (h0:chkA n ss=0) (hO:WdOK ss) {k:Nat}(hk:k<=6) (hz:num ss 4097 k<=4096) :
  Calls Tryz.prog 127 #[v,.int .i64 (k:Int),.int .i64 4096] w fun e w'=>e = .returned (.tuple #[.int .i64 (num ss 4097 k:Nat),.int .i64 0])/\Below w.heap.size w w':=by
 have hmv:movesN ss<=1000000000:=by have:=hO.2.1;omega
 obtain⟨xa,xc,hu⟩:=advShape' hA;subst hu;obtain⟨W1,hW1⟩:=exF (w.alloc (.cells #[.int .i64 n,.slice xa ss.length xc] 27));obtain⟨hb1,p0,p1,_⟩:=boxAdv hW1;have HC:=qH (fun W (hb:Below w.heap.size w W)=>h0▸checkA (hA.keep hb) hmv);have HN:=qH (fun W (hb:Below w.heap.size w W)=>numberW (k:=k) (L:=4097) (lim:=4096) (hA.keep hb) hO (by omega) rfl (by omega) (by omega));obtain⟨z,hzz⟩:=exE (num ss 4097 k);rw[hzz] at hz;simp only[hzz] at HN|-;have h1:decide ((k:Int) < 0)=false:=decide_eq_false (by omega);have h2:decide ((6:Int) < (k:Int))=false:=decide_eq_false (by omega);have h3:decide ((4096:Int) < (z:Int))=false:=decide_eq_false (by omega);clear hA hzz;go_enter Tryz.func127, Tryz.ntmps127
 go_wp2_with fail
 rw[<-hW1];replace hW1:=qH hW1;refine(HC.out W1 hb1).mono ?_;rintro e W2 ⟨rfl,hb2⟩;have B2:=bt hb1 hb2 hb1.size;have q0:=cell_kept hb2 p0;have q1:=cell_kept hb2 p1;go_wp2_with fail
 refine(HN.out W2 B2).mono ?_;rintro e W3 ⟨rfl,hb3⟩;go_wp2;go_ret2
 exact⟨rfl,bt B2 hb3 B2.size⟩
theorem countedL {w:World}{v:Value}{n:Int}{ss:Jc}(hA:AdvV w v n ss) (h0:chkA n ss=0) (hO:WdOK ss) {k:Nat}(hk:k<=6) :
  Calls Tryz.prog 127 #[v,.int .i64 (k:Int),.int .i64 1048576] w fun e w'=>e = .returned (if 1048576 < num ss 1048577 k then .tuple #[.int .i64 0,.int .i64 17] else .tuple #[.int .i64 (num ss 1048577 k:Nat),.int .i64 0])/\Below w.heap.size w w':=by
 have hmv:movesN ss<=1000000000:=by have:=hO.2.1;omega
 obtain⟨xa,xc,hu⟩:=advShape' hA;subst hu;obtain⟨W1,hW1⟩:=exF (w.alloc (.cells #[.int .i64 n,.slice xa ss.length xc] 27));obtain⟨hb1,p0,p1,_⟩:=boxAdv hW1;have HC:=qH (fun W (hb:Below w.heap.size w W)=>h0▸checkA (hA.keep hb) hmv);have HN:=qH (fun W (hb:Below w.heap.size w W)=>numberW (k:=k) (L:=1048577) (lim:=1048576) (hA.keep hb) hO (by omega) rfl (by omega) (by omega));obtain⟨z,hzz⟩:=exE (num ss 1048577 k);simp only[hzz] at HN|-;have h1:decide ((k:Int) < 0)=false:=decide_eq_false (by omega);have h2:decide ((6:Int) < (k:Int))=false:=decide_eq_false (by omega);clear hA hzz;by_cases hz:1048576 < z
 ·rw[if_pos hz];have h3:decide ((1048576:Int) < (z:Int))=true:=decide_eq_true (by omega);clear hz;go_enter Tryz.func127, Tryz.ntmps127
  go_wp2_with fail
  rw[<-hW1];replace hW1:=qH hW1;refine(HC.out W1 hb1).mono ?_;rintro e W2 ⟨rfl,hb2⟩;have B2:=bt hb1 hb2 hb1.size;have q0:=cell_kept hb2 p0;have q1:=cell_kept hb2 p1;go_wp2_with fail
  refine(HN.out W2 B2).mono ?_;rintro e W3 ⟨rfl,hb3⟩;go_wp2;go_ret2
  exact⟨rfl,bt B2 hb3 B2.size⟩
 ·rw[if_neg hz];have h3:decide ((1048576:Int) < (z:Int))=false:=decide_eq_false (by omega);clear hz;go_enter Tryz.func127, Tryz.ntmps127
  go_wp2_with fail
  rw[<-hW1];replace hW1:=qH hW1;refine(HC.out W1 hb1).mono ?_;rintro e W2 ⟨rfl,hb2⟩;have B2:=bt hb1 hb2 hb1.size;have q0:=cell_kept hb2 p0;have q1:=cell_kept hb2 p1;go_wp2_with fail
  refine(HN.out W2 B2).mono ?_;rintro e W3 ⟨rfl,hb3⟩;go_wp2;go_ret2
  exact⟨rfl,bt B2 hb3 B2.size⟩
theorem advCount {w:World}{v:Value}{n:Int}{ss:Jc}(hA:AdvV w v n ss) (h0:chkA n ss=0) (hO:WdOK ss) {k:Nat}(hk:k<=6) :
  Calls Tryz.prog 126 #[v,.int .i64 (k:Int)] w fun e w'=>e = .returned (if 1048576 < num ss 1048577 k then .tuple #[.int .i64 0,.int .i64 17] else .tuple #[.int .i64 (num ss 1048577 k:Nat),.int .i64 0])/\Below w.heap.size w w':=by
 obtain⟨xa,xc,hu⟩:=advShape' hA;subst hu;obtain⟨W1,hW1⟩:=exF (w.alloc (.cells #[.int .i64 n,.slice xa ss.length xc] 27));obtain⟨hb1,p0,p1,_⟩:=boxAdv hW1;have HC:=countedL (hA.keep hb1) h0 hO hk;obtain⟨z,hzz⟩:=exE (num ss 1048577 k);rw[hzz] at HC|-;clear hA hzz;by_cases hz:1048576 < z
 ·rw[if_pos hz] at HC|-;replace HC:=qH HC;go_enter Tryz.func126, Tryz.ntmps126
  go_wp2_with fail
  rw[<-hW1];replace hW1:=qH hW1;refine HC.out.mono ?_;rintro e W2 ⟨rfl,hb2⟩;have hbf:=btt hb1 hb2;go_wp2;go_ret2
  exact⟨rfl,hbf⟩
 ·rw[if_neg hz] at HC|-;replace HC:=qH HC;go_enter Tryz.func126, Tryz.ntmps126
  go_wp2_with fail
  rw[<-hW1];replace hW1:=qH hW1;refine HC.out.mono ?_;rintro e W2 ⟨rfl,hb2⟩;have hbf:=btt hb1 hb2;go_wp2;go_ret2
  exact⟨rfl,hbf⟩
def cntP (cs:List Cs) (ss:Jc) (k:Nat):Int × Int:=
 if 1048576 < num ss 1048577 k then (0,17) else if 1048576 < num ss 1048577 k * cs.length then (0,17) else ((num ss 1048577 k * cs.length:Nat),0)
theorem chkT_len {n i o:Int}{cs:List Cs}(h:chkT n i o cs=0):1<=cs.length/\cs.length<=1024:=by
 unfold chkT at h;split at h
 ·cases h
 ·split at h
  ·cases h
  ·omega
theorem execCount {w:World}{v:Value}{n i o an r:Int}{cs:List Cs}{ss:Jc}(h:PrV w v n i o cs an ss r) (hf:fewA ss=true) :
  Calls Tryz.prog 72 #[v] w fun e w'=>e = .returned (.tuple #[.int .i64 (if chkP n i o cs an ss r ≠ 0 then (0,chkP n i o cs an ss r) else cntP cs ss r.toNat).1,.int .i64 (if chkP n i o cs an ss r ≠ 0 then (0,chkP n i o cs an ss r) else cntP cs ss r.toNat).2])/\Below w.heap.size w w':=by
 have HCk:=qH (fun W (hb:Below w.heap.size w W)=>execCheck (h.keep hb) hf);obtain⟨a,c,a',c',rfl,hT,hA⟩:=h;obtain⟨W1,hW1⟩:=exF (w.alloc (.cells #[.int .i64 n,.int .i64 i,.int .i64 o,.slice a cs.length c,.int .i64 an,.slice a' ss.length c',.int .i64 r] 29));have hb1:Below w.heap.size w W1:=by rw[hW1];exact(Below.refl _ w).alloc (Nat.le_refl _) _
 have kT:W1.heap[w.heap.size]? = some (.cells #[.int .i64 n,.int .i64 i,.int .i64 o,.slice a cs.length c,.int .i64 an,.slice a' ss.length c',.int .i64 r] 29):=by rw[hW1];exact heap_alloc_new _ _
 have HK:=qH (fun W (hb:Below W1.heap.size W1 W)=>keep7 hb (box7' kT));obtain⟨g0,g1,g2,g3,g4,g5,g6⟩:=HK.out W1 (Below.refl _ _);rw[hW1] at g0 g1 g2 g3 g4 g5 g6;obtain⟨z,hz⟩:=exE (chkP n i o cs an ss r);have hz':=hz;rw[hz];simp only[hz] at HCk;clear kT hz;by_cases hz0:z=0
 ·subst hz0;rw[if_neg (fun h=>h rfl)];obtain⟨c1,c2,-,c4,c5⟩:=chkP_zero hz';obtain⟨l1,l2⟩:=chkT_len c1;have hO:=(chk_cls hA hf c2).wd;obtain⟨k,rfl⟩:∃k:Nat,r=(k:Int):=⟨r.toNat,by omega⟩;rw[Int.toNat_natCast];have hk6:k<=6:=by omega
  have HN:=qH (fun W (hb:Below W1.heap.size W1 W)=>advCount ((hA.keep hb1).keep hb) c2 hO hk6);unfold cntP;obtain⟨N,hN⟩:=exE (num ss 1048577 k);rw[hN];simp only[hN] at HN;clear hz' c1 c2 c4 c5 hO hA hT hN;by_cases hb:1048576 < N
  ·rw[if_pos hb];simp only[if_pos hb] at HN;clear hb;go_enter Tryz.func72, Tryz.ntmps72
   go_wp2_with fail
   rw[<-hW1];replace hW1:=qH hW1;refine(HCk.out W1 hb1).mono ?_;rintro e w2 ⟨rfl,hb2⟩;clear g0 g1 g2 g3 g4 g5 g6;obtain⟨g0,g1,g2,g3,g4,g5,g6⟩:=HK.out w2 hb2;go_wp2_with fail
   refine(HN.out w2 hb2).mono ?_;rintro e w3 ⟨rfl,hb3⟩;have hbf:=btt hb1 (btt hb2 hb3);go_wp2_with fail
   go_ret2
   exact⟨rfl,hbf⟩
  ·rw[if_neg hb];simp only[if_neg hb] at HN;have hm:N * cs.length<=1048576 * 1024:=Nat.mul_le_mul (by omega) l2;obtain⟨M,hM⟩:=exE (N * cs.length);rw[hM] at hm|-;have hwr:IntKind.i64.wrap (M:Int)=(M:Int):=IntWalk.i64_in _ (by omega);have hM2:(N:Int) * (cs.length:Int)=(M:Int):=(by rw[<-hM,Int.natCast_mul]);clear hb hm hM;by_cases hm:1048576 < M
   ·rw[if_pos hm];have d1:decide ((1048576:Int) < (M:Int))=true:=decide_eq_true (by omega);clear hm;go_enter Tryz.func72, Tryz.ntmps72
    go_wp2_with fail
    rw[<-hW1];replace hW1:=qH hW1;refine(HCk.out W1 hb1).mono ?_;rintro e w2 ⟨rfl,hb2⟩;clear g0 g1 g2 g3 g4 g5 g6;obtain⟨g0,g1,g2,g3,g4,g5,g6⟩:=HK.out w2 hb2;go_wp2_with fail
    refine(HN.out w2 hb2).mono ?_;rintro e w3 ⟨rfl,hb3⟩;clear g0 g1 g2 g3 g4 g5 g6;obtain⟨g0,g1,g2,g3,g4,g5,g6⟩:=HK.out w3 (btt hb2 hb3);have hbf:=btt hb1 (btt hb2 hb3);go_wp2_with fail
    go_ret2
    exact⟨rfl,hbf⟩
   ·rw[if_neg hm];have d1:decide ((1048576:Int) < (M:Int))=false:=decide_eq_false (by omega);clear hm;go_enter Tryz.func72, Tryz.ntmps72
    go_wp2_with fail
    rw[<-hW1];replace hW1:=qH hW1;refine(HCk.out W1 hb1).mono ?_;rintro e w2 ⟨rfl,hb2⟩;clear g0 g1 g2 g3 g4 g5 g6;obtain⟨g0,g1,g2,g3,g4,g5,g6⟩:=HK.out w2 hb2;go_wp2_with fail
    refine(HN.out w2 hb2).mono ?_;rintro e w3 ⟨rfl,hb3⟩;clear g0 g1 g2 g3 g4 g5 g6;obtain⟨g0,g1,g2,g3,g4,g5,g6⟩:=HK.out w3 (btt hb2 hb3);have hbf:=btt hb1 (btt hb2 hb3);go_wp2_with fail
    go_ret2
    exact⟨rfl,hbf⟩
 ·rw[if_pos hz0];have hz1:(z != 0)=true:=by simpa using hz0
  clear hz' hT hA;go_enter Tryz.func72, Tryz.ntmps72
  go_wp2_with fail
  rw[<-hW1];replace hW1:=qH hW1;refine(HCk.out W1 hb1).mono ?_;rintro e w2 ⟨rfl,hb2⟩;have hbf:=btt hb1 hb2;go_wp2_with fail
  go_ret2
  exact⟨rfl,hbf⟩
end Go.Proofs.YtcnedkkcgdkioaaGreat
namespace Go.Proofs.YtcnedkkcgdkioaaGreat
open Go.RowKit Go.ChangeMaps Go.MapKept Go.WideMaps
def vwV (x:List Int):Value:=.agg (x.map (Value.int .i64)).toArray
def SmV (x:List Int):Prop:=x.length=8/\∀y∈x,-1000000<=y/\y<=1000000
theorem lawVw:Maps.Keyed Tryz.prog 114:=Maps.Keyed.of_law (deep_law_gate (by kernel_rfl) (of_decide_eq_true (by kernel_rfl)) (of_decide_eq_true (by kernel_rfl)) (by kernel_rfl) (by kernel_rfl))
theorem litZv {x:Int}(m:Nat) (h : -1000000<=x/\x<=1000000) : Tryz.prog.keyLits (m+1) 3 [.int .i64 x]=some [.int .i64 x]:=by
 unfold Program.keyLits;simp only[und_int];rw[if_pos ⟨trivial,WalkArith.wf_i64 (by omega)⟩]
theorem litAv {h0 h1 h2 h3 h4:Int}(m:Nat) (g0 : -1000000<=h0/\h0<=1000000) (g1 : -1000000<=h1/\h1<=1000000) (g2 : -1000000<=h2/\h2<=1000000) (g3 : -1000000<=h3/\h3<=1000000) (g4 : -1000000<=h4/\h4<=1000000) :
  Tryz.prog.keyLits (m+2) 112 [.int .i64 h0,.int .i64 h1,.int .i64 h2,.int .i64 h3,.int .i64 h4]=some [.int .i64 h0,.int .i64 h1,.int .i64 h2,.int .i64 h3,.int .i64 h4]:=by
 have u5 : Tryz.prog.underlying 112=some (.array 5 3):=by kernel_rfl
 have c5 : Tryz.prog.cellsOf 112=5:=by kernel_rfl
 have c1 : Tryz.prog.cellsOf 3=1:=by kernel_rfl
 rw[show m+2=(m+1)+1 from rfl];conv=>lhs;unfold Program.keyLits
 simp only[u5,c5,c1,show List.range 5 = [0,1,2,3,4] from rfl];rw[if_pos (by rfl)];simp only[List.mapM_cons,List.mapM_nil,List.drop,List.take,Nat.mul_one];rw[litZv m g0,litZv m g1,litZv m g2,litZv m g3,litZv m g4];rfl
theorem keyVw {a b c h0 h1 h2 h3 h4:Int}(ga : -1000000<=a/\a<=1000000) (gb : -1000000<=b/\b<=1000000) (gc : -1000000<=c/\c<=1000000) (g0 : -1000000<=h0/\h0<=1000000) (g1 : -1000000<=h1/\h1<=1000000) (g2 : -1000000<=h2/\h2<=1000000) (g3 : -1000000<=h3/\h3<=1000000) (g4 : -1000000<=h4/\h4<=1000000) :
  ∃l,keyOf Tryz.prog 114 (.agg #[.int .i64 a,.int .i64 b,.int .i64 c,.int .i64 h0,.int .i64 h1,.int .i64 h2,.int .i64 h3,.int .i64 h4])=some l:=by
 obtain⟨m,hm⟩:=typesSize;have c8 : Tryz.prog.cellsOf 114=8:=by kernel_rfl
 have c5 : Tryz.prog.cellsOf 112=5:=by kernel_rfl
 have c1 : Tryz.prog.cellsOf 3=1:=by kernel_rfl
 have hk : Tryz.prog.keyType 114=true:=by kernel_rfl
 have uR:=Tryz.underlying114;refine⟨.string (keyBytes [.int .i64 a,.int .i64 b,.int .i64 c,.int .i64 h0,.int .i64 h1,.int .i64 h2,.int .i64 h3,.int .i64 h4]),?_⟩;unfold keyOf;simp only[uR];rw[if_pos (by simp[hk,Value.formed,uR,c8]),hm];conv=>lhs;unfold Program.keyLits
 simp only[uR,c8,Value.cells];rw[if_pos (by exact⟨rfl,by kernel_rfl⟩)];simp only[List.mapM_cons,List.mapM_nil,List.drop,List.take,c5,c1];rw[litZv (m+2) ga,litZv (m+2) gb,litZv (m+2) gc,litAv (m+1) g0 g1 g2 g3 g4];rfl
theorem keyX_view:KeyX Tryz.prog 114 vwV SmV where
 law:=lawVw
 has:=fun x ⟨h1,h2⟩=>by
  obtain⟨a,b,c,d,e,f,g,i,rfl⟩:=eight h1;exact keyVw (h2 a (by simp)) (h2 b (by simp)) (h2 c (by simp)) (h2 d (by simp)) (h2 e (by simp)) (h2 f (by simp)) (h2 g (by simp)) (h2 i (by simp))
 inj:=fun x y _ _ h=>by
  simp only[vwV,Value.agg.injEq] at h
  have h2:x.map (Value.int .i64)=y.map (Value.int .i64):=by
   have:=congrArg Array.toList h
   simpa using this
  have hinj:∀a b:Int,Value.int .i64 a=Value.int .i64 b->a=b:=fun a b e=>by injection e
  exact List.map_inj_right hinj |>.1 h2
theorem umView : Tryz.prog.underlying 138=some (.map 114 3):=by kernel_rfl
theorem zIntV:∀w,(zeroValue 3).run Tryz.prog w = .ok (.int .i64 0) w:=fun w=>by kernel_rfl
theorem elemVw:ElemK Tryz.prog 30 114 (.agg #[.int .i64 0,.int .i64 0,.int .i64 0,.int .i64 0,.int .i64 0,.int .i64 0,.int .i64 0,.int .i64 0]) 8 64:=⟨by kernel_rfl,by kernel_rfl,rfl⟩
def putV (vs:Jb) (v:List Int):Jb:=if v∈vs then vs else vs ++ [v]
theorem putV_nodup {vs:Jb}{v:List Int}(h:vs.Nodup):(putV vs v).Nodup:=by
 unfold putV;split
 ·exact h
 ·rename_i hn
  rw[List.nodup_append];exact⟨h,by simp,fun a ha b hb e=>by rw[List.mem_singleton] at hb;subst hb;subst e;exact hn ha⟩
theorem putV_mem {vs:Jb}{v x:List Int}:x∈putV vs v↔x∈vs\/x=v:=by
 unfold putV;split
 ·rename_i hm
  exact⟨.inl,fun h=>h.elim id fun e=>by rw[e];exact hm⟩
 ·rw[List.mem_append,List.mem_singleton]
theorem putV_len {vs:Jb}{v:List Int}:(putV vs v).length<=vs.length+1:=by
 unfold putV;split<;>simp
end Go.Proofs.YtcnedkkcgdkioaaGreat
