/- Texts of this claim, put together: QF QG QH QI. -/
import Derived.Test.YtcnedkkcgdkioaaGreatKAzc

set_option maxRecDepth 100000
set_option maxHeartbeats 12800000
namespace Go.Proofs.YtcnedkkcgdkioaaGreat
open Go.RowKit Go.Shelf
theorem cloneIs {w:World}(ad:Addr) (n c:Nat) (news:List Value) (hl:news.length=n * 1) (hn:n≤1000000) (hc:∀j u,news[j]? = some u→w.cell? (ad.add j)=some u) (h1:∀u∈news,u.oneCell'=true) :
  Calls Tryz.prog 140 #[.slice (some ad) n c] w fun e w'=>∃v',e = .returned v'∧w'.ownsRow w.heap.size 48 1 v' n news∧Go.RowKit.Below w.heap.size w w':=by
 have q22:=fun(w:World)=>Lib.run_eql_slice_nil (P:=Tryz.prog) w 78 48 (some ad) n c 0 0 elemVv.1;obtain⟨i0,hi,hz0,hz1,hz2⟩:=info_parts elemVv.2.1;have A:Hid (∀j u,news[j]? = some u→w.cell? (ad.add j)=some u):=hc;clear hc;have hn':n * 24≤140737488355328:=by omega
 go_enter Tryz.func140, Tryz.ntmps140
 go_wp2_with (at_builtin;refine wpList_append_own _ rfl _ _ 78 rfl w.heap.size 48 i0 _ 1 24 elemVv.1 hi hz0 hz1 hz2 elemVv.2.2 (by decide) _ _ _ rfl (World.ownsRow_made w #[] 0 (Nat.le_refl _) (Nat.zero_le _) (by simp)) ad n c news rfl ?qc1 ?qc2 ?qc3 ?qc4 ?qc5 ?qc6 ?_)
 case qc1=>exact hl
 case qc2=>
  intro j u hj;exact Lib.cell?_alloc_some _ (A.out j u hj)
 case qc3=>exact h1
 case qc4=>unfold maxLen;omega
 case qc5=>rw[Nat.zero_add];exact hn'
 case qc6=>simp
 intro v' w1 hown hgrow hnil;go_wp2;go_ret;refine⟨v',rfl,by simpa using hown,?_⟩;exact((Below.refl _ w).alloc (Nat.le_refl _) _).grown hgrow (by simp) (by intro k hk;simp[Value.ownBlock] at hk;omega)
theorem cloneIsNil {w:World}(n c:Nat):Calls Tryz.prog 140 #[.slice none n c] w fun e w'=>e = .returned (.slice none 0 0)∧w'=w:=by
 have q22:=fun(w:World)=>Lib.run_eql_slice_nil (P:=Tryz.prog) w 78 48 none n c 0 0 elemVv.1;go_enter Tryz.func140, Tryz.ntmps140
 go_wp2;go_ret;exact⟨rfl,rfl⟩
theorem intss_vals {w:World}{a:Option Addr}{c:Nat}{xs:List (List Int)}(h:Intss w (.slice a xs.length c) xs) (h0:0 < xs.length) :
  ∃b off vs,a=some ⟨b,off,none⟩∧vs.length=xs.length∧(∀(j:Nat) (u:Value),vs[j]? = some u→w.cell? ⟨b,off+j,none⟩=some u)∧WI w vs xs∧∀u∈vs,u.oneCell'=true:=by
 obtain⟨a',c',b,off,hv,ha,hc,_⟩:=h;injection hv with hv1 hv2 hv3;have hl:((List.range xs.length).map fun j=>(w.cell? ⟨b,off+j,none⟩).getD (.slice none 0 0)).length=xs.length:=by rw[List.length_map,List.length_range]
 have hg:∀(j:Nat) (u:Value),((List.range xs.length).map fun j=>(w.cell? ⟨b,off+j,none⟩).getD (.slice none 0 0))[j]? = some u→w.cell? ⟨b,off+j,none⟩=some u∧Ints w u (xs.getD j []):=fun j u hu=>by
  have hj:j < xs.length:=by have:=(List.getElem?_eq_some_iff.1 hu).1;omega
  obtain⟨v,h1,h2⟩:=hc j hj;rw[List.getElem?_map,List.getElem?_range hj] at hu;injection hu with hu;have hu:(w.cell? ⟨b,off+j,none⟩).getD (.slice none 0 0)=u:=hu;rw[h1] at hu;have hu:v=u:=hu;subst hu;exact⟨h1,h2⟩
 refine⟨b,off,_,hv1.trans (ha h0),hl,fun j u hu=>(hg j u hu).1,⟨hl,fun j v u hv hu=>?_⟩,fun u hu=>?_⟩
 ·have:=(hg j v hv).2
  rwa [List.getD_eq_getElem?_getD,hu] at this
 ·obtain⟨j,hj,rfl⟩:=List.getElem_of_mem hu;exact(hg j _ (List.getElem?_eq_getElem hj)).2.oneC
theorem cloneIsK {w:World}{v:Value}{ss:List (List Int)}(h:Intss w v ss) (hn:ss.length≤1000000) :
  Calls Tryz.prog 140 #[v] w fun e w'=>∃u,e = .returned u∧OwX 48 1 (EWi w) w' w.heap.size u ss.length ss∧Go.RowKit.Below w.heap.size w w':=by
 obtain⟨a,c,rfl⟩:=h.shape;rcases Nat.eq_zero_or_pos ss.length with h0|h0
 ·obtain rfl:=List.length_eq_zero_iff.1 h0;cases a with
  | none=>
   refine(cloneIsNil _ _).mono ?_;rintro e w' ⟨rfl,rfl⟩;exact⟨_,rfl,OwX.nil _ _,Below.refl _ _⟩
  | some ad=>
   refine(cloneIs ad 0 c [] rfl (by decide) (fun j u hj=>by simp at hj) (by simp)).mono ?_;rintro e w' ⟨u,rfl,ho,hb⟩;exact⟨u,rfl,OwX.ofWI ho ⟨rfl,by simp⟩,hb⟩
 ·obtain⟨b,off,vs,rfl,hl,hc,hW,h1⟩:=intss_vals h h0;refine(cloneIs ⟨b,off,none⟩ ss.length c vs (by omega) hn (fun j u hj=>by rw[Addr.add_lit];exact hc j u hj) h1).mono ?_;rintro e w' ⟨u,rfl,ho,hb⟩;exact⟨u,rfl,OwX.ofWI ho hW,hb⟩
theorem sortIsNil (p:Option Addr) (cap:Nat) (w:World):Calls Tryz.prog 141 #[.slice p 0 cap,.func (.func 138) #[] #[]] w fun e w'=>e = .returned (.tuple #[])∧w'=w:=
 AnyF.slices_SortFunc_none (P:=Tryz.prog) (ρ:=Tryz.sortII_ren) { Tryz.sortII with } p cap (.func (.func 138) #[] #[]) w
theorem compactIsNil (p:Option Addr) (cap:Nat) (w:World):Calls Tryz.prog 142 #[.slice p 0 cap,.func (.func 18) #[] #[]] w fun e w'=>e = .returned (.slice p 0 cap)∧w'=w:=by
 go_enter Tryz.func142, Tryz.ntmps142
 go_wp2;go_ret;exact⟨rfl,rfl⟩
theorem sortIsA {w0 w:World}{B n c:Nat}{a:Option Addr}{us:List (List Int)}(hb:Below w0.heap.size w0 w) (hB0:w0.heap.size≤B) (h:OwX 48 1 (EWi w0) w B (.slice a n c) n us) (hn:n≤1000000) :
  Calls Tryz.prog 141 #[.slice a n c,.func (.func 138) #[] #[]] w fun e w'=>
   e = .returned (.tuple #[])∧∃us':List (List Int),us'.Perm us∧us'.Pairwise (fun a b=>¬cmpL b a < 0)∧OwX 48 1 (EWi w0) w' B (.slice a n c) n us'∧Below B w w':=by
 rcases Nat.eq_zero_or_pos n with h0|h0
 ·subst h0;have hu:us = []:=List.length_eq_zero_iff.1 h.length;subst hu;refine(sortIsNil a c w).mono ?_;rintro e w' ⟨rfl,rfl⟩;exact⟨rfl,[],List.Perm.refl _,List.Pairwise.nil,h,Below.refl _ _⟩
 ·obtain⟨g,cap,he,_⟩:=h.form h0;injection he with e1 e2 e3;subst e1 e3;exact sortIsK hb hB0 h hn
theorem compactIsA {w0 w:World}{B n c:Nat}{a:Option Addr}{xs:List (List Int)}(hb0:Below w0.heap.size w0 w) (hB0:w0.heap.size≤B) (h:OwX 48 1 (EWi w0) w B (.slice a n c) n xs) (hn:n≤1000) :
  Calls Tryz.prog 142 #[.slice a n c,.func (.func 18) #[] #[]] w fun e w'=>∃m,e = .returned (.slice a m c)∧OwX 48 1 (EWi w0) w' B (.slice a m c) m (cpG xs)∧Below B w w':=by
 rcases Nat.eq_zero_or_pos n with h0|h0
 ·subst h0;have hu:xs = []:=List.length_eq_zero_iff.1 h.length;subst hu;refine(compactIsNil a c w).mono ?_;rintro e w' ⟨rfl,rfl⟩;exact⟨0,rfl,h,Below.refl _ _⟩
 ·obtain⟨g,cap,he,_⟩:=h.form h0;injection he with e1 e2 e3;subst e1 e3;refine(compactIs hb0 hB0 h hn).mono ?_;rintro e w' ⟨m,rfl,h1,h2,_⟩;exact⟨m,rfl,h1,h2⟩
end Go.Proofs.YtcnedkkcgdkioaaGreat
namespace Go.Proofs.YtcnedkkcgdkioaaGreat
open Go.RowKit
def VeC (x:List Int):Prop:=0 < x.length∧x.length≤5∧∀y∈x,0≤y∧y≤1048576
theorem vecX_vs (x:List Int):VS (vecX x):=simN_w2
theorem vecX_sm {x:List Int}(h:VeC x):SmS (vecX x):=by
 obtain⟨h1,h2,h3⟩:=h;have h4:=vecX_len x;refine⟨by omega,by omega,fun v hv=>?_,ascG_L.1 (simN_asc _)⟩;obtain⟨p,hp,_,rfl⟩:=simN_mem.1 hv;have hb:=h3 (x.getD p 0) (by rw[getD_eq hp];exact List.getElem_mem hp);exact posV_ok.2 ⟨show(0:Int)≤(p:Int) by omega,show(p:Int) < 8 by omega,hb.1,hb.2⟩
theorem maxX_congr {l m:List (List (List Int))}(h2:∀s∈l,W2 s) (h:∀x,x∈l↔x∈m):maxX l=maxX m:=by
 have h2':∀s∈m,W2 s:=fun s hs=>h2 s ((h s).2 hs);have hv:∀k:List (List (List Int)),(∀s∈k,W2 s)→∀y∈maxX k,W2 y:=fun k hk y hy=>hk y (maxX_mem.1 hy).1;refine ascG_unique ordX (maxX_asc h2) (maxX_asc h2') fun x=>?_;rw[maxX_mem,maxX_mem,h x,covB_congr h]
theorem protOf {w:World}{v:Value}{l:List (List Int)}(h:Intss w v l) (hn:l.length≤1000) (hv:∀x∈l,VeC x) :
  Calls Tryz.prog 83 #[v] w fun e w'=>∃v',e = .returned (.tuple #[v',.int .i64 0])∧CxO w' v' (maxX (l.map vecX))∧Below w.heap.size w w':=by
 obtain⟨W1,hW1⟩:=exF (w.alloc (.cells #[.slice none 0 0] 57));have hb1:Below w.heap.size w W1:=by rw[hW1];exact(Below.refl _ w).alloc (Nat.le_refl _) _
 have hs1:W1.heap.size=w.heap.size+1:=by rw[hW1];simp
 have kR:W1.heap[w.heap.size]? = some (.cells #[.slice none 0 0] 57):=by rw[hW1];exact heap_alloc_new _ _
 have HCl:=qH (cloneIsK (h.keep hb1) (by omega));obtain⟨va,vc,rfl⟩:=h.shape;obtain⟨N,hN⟩:=exE (l.length);obtain⟨R,hR⟩:=exE (maxX (l.map vecX));rw[hR];rw[hN] at HCl hn⊢;replace hN:=qH hN;replace hR:=qH hR;have kRh:=qH kR;clear kR h;go_enter Tryz.func83, Tryz.ntmps83
 go_wp2_with fail
 rw[←hW1];replace hW1:=qH hW1;refine HCl.out.mono ?_;rintro e w2 ⟨u2,rfl,hO2,hb2⟩;obtain⟨a2,c2,rfl⟩:=hO2.shape;go_wp2_with fail
 refine(sortIsA hb2 (Nat.le_refl _) hO2 (by omega)).mono ?_;rintro e w3 ⟨rfl,us',hp,hso,hO3,hb3⟩;replace hso:=qH hso;go_wp2_with fail
 have hb13:=hb2.trans hb3;refine(compactIsA hb13 (Nat.le_refl _) hO3 (by omega)).mono ?_;rintro e w4 ⟨m,rfl,hO4,hb4⟩;have hb14:=hb13.trans hb4;have hmem:∀z,z∈cpG us'↔z∈l:=fun z=>by rw[cpG_mem,hp.mem_iff]
 have hlen:=cpG_le us';rw[hp.length_eq,hN.out] at hlen;obtain⟨L,hL⟩:=exE (cpG us');rw[hL] at hO4 hmem hlen;have hml:=hO4.length;subst hml;have hI4:=hO4.intssK hb14 (by omega)
 have hRL:maxX (L.map vecX)=R:=by
  rw[←hR.out];refine maxX_congr (fun s hs=>?_) fun x=>?_
  ·obtain⟨y,_,rfl⟩:=List.mem_map.1 hs;exact vecX_vs y
  ·simp only[List.mem_map,hmem]
 have hvL:∀x∈L,VeC x:=fun x hx=>hv x ((hmem x).1 hx);replace hRL:=qH hRL;replace hvL:=qH hvL;replace hmem:=qH hmem;have hb04:=btt hb1 hb14;have kR4:=qH (keptO hb14 kRh.out);obtain⟨ia,ic,ib,io,hie,hia,hic,-⟩:=hI4;injection hie with e1 e2 e3;subst e1 e3;have hcl:=qH hic;have d1:decide (4096 < L.length)=false:=decide_eq_false (by omega);have hs0:Hid (OwX 38 1 EVx w4 w4.heap.size (.slice none 0 0) ((L.take 0).map vecX).length ((L.take 0).map vecX)):=OwX.nil _ _;clear hL hO2 hO3 hO4 hp e2 hic;go_wp2_with fail
 go_loopw [4,22] (fun ov iv wr=>∃i:Nat,iv = .int .i64 i∧i≤L.length∧Hid (OwX 38 1 EVx wr w4.heap.size ov ((L.take i).map vecX).length ((L.take i).map vecX))∧Below w4.heap.size w4 wr) (fun _ iv _=>L.length - (intOf iv).toNat)
 case atStart=>exact⟨0,rfl,by omega,hs0,Below.refl _ _⟩
 case round=>
  clear hs0;obtain⟨i,rfl,hi,ho,hbr⟩:=hrel;obtain⟨oa,oc,hos⟩:=ho.out.shape;subst hos;by_cases hlt:i < L.length
  ·have hii:(i:Int) < (L.length:Int):=(by omega);obtain rfl:=hia (by omega);obtain⟨u,hu,hku⟩:=hcl.out i hlt;replace hu:=cell_kept hbr hu;have hxv:=hvL.out (L.getD i []) (by rw[getD_eq hlt];exact List.getElem_mem hlt);have htk:(L.take i).map vecX ++ [vecX (L.getD i [])]=(L.take (i+1)).map vecX:=(by rw[take_snoc hlt [],List.map_append];rfl);have hol:((L.take i).map vecX).length≤1000:=(by rw[List.length_map,List.length_take];omega);obtain⟨x,hx⟩:=exE (L.getD i []);rw[hx] at hku hxv htk;obtain⟨O,hO⟩:=exE ((L.take i).map vecX);rw[hO] at ho htk hol⊢;obtain⟨xa,xc,xb,xo,rfl,hxa,hxc,-⟩:=hku;have hxc1:=qH (hxc.keep hbr);replace htk:=qH htk;have hxl:=hxv.2.1;clear hO hx hxc hxv;obtain⟨wo,hwo⟩:=exF (wr);subst hwo;have h0:OwX 83 2 EI wo wo.heap.size (.slice none 0 0) (simN (fun _=>true) x 0).length (simN (fun _=>true) x 0):=OwX.nil _ _;go_wp2_with fail
   go_loopw [7,28] (fun ov iv wr=>∃(p:Nat),iv = .int .i64 p∧p≤x.length∧OwX 83 2 EI wr wo.heap.size ov (simN (fun _=>true) x p).length (simN (fun _=>true) x p)∧Below wo.heap.size wo wr) (fun _ iv _=>x.length - (intOf iv).toNat)
   case atStart=>exact⟨0,rfl,by omega,h0,Below.refl _ _⟩
   case round=>
    clear h0;obtain⟨p,rfl,hp,hO,hbr2⟩:=hrel;obtain⟨pa,pc,hos⟩:=hO.shape;subst hos;by_cases hlt2:p < x.length
    ·obtain rfl:=hxa (by omega);have cl:=hxc1.out.keep hbr2 p (by omega);obtain⟨y,hy⟩:=exE (x.getD p 0);rw[hy] at cl;have hln:(p:Int) < (x.length:Int):=(by omega);have hpl:(simN (fun _=>true) x p).length≤1000:=(by rw[simT_len];omega);have hsn:simN (fun _=>true) x (p+1)=simN (fun _=>true) x p ++ [[(p:Int),y]]:=(by rw[simT_next,hy]);obtain⟨S,hS⟩:∃S,simN (fun _=>true) x p=S:=⟨_,rfl⟩;rw[hS] at hsn hO hpl⊢;have hO2:=hO;have hi9:S.length≤1000000000000:=by omega
     have hc9:Hid (∀u∈(#[.int .i64 (p:Int),.int .i64 y]:Array Value).toList,u.oneCell'=true):=fun u hu=>by
      rcases List.mem_cons.1 hu with rfl|hu
      ·rfl
      ·rw[List.mem_singleton.1 hu];rfl
     have hEl:Hid (EI wr [.int .i64 (p:Int),.int .i64 y] [(p:Int),y]):=rfl;replace hsn:=qH hsn;have hsz:=hbr2.size;clear hS hO hy;go_wp2_with (at_builtin;refine wpAppX (x:=[(p:Int),y]) elemVx (by decide) (by decide) (EI.stab _) rfl _ _ rfl rfl hO2 rfl rfl rfl hc9.out hEl.out hi9 hsz ?_)
     intro v3 w3 ho3 hg3 hb3 hx3
     have hO3:Hid (OwX 83 2 EI w3 wo.heap.size v3 (simN (fun _=>true) x (p+1)).length (simN (fun _=>true) x (p+1))):=by
      show OwX _ _ _ _ _ _ _ _;rw[hsn.out,List.length_append];exact ho3
     have hbr3:=hbr2.trans hb3;clear ho3 hO2 hg3 hx3;go_wp2_with fail
     go_roundw
     case rel=>exact⟨p+1,by go_num,hlt2,hO3,hbr3⟩
     case measure=>simp[intOf];omega
    ·obtain rfl:p=x.length:=(by omega);have hOv:OwX 83 2 EI wr wo.heap.size (.slice pa (simN (fun _=>true) x x.length).length pc) (vecX x).length (vecX x):=hO;rw[show(simN (fun _=>true) x x.length).length=(vecX x).length from rfl];rw[show(simN (fun _=>true) x x.length).length=(vecX x).length from rfl] at hOv;clear hO;obtain⟨S,hS⟩:=exE (vecX x);rw[hS] at hOv⊢;rw[hS] at htk;have ho3:=ho.out.keep EVx.stb hbr2;have hbw:=btt hbr hbr2;have hsz:=hbw.size;have hEl:Hid (EVx wr [.slice pa S.length pc] S):=⟨_,_,rfl,hOv.base (Nat.zero_le _)⟩;have hc9:Hid (∀u∈(#[.slice pa S.length pc]:Array Value).toList,u.oneCell'=true):=fun u hu=>by rw[List.mem_singleton.1 hu];rfl
     have hi9:O.length≤1000000000000:=(by omega);clear hOv hS;go_wp2_with (at_builtin;refine wpAppX (x:=S) elemVs (by decide) (by decide) EVx.stb rfl _ _ rfl rfl ho3 rfl rfl rfl hc9.out hEl.out hi9 hsz ?_)
     intro v3 w3 hoo hg3 hb3 hx3
     have hO3:Hid (OwX 38 1 EVx w3 w4.heap.size v3 ((L.take (i+1)).map vecX).length ((L.take (i+1)).map vecX)):=by
      show OwX _ _ _ _ _ _ _ _;rw[←htk.out,List.length_append];exact hoo
     have hbr3:=hbw.trans hb3;clear hoo ho3 hg3 hx3;go_wp2_with fail
     go_roundw
     case rel=>exact⟨i+1,by go_num,hlt,hO3,hbr3⟩
     case measure=>simp[intOf];omega
  ·obtain rfl:i=L.length:=by omega
   have hvm:∀s∈(L.take L.length).map vecX,VS s∧SmS s:=fun s hs=>by
    rw[List.take_length] at hs;obtain⟨y,hy,rfl⟩:=List.mem_map.1 hs;exact⟨vecX_vs y,vecX_sm (hvL.out y hy)⟩
   have hK5:=ho.out.kssc (by rw[List.length_map,List.length_take];omega) (fun s hs=>by have:=(hvm s hs).2.2.1;omega);have HO:=ofC hK5 (by rw[List.length_map,List.length_take];omega) hvm;rw[cxP_max (fun s hs=>(hvm s hs).1),List.take_length,hRL.out] at HO;rw[List.take_length] at ho⊢;have HOh:=qH HO;obtain⟨M,hM⟩:=exE ((L.map vecX).length);rw[hM] at HOh;simp only[hM];clear hvm hK5 HO ho hM;go_wp2_with fail
   refine HOh.out.mono ?_;rintro e w5 ⟨v5,rfl,⟨fa,fc,rfl,hO5⟩,hb5⟩;have hbw:=btt hb14 (btt hbr hb5);have k5:=keptO (btt hbr hb5) kR4.out;have z5:=cell_of_one k5;have fz:=row_free k5;have hO6:=hO5.other EVx.stc (by decide) (KeepX.setCell (p:=⟨w.heap.size,0,none⟩) k5 (.slice fa R.length fc));have m1:=heap_setCell_same w5 w.heap.size 0 _ _ (.slice fa R.length fc) k5;have hbe:=(btt hb1 hbw).setCell (p:=⟨w.heap.size,0,none⟩) (Nat.le_refl _) (.slice fa R.length fc);replace m1:=qH m1;replace hO6:=qH hO6;clear hO5 k5;go_wp2_with fail
   exact⟨rfl,_,results_cx2 (k:=2) rfl _ _ _ rfl rfl m1.out,_,rfl,⟨_,_,rfl,hO6.out⟩,hbe⟩
theorem vecE_zero {v:List Int}{n m:Int}(h:vecE v n m=0):(v.length:Int)=n∧∀x∈v,0≤x∧x < m:=by
 unfold vecE at h;split at h
 ·cases h
 next h1=>
 split at h
 ·cases h
 next h2=>
 refine⟨Decidable.not_not.1 h1,fun x hx=>?_⟩;have h3 : ¬(x < 0∨m≤x):=fun h=>h2 ⟨x,hx,h⟩;omega
def CasG (c:Cs):Prop:=VeC c.1∧0 < c.2.1.length∧∀x∈c.2.1,VeC x
theorem task_ve {n i o:Int}{cs:List Cs}(h:chkT n i o cs=0):0 < cs.length∧∀c∈cs,CasG c:=by
 unfold chkT at h;split at h
 ·cases h
 next h1=>
 split at h
 ·cases h
 next h2=>
 refine⟨by omega,fun c hc=>?_⟩;obtain⟨k,hk,rfl⟩:=List.getElem_of_mem hc;have e:=(firstE_zero _ _).1 h k (Nat.zero_le _) (by omega);rw[←getD_eq hk csNil];unfold caseE at e;split at e
 ·rename_i e1;exact absurd e e1
 next e1=>
 split at e
 ·cases e
 have e2:vecE (cs.getD k csNil).1 n i=0:=Decidable.not_not.1 e1;obtain⟨a1,a2⟩:=vecE_zero e2;unfold outsE at e;split at e
 ·cases e
 next e3=>
 split at e
 ·rename_i e4;exact absurd e e4
 next e4=>
 have e5:=(firstE_zero _ _).1 (Decidable.not_not.1 e4);refine⟨⟨by omega,by omega,fun y hy=>by have:=a2 y hy;omega⟩,by omega,fun x hx=>?_⟩;obtain⟨j,hj,rfl⟩:=List.getElem_of_mem hx;have e6:=e5 j (Nat.zero_le _) (by omega);unfold outE at e6;split at e6
 ·rename_i e7;exact absurd e6 e7
 next e7=>
 rw[getD_eq hj] at e7;obtain⟨b1,b2⟩:=vecE_zero (Decidable.not_not.1 e7);exact⟨by omega,by omega,fun y hy=>by have:=b2 y hy;omega⟩
theorem few_lens {cs:List Cs}(h:fewT cs=true):cs.length≤30∧∀c∈cs,c.2.1.length≤30:=by
 unfold fewT at h;rw[Bool.and_eq_true,List.all_eq_true] at h;refine⟨of_decide_eq_true h.1,fun c hc=>?_⟩;have:=h.2 c hc
 unfold fewC fewV at this;rw[Bool.and_eq_true,Bool.and_eq_true,Bool.and_eq_true] at this;exact of_decide_eq_true this.2.1.1
theorem casF_len {cs:List Cs}(h:∀c∈cs,c.2.1.length≤30):(cs.flatMap fun c=>c.2.1).length≤cs.length * 30:=by
 induction cs with
 | nil=>simp
 | cons c r ih=>
  rw[List.flatMap_cons,List.length_append,List.length_cons];have:=ih fun x hx=>h x (List.mem_cons_of_mem _ hx)
  have:=h c (List.mem_cons_self ..)
  omega
theorem flat_take {cs:List Cs}(h:∀c∈cs,c.2.1.length≤30) (hl:cs.length≤30) (k:Nat):((cs.take k).flatMap fun c=>c.2.1).length≤900:=by
 have h1:=casF_len (cs:=cs.take k) fun c hc=>h c (List.mem_of_mem_take hc);have:(cs.take k).length≤30:=by rw[List.length_take];omega
 omega
theorem flat_next {cs:List Cs}{k:Nat}{c:Cs}(h:k < cs.length) (hc:cs.getD k csNil=c):((cs.take (k+1)).flatMap fun c=>c.2.1)=((cs.take k).flatMap fun c=>c.2.1)++c.2.1:=by
 rw[take_snoc h csNil,hc,List.flatMap_append];simp
theorem map_next {α:Type}{f:Cs→α}{cs:List Cs}{k:Nat}{c:Cs}(h:k < cs.length) (hc:cs.getD k csNil=c):(cs.take (k+1)).map f=(cs.take k).map f ++ [f c]:=by
 rw[take_snoc h csNil,hc,List.map_append];rfl
theorem intss_src {w0 w:World}{a:Option Addr}{c:Nat}{xs:List (List Int)}(h:Intss w0 (.slice a xs.length c) xs) (h0:0 < xs.length) (hb:Below w0.heap.size w0 w):SrcX 1 (EWi w0) w (.slice a xs.length c) xs:=by
 obtain⟨b,off,vs,rfl,hl,hc,hW,h1⟩:=intss_vals h h0;refine⟨_,c,vs,rfl,by omega,h1,fun j x hj=>?_,fun e=>(by cases e),fun ad e j u hu=>?_⟩
 ·have hj':j < vs.length:=by rw[hl];exact(List.getElem?_eq_some_iff.1 hj).1
  refine⟨vs[j],?_,hW.2 j _ x (List.getElem?_eq_getElem hj') hj⟩;rw[Nat.mul_one,List.drop_eq_getElem_cons hj'];rfl
 ·injection e with e;subst e;rw[Addr.add_lit];exact cell_kept hb (hc j u hu)
theorem boxTC (w:World) (a b c d:Value):∃W1,W1=(w.alloc (.cells #[a,b,c,d] 24)).alloc (.cells #[.slice none 0 0] 57)∧Below w.heap.size w W1∧W1.heap.size=w.heap.size+2∧
  W1.heap[w.heap.size]? = some (.cells #[a,b,c,d] 24)∧W1.heap[w.heap.size+1]? = some (.cells #[.slice none 0 0] 57):=by
 refine⟨_,rfl,((Below.refl _ w).alloc (Nat.le_refl _) _).alloc (by simp) _,by simp,(Below.heap_alloc _ _ _ (by simp)).trans (heap_alloc_new w _),?_⟩;have:=heap_alloc_new (w.alloc (.cells #[a,b,c,d] 24)) (.cells #[.slice none 0 0] 57)
 rwa [World.size_alloc] at this
theorem cxo_nil (w:World):CxO w (.agg #[.slice none 0 0]) []:=⟨none,0,rfl,OwX.nil _ _⟩
def inpA (n i o:Int) (cs:List Cs):Int × List (List (List Int)):=if chkT n i o cs ≠ 0 then (chkT n i o cs,[]) else (0,maxX ((cs.map fun c=>c.1).map vecX))
def outA (n i o:Int) (cs:List Cs):Int × List (List (List Int)):=if chkT n i o cs ≠ 0 then (chkT n i o cs,[]) else (0,maxX ((cs.flatMap fun c=>c.2.1).map vecX))
theorem protInputs {w:World}{v:Value}{n i o:Int}{cs:List Cs}(h:TaskV w v n i o cs) (hf:fewT cs=true) :
  Calls Tryz.prog 34 #[v] w fun e w'=>∃v',e = .returned (.tuple #[v',.int .i64 (inpA n i o cs).1])∧CxO w' v' (inpA n i o cs).2∧Below w.heap.size w w':=by
 obtain⟨sv,rfl,hS⟩:=h;obtain⟨sa,sc,hs⟩:=hS.shape;subst hs;obtain⟨W1,hW1,hb1,hs1,kT,kR⟩:=boxTC w (.int .i64 n) (.int .i64 i) (.int .i64 o) (.slice sa cs.length sc);have HT:=qH (checkT (n:=n) (i:=i) (o:=o) (cs:=cs) ⟨_,rfl,hS.keep hb1⟩);have HK:=qH (fun W (hb:Below W1.heap.size W1 W)=>keep4 hb (box4' kT));obtain⟨g0,g1,g2,g3⟩:=HK.out W1 (Below.refl _ _);rw[hW1] at g0 g1 g2 g3;replace kR:=qH kR;have hz:=@task_ve n i o cs;obtain⟨R,hR⟩:=exE (inpA n i o cs);rw[hR];unfold inpA at hR;obtain⟨z,hzz⟩:=exE (chkT n i o cs);rw[hzz] at hz hR HT;clear kT hzz;by_cases he:z=0
 ·rw[if_neg (by simpa using he)] at hR;obtain⟨hl0,hg⟩:=hz he;subst he;obtain⟨hfl,hfo⟩:=few_lens hf;obtain⟨b,off,rfl,hc⟩:=hS.at hl0;have hcs:=qH hc;replace hg:=qH hg;replace hfo:=qH hfo;obtain⟨L,hL⟩:∃L,(cs.map fun c=>c.1)=L:=⟨_,rfl⟩;rw[hL] at hR
  have hvL:Hid (∀x∈L,VeC x):=fun x hx=>by
   rw[←hL] at hx;obtain⟨c,hc1,rfl⟩:=List.mem_map.1 hx;exact(hg.out c hc1).1
  have hLl:L.length≤1000:=by
   rw[←hL];rw[List.length_map];omega
  replace hL:=qH hL;obtain⟨M,hM⟩:=exE (maxX (L.map vecX));rw[hM] at hR;replace hM:=qH hM;subst hR;clear hS hf hc hz;go_enter Tryz.func34, Tryz.ntmps34
  go_wp2_with fail
  rw[←hW1];replace hW1:=qH hW1;refine HT.out.mono ?_;rintro e w2 ⟨rfl,hb2⟩;clear g0 g1 g2 g3;obtain⟨g0,g1,g2,g3⟩:=HK.out w2 hb2;have hb02:=btt hb1 hb2;have hs0:Hid (OwX 48 1 (EWi w) w2 w2.heap.size (.slice none 0 0) ((cs.take 0).map fun c=>c.1).length ((cs.take 0).map fun c=>c.1)):=OwX.nil _ _;go_wp2_with fail
  clear g0 g1 g2 g3;go_loopw [5,17] (fun ov iv wr=>∃k:Nat,iv = .int .i64 k∧k≤cs.length∧Hid (OwX 48 1 (EWi w) wr w2.heap.size ov ((cs.take k).map fun c=>c.1).length ((cs.take k).map fun c=>c.1))∧Below w2.heap.size w2 wr) (fun _ iv _=>cs.length - (intOf iv).toNat)
  case atStart=>exact⟨0,rfl,by omega,hs0,Below.refl _ _⟩
  case round=>
   clear hs0;obtain⟨k,rfl,hk,ho,hbr⟩:=hrel;obtain⟨oa,oc,hos⟩:=ho.out.shape;subst hos;by_cases hlt:k < cs.length
   ·have hii:(k:Int) < (cs.length:Int):=(by omega);obtain⟨u0,u1,u2,c0,c1,c2,i0,i1,i2⟩:=hcs.out k hlt;have hb0r:=btt hb02 hbr;replace c0:=cell_kept hb0r c0;replace c1:=cell_kept hb0r c1;replace c2:=cell_kept hb0r c2;have hgc:=hg.out (cs.getD k csNil) (by rw[getD_eq hlt];exact List.getElem_mem hlt);have hfc:=hfo.out (cs.getD k csNil) (by rw[getD_eq hlt];exact List.getElem_mem hlt);obtain⟨c,hcc⟩:=exE (cs.getD k csNil);have htk:=map_next (f:=fun c:Cs=>c.1) hlt hcc
    have hol:((cs.take k).map fun c=>c.1).length≤1000:=by
     rw[List.length_map,List.length_take];omega
    rw[hcc] at i0 i1 i2 hgc hfc;obtain⟨O,hO⟩:∃O,((cs.take k).map fun c=>c.1)=O:=⟨_,rfl⟩;rw[hO] at ho htk hol⊢;have hi0:=i0;have hi1:=i1;obtain⟨x0,y0,hs⟩:=i0.shape;subst hs;obtain⟨x1,y1,hs⟩:=i1.shape;subst hs;obtain⟨x2,y2,hs⟩:=i2.shape;subst hs;obtain⟨W2,hW2⟩:=exF (wr.alloc (.cells #[.slice x0 c.1.length y0,.slice x1 c.2.1.length y1,.slice x2 c.2.2.length y2] 95));have hb3:Below wr.heap.size wr W2:=(by rw[hW2];exact(Below.refl _ _).alloc (Nat.le_refl _) _);have kC:W2.heap[wr.heap.size]? = some (.cells #[.slice x0 c.1.length y0,.slice x1 c.2.1.length y1,.slice x2 c.2.2.length y2] 95):=(by rw[hW2];exact heap_alloc_new _ _);obtain⟨r0,r1,r2⟩:=box3' kC;have ho2:=ho.out.keep (EWi.stab _ _) hb3;have hbw:=btt hbr hb3;have hsz:=hbw.size;have hi9:O.length≤1000000000000:=(by omega);have hEl:EWi w W2 [.slice x0 c.1.length y0] c.1:=⟨_,rfl,hi0⟩;have hc9:Hid (∀u∈(#[.slice x0 c.1.length y0]:Array Value).toList,u.oneCell'=true):=fun u hu=>by rw[List.mem_singleton.1 hu];rfl
    rw[hW2] at r0 r1 r2 ho2 hsz hEl;replace htk:=qH htk;clear hcc hO i0 i1 i2 kC hi0 hi1 hgc;go_wp2_with (at_builtin;refine wpAppX (x:=c.1) elemVv (by decide) (by decide) (EWi.stab _ _) rfl _ _ rfl rfl ho2 rfl (by simp) rfl hc9.out hEl hi9 hsz ?_)
    intro v4 w4 ho4 hg4 hb4 hx4;rw[←hW2] at hb4
    have hO4:Hid (OwX 48 1 (EWi w) w4 w2.heap.size v4 ((cs.take (k+1)).map fun c=>c.1).length ((cs.take (k+1)).map fun c=>c.1)):=by
     show OwX _ _ _ _ _ _ _ _;rw[htk.out,List.length_append];exact ho4
    have hbr4:=hbw.trans hb4;replace hW2:=qH hW2;clear ho4 ho2 hx4 hg4;go_wp2_with fail
    go_roundw
    case rel=>exact⟨k+1,by go_num,hlt,hO4,hbr4⟩
    case measure=>simp[intOf];omega
   ·obtain rfl:k=cs.length:=(by omega);have ho5:=ho.out;rw[List.take_length,hL.out] at ho5;rw[List.take_length,hL.out];have hI:=ho5.intssK (btt hb02 hbr) (by omega);have HO:=protOf hI hLl hvL.out;rw[hM.out] at HO;replace HO:=qH HO;have hkR:=qH (keptO hbr (keptO hb2 kR.out));clear ho ho5 hI;go_wp2_with fail
    refine HO.out.mono ?_;rintro e w5 ⟨v5,rfl,⟨fa,fc,rfl,hO5⟩,hb5⟩;have hbf:=btt hb02 (btt hbr hb5);have k5:=keptO hb5 hkR.out;have z5:=cell_of_one k5;have fz:=row_free k5;have hO6:=hO5.other EVx.stc (by decide) (KeepX.setCell (p:=⟨w.heap.size+1,0,none⟩) k5 (.slice fa M.length fc));have m1:=heap_setCell_same w5 (w.heap.size+1) 0 _ _ (.slice fa M.length fc) k5;have hbe:=hbf.setCell (p:=⟨w.heap.size+1,0,none⟩) (by show w.heap.size≤w.heap.size+1;omega) (.slice fa M.length fc);replace m1:=qH m1;replace hO6:=qH hO6;clear hO5 k5;go_wp2_with fail
    exact⟨rfl,_,results_cx2 (k:=2) rfl _ _ _ rfl rfl m1.out,_,rfl,⟨_,_,rfl,hO6.out⟩,hbe⟩
 ·rw[if_pos (by simpa using he)] at hR;subst hR;have hz1:(z != 0)=true:=by simpa using he
  clear hS hf hz;go_enter Tryz.func34, Tryz.ntmps34
  go_wp2_with fail
  rw[←hW1];replace hW1:=qH hW1;refine HT.out.mono ?_;rintro e w2 ⟨rfl,hb2⟩;clear g0 g1 g2 g3;have k5:=keptO hb2 kR.out;have z5:=cell_of_one k5;have fz:=row_free k5;have m1:=heap_setCell_same w2 (w.heap.size+1) 0 _ _ (.slice none 0 0) k5;have hbe:=(btt hb1 hb2).setCell (p:=⟨w.heap.size+1,0,none⟩) (by show w.heap.size≤w.heap.size+1;omega) (.slice none 0 0);replace m1:=qH m1;clear k5 he;go_wp2_with fail
  exact⟨rfl,_,results_cx2 (k:=2) rfl _ _ _ rfl rfl m1.out,_,rfl,cxo_nil _,hbe⟩
theorem protOutputs {w:World}{v:Value}{n i o:Int}{cs:List Cs}(h:TaskV w v n i o cs) (hf:fewT cs=true) :
  Calls Tryz.prog 36 #[v] w fun e w'=>∃v',e = .returned (.tuple #[v',.int .i64 (outA n i o cs).1])∧CxO w' v' (outA n i o cs).2∧Below w.heap.size w w':=by
 obtain⟨sv,rfl,hS⟩:=h;obtain⟨sa,sc,hs⟩:=hS.shape;subst hs;obtain⟨W1,hW1,hb1,hs1,kT,kR⟩:=boxTC w (.int .i64 n) (.int .i64 i) (.int .i64 o) (.slice sa cs.length sc);have HT:=qH (checkT (n:=n) (i:=i) (o:=o) (cs:=cs) ⟨_,rfl,hS.keep hb1⟩);have HK:=qH (fun W (hb:Below W1.heap.size W1 W)=>keep4 hb (box4' kT));obtain⟨g0,g1,g2,g3⟩:=HK.out W1 (Below.refl _ _);rw[hW1] at g0 g1 g2 g3;replace kR:=qH kR;have hz:=@task_ve n i o cs;obtain⟨R,hR⟩:=exE (outA n i o cs);rw[hR];unfold outA at hR;obtain⟨z,hzz⟩:=exE (chkT n i o cs);rw[hzz] at hz hR HT;clear kT hzz;by_cases he:z=0
 ·rw[if_neg (by simpa using he)] at hR;obtain⟨hl0,hg⟩:=hz he;subst he;obtain⟨hfl,hfo⟩:=few_lens hf;obtain⟨b,off,rfl,hc⟩:=hS.at hl0;have hcs:=qH hc;replace hg:=qH hg;replace hfo:=qH hfo;obtain⟨L,hL⟩:∃L,(cs.flatMap fun c=>c.2.1)=L:=⟨_,rfl⟩;rw[hL] at hR
  have hvL:Hid (∀x∈L,VeC x):=fun x hx=>by
   rw[←hL] at hx;obtain⟨c,hc1,hx2⟩:=List.mem_flatMap.1 hx;exact(hg.out c hc1).2.2 x hx2
  have hLl:L.length≤1000:=by
   rw[←hL];have:=flat_take hfo.out hfl cs.length
   rw[List.take_length] at this;omega
  replace hL:=qH hL;obtain⟨M,hM⟩:=exE (maxX (L.map vecX));rw[hM] at hR;replace hM:=qH hM;subst hR;clear hS hf hc hz;go_enter Tryz.func36, Tryz.ntmps36
  go_wp2_with fail
  rw[←hW1];replace hW1:=qH hW1;refine HT.out.mono ?_;rintro e w2 ⟨rfl,hb2⟩;clear g0 g1 g2 g3;obtain⟨g0,g1,g2,g3⟩:=HK.out w2 hb2;have hb02:=btt hb1 hb2;have hs0:Hid (OwX 48 1 (EWi w) w2 w2.heap.size (.slice none 0 0) ((cs.take 0).flatMap fun c=>c.2.1).length ((cs.take 0).flatMap fun c=>c.2.1)):=OwX.nil _ _;go_wp2_with fail
  clear g0 g1 g2 g3;go_loopw [5,17] (fun ov iv wr=>∃k:Nat,iv = .int .i64 k∧k≤cs.length∧Hid (OwX 48 1 (EWi w) wr w2.heap.size ov ((cs.take k).flatMap fun c=>c.2.1).length ((cs.take k).flatMap fun c=>c.2.1))∧Below w2.heap.size w2 wr) (fun _ iv _=>cs.length - (intOf iv).toNat)
  case atStart=>exact⟨0,rfl,by omega,hs0,Below.refl _ _⟩
  case round=>
   clear hs0;obtain⟨k,rfl,hk,ho,hbr⟩:=hrel;obtain⟨oa,oc,hos⟩:=ho.out.shape;subst hos;by_cases hlt:k < cs.length
   ·have hii:(k:Int) < (cs.length:Int):=(by omega);obtain⟨u0,u1,u2,c0,c1,c2,i0,i1,i2⟩:=hcs.out k hlt;have hb0r:=btt hb02 hbr;replace c0:=cell_kept hb0r c0;replace c1:=cell_kept hb0r c1;replace c2:=cell_kept hb0r c2;have hgc:=hg.out (cs.getD k csNil) (by rw[getD_eq hlt];exact List.getElem_mem hlt);have hfc:=hfo.out (cs.getD k csNil) (by rw[getD_eq hlt];exact List.getElem_mem hlt);obtain⟨c,hcc⟩:=exE (cs.getD k csNil);have htk:=flat_next hlt hcc
    have hol:((cs.take k).flatMap fun c=>c.2.1).length≤1000:=by
     have:=flat_take hfo.out hfl k;omega
    rw[hcc] at i0 i1 i2 hgc hfc;obtain⟨O,hO⟩:∃O,((cs.take k).flatMap fun c=>c.2.1)=O:=⟨_,rfl⟩;rw[hO] at ho htk hol⊢;have hi0:=i0;have hi1:=i1;obtain⟨x0,y0,hs⟩:=i0.shape;subst hs;obtain⟨x1,y1,hs⟩:=i1.shape;subst hs;obtain⟨x2,y2,hs⟩:=i2.shape;subst hs;obtain⟨W2,hW2⟩:=exF (wr.alloc (.cells #[.slice x0 c.1.length y0,.slice x1 c.2.1.length y1,.slice x2 c.2.2.length y2] 95));have hb3:Below wr.heap.size wr W2:=(by rw[hW2];exact(Below.refl _ _).alloc (Nat.le_refl _) _);have kC:W2.heap[wr.heap.size]? = some (.cells #[.slice x0 c.1.length y0,.slice x1 c.2.1.length y1,.slice x2 c.2.2.length y2] 95):=(by rw[hW2];exact heap_alloc_new _ _);obtain⟨r0,r1,r2⟩:=box3' kC;have ho2:=ho.out.keep (EWi.stab _ _) hb3;have hbw:=btt hbr hb3;have hsz:=hbw.size;have hi9:O.length≤1000000000000:=(by omega);have hEl:=intss_src hi1 hgc.2.1 (btt hb0r hb3);have hn9:O.length+c.2.1.length≤1000000:=(by omega);rw[hW2] at r0 r1 r2 ho2 hsz hEl;replace htk:=qH htk;clear hcc hO i0 i1 i2 kC hi0 hi1 hgc;go_wp2_with (at_builtin;refine wpList_appXG (ys:=c.2.1) elemVv (by decide) (by decide) (EWi.stab _ _) rfl _ _ rfl rfl ho2 rfl hEl hn9 hsz ?_)
    intro v4 w4 ho4 hg4 hb4 hx4;rw[←hW2] at hb4
    have hO4:Hid (OwX 48 1 (EWi w) w4 w2.heap.size v4 ((cs.take (k+1)).flatMap fun c=>c.2.1).length ((cs.take (k+1)).flatMap fun c=>c.2.1)):=by
     show OwX _ _ _ _ _ _ _ _;rw[htk.out,List.length_append];exact ho4
    have hbr4:=hbw.trans hb4;replace hW2:=qH hW2;clear ho4 ho2 hx4 hg4;go_wp2_with fail
    go_roundw
    case rel=>exact⟨k+1,by go_num,hlt,hO4,hbr4⟩
    case measure=>simp[intOf];omega
   ·obtain rfl:k=cs.length:=(by omega);have ho5:=ho.out;rw[List.take_length,hL.out] at ho5;rw[List.take_length,hL.out];have hI:=ho5.intssK (btt hb02 hbr) (by omega);have HO:=protOf hI hLl hvL.out;rw[hM.out] at HO;replace HO:=qH HO;have hkR:=qH (keptO hbr (keptO hb2 kR.out));clear ho ho5 hI;go_wp2_with fail
    refine HO.out.mono ?_;rintro e w5 ⟨v5,rfl,⟨fa,fc,rfl,hO5⟩,hb5⟩;have hbf:=btt hb02 (btt hbr hb5);have k5:=keptO hb5 hkR.out;have z5:=cell_of_one k5;have fz:=row_free k5;have hO6:=hO5.other EVx.stc (by decide) (KeepX.setCell (p:=⟨w.heap.size+1,0,none⟩) k5 (.slice fa M.length fc));have m1:=heap_setCell_same w5 (w.heap.size+1) 0 _ _ (.slice fa M.length fc) k5;have hbe:=hbf.setCell (p:=⟨w.heap.size+1,0,none⟩) (by show w.heap.size≤w.heap.size+1;omega) (.slice fa M.length fc);replace m1:=qH m1;replace hO6:=qH hO6;clear hO5 k5;go_wp2_with fail
    exact⟨rfl,_,results_cx2 (k:=2) rfl _ _ _ rfl rfl m1.out,_,rfl,⟨_,_,rfl,hO6.out⟩,hbe⟩
 ·rw[if_pos (by simpa using he)] at hR;subst hR;have hz1:(z != 0)=true:=by simpa using he
  clear hS hf hz;go_enter Tryz.func36, Tryz.ntmps36
  go_wp2_with fail
  rw[←hW1];replace hW1:=qH hW1;refine HT.out.mono ?_;rintro e w2 ⟨rfl,hb2⟩;clear g0 g1 g2 g3;have k5:=keptO hb2 kR.out;have z5:=cell_of_one k5;have fz:=row_free k5;have m1:=heap_setCell_same w2 (w.heap.size+1) 0 _ _ (.slice none 0 0) k5;have hbe:=(btt hb1 hb2).setCell (p:=⟨w.heap.size+1,0,none⟩) (by show w.heap.size≤w.heap.size+1;omega) (.slice none 0 0);replace m1:=qH m1;clear k5 he;go_wp2_with fail
  exact⟨rfl,_,results_cx2 (k:=2) rfl _ _ _ rfl rfl m1.out,_,rfl,cxo_nil _,hbe⟩
end Go.Proofs.YtcnedkkcgdkioaaGreat
