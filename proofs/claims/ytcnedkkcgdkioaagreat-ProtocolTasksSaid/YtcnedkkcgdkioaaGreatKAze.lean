/- Texts of this claim, put together: QJ QK QL QM0 QM1. -/
import Derived.Test.YtcnedkkcgdkioaaGreatKAzd

set_option maxRecDepth 100000
set_option maxHeartbeats 12800000
namespace Go.Proofs.YtcnedkkcgdkioaaGreat
open Go.RowKit
def imgA (n i o:Int) (cs:List Cs) (x:Int):Int × List (List (List Int)):=
 if chkT n i o cs ≠ 0 then (chkT n i o cs,[]) else if x < 0∨(cs.length:Int)≤x then (6,[]) else (0,maxX ((cs.getD x.toNat csNil).2.1.map vecX))
theorem cxEnd {w W1 w2:World}{B:Nat}{fn:Func}{k:Nat}(hr:fn.results = #[.cell k 57,.tmp (k+1)]) (hb1:Below w.heap.size w W1) (hB:w.heap.size≤B) (hb2:Below W1.heap.size W1 w2) (kR:Hid (W1.heap[B]? = some (.cells #[.slice none 0 0] 57))) :
  w2.cell? ⟨B,0,none⟩=some (.slice none 0 0)∧w2.frozen? ⟨B,0,none⟩=false∧Hid (∀(tmps:Array Value) (x:Value),tmps.getD k undef = .pointer (some ⟨B,0,none⟩)→tmps.getD (k+1) undef=x→(results fn tmps).run Tryz.prog (w2.setCell ⟨B,0,none⟩ (.slice none 0 0)) = .ok (.tuple #[.agg #[.slice none 0 0],x]) (w2.setCell ⟨B,0,none⟩ (.slice none 0 0)))∧Below w.heap.size w (w2.setCell ⟨B,0,none⟩ (.slice none 0 0)):=by
 have k5:=keptO hb2 kR.out;have m1:=heap_setCell_same w2 B 0 _ _ (.slice none 0 0) k5;exact⟨cell_of_one k5,row_free k5 0,fun tmps x h1 h2=>results_cx2 (k:=k) hr _ _ _ h1 h2 m1,(btt hb1 hb2).setCell (p:=⟨B,0,none⟩) hB _⟩
theorem protImage {w:World}{v:Value}{n i o x:Int}{cs:List Cs}(h:TaskV w v n i o cs) (hf:fewT cs=true) :
  Calls Tryz.prog 38 #[v,.int .i64 x] w fun e w'=>∃v',e = .returned (.tuple #[v',.int .i64 (imgA n i o cs x).1])∧CxO w' v' (imgA n i o cs x).2∧Below w.heap.size w w':=by
 obtain⟨sv,rfl,hS⟩:=h;obtain⟨sa,sc,hs⟩:=hS.shape;subst hs;obtain⟨W1,hW1,hb1,hs1,kT,kR⟩:=boxTC w (.int .i64 n) (.int .i64 i) (.int .i64 o) (.slice sa cs.length sc);have HT:=qH (checkT (n:=n) (i:=i) (o:=o) (cs:=cs) ⟨_,rfl,hS.keep hb1⟩);have HK:=qH (fun W (hb:Below W1.heap.size W1 W)=>keep4 hb (box4' kT));obtain⟨g0,g1,g2,g3⟩:=HK.out W1 (Below.refl _ _);rw[hW1] at g0 g1 g2 g3;replace kR:=qH kR;have hz:=@task_ve n i o cs;obtain⟨R,hR⟩:=exE (imgA n i o cs x);rw[hR];unfold imgA at hR;obtain⟨z,hzz⟩:=exE (chkT n i o cs);rw[hzz] at hz hR HT;clear kT hzz;by_cases he:z=0
 ·rw[if_neg (by simpa using he)] at hR;obtain⟨hl0,hg⟩:=hz he;subst he;obtain⟨hfl,hfo⟩:=few_lens hf;by_cases hx:x < 0∨(cs.length:Int)≤x
  ·rw[if_pos hx] at hR;subst hR;clear hS hf hz hg hfo
   have d1:x < 0∨(decide (x < 0)=false∧decide ((cs.length:Int)≤x)=true):=by
    by_cases h:x < 0
    ·exact .inl h
    ·exact .inr ⟨decide_eq_false h,decide_eq_true (hx.resolve_left h)⟩
   clear hx;rcases d1 with d1|⟨d1,d2⟩
   case' inl=>replace d1:decide (x < 0)=true:=decide_eq_true d1
   all_goals
    go_enter Tryz.func38, Tryz.ntmps38
    go_wp2_with fail
    rw[←hW1];replace hW1:=qH hW1;refine HT.out.mono ?_;rintro e w2 ⟨rfl,hb2⟩;clear g0 g1 g2 g3;obtain⟨g0,g1,g2,g3⟩:=HK.out w2 hb2;obtain⟨z5,fz,hres,hbe⟩:=cxEnd (fn:=Tryz.f38) (k:=4) (B:=w.heap.size+1) rfl hb1 (by omega) hb2 kR;go_wp2_with fail
    exact⟨rfl,_,hres.out _ _ rfl rfl,_,rfl,cxo_nil _,hbe⟩
  ·rw[if_neg hx] at hR;obtain⟨k,rfl⟩:∃k:Nat,x=k:=⟨x.toNat,by omega⟩;rw[Int.toNat_natCast] at hR;have hlt:k < cs.length:=(by omega);have d1:decide ((k:Int) < 0)=false:=decide_eq_false (by omega);have d2:decide (cs.length≤k)=false:=decide_eq_false (by omega);have d3:(k:Int) < (cs.length:Int):=(by omega);obtain⟨b,off,rfl,hc⟩:=hS.at hl0;obtain⟨u0,u1,u2,c0,c1,c2,i0,i1,i2⟩:=hc k hlt;have hgc:=hg (cs.getD k csNil) (by rw[getD_eq hlt];exact List.getElem_mem hlt);have hfc:=hfo (cs.getD k csNil) (by rw[getD_eq hlt];exact List.getElem_mem hlt);obtain⟨c,hcc⟩:=exE (cs.getD k csNil);rw[hcc] at i1 hgc hfc hR;have HO:=qH (fun W (hb:Below w.heap.size w W)=>protOf (i1.keep hb) (by omega) hgc.2.2);obtain⟨M,hM⟩:=exE (maxX (c.2.1.map vecX));rw[hM] at HO hR;obtain⟨x1,y1,hs⟩:=i1.shape;subst hs hR;have c1h:=qH c1;clear hS hf hz hg hfo hx hc i0 i1 i2 hcc hgc c0 c1 c2 hM hfc;go_enter Tryz.func38, Tryz.ntmps38
   go_wp2_with fail
   rw[←hW1];replace hW1:=qH hW1;refine HT.out.mono ?_;rintro e w2 ⟨rfl,hb2⟩;clear g0 g1 g2 g3;obtain⟨g0,g1,g2,g3⟩:=HK.out w2 hb2;have hb02:=btt hb1 hb2;have c1:=cell_kept hb02 c1h.out;have HO2:=qH (HO.out w2 hb02);have hkR:=qH (keptO hb2 kR.out);go_wp2_with fail
   refine HO2.out.mono ?_;rintro e w5 ⟨v5,rfl,⟨fa,fc,rfl,hO5⟩,hb5⟩;have hbf:=btt hb02 hb5;have k5:=keptO hb5 hkR.out;have z5:=cell_of_one k5;have fz:=row_free k5;have hO6:=hO5.other EVx.stc (by decide) (KeepX.setCell (p:=⟨w.heap.size+1,0,none⟩) k5 (.slice fa M.length fc));have m1:=heap_setCell_same w5 (w.heap.size+1) 0 _ _ (.slice fa M.length fc) k5;have hbe:=hbf.setCell (p:=⟨w.heap.size+1,0,none⟩) (by show w.heap.size≤w.heap.size+1;omega) (.slice fa M.length fc);replace m1:=qH m1;replace hO6:=qH hO6;clear hO5 k5;go_wp2_with fail
   exact⟨rfl,_,results_cx2 (k:=4) rfl _ _ _ rfl rfl m1.out,_,rfl,⟨_,_,rfl,hO6.out⟩,hbe⟩
 ·rw[if_pos (by simpa using he)] at hR;subst hR;have hz1:(z != 0)=true:=by simpa using he
  clear hS hf hz;go_enter Tryz.func38, Tryz.ntmps38
  go_wp2_with fail
  rw[←hW1];replace hW1:=qH hW1;refine HT.out.mono ?_;rintro e w2 ⟨rfl,hb2⟩;clear g0 g1 g2 g3;obtain⟨z5,fz,hres,hbe⟩:=cxEnd (fn:=Tryz.f38) (k:=4) (B:=w.heap.size+1) rfl hb1 (by omega) hb2 kR;clear he;go_wp2_with fail
  exact⟨rfl,_,hres.out _ _ rfl rfl,_,rfl,cxo_nil _,hbe⟩
def putN (l:List (List Int)) (x:List Int):List (List Int):=if x∈l then l else l ++ [x]
def putNs (l:List (List Int)) (xs:List (List Int)):List (List Int):=xs.foldl putN l
def vlC (cs:List Cs):List (List Int):=cs.foldl (fun l c=>putNs l c.2.1) []
theorem putN_mem {l:List (List Int)}{x z:List Int}:z∈putN l x↔z∈l∨z=x:=by
 unfold putN;split
 ·exact⟨.inl,fun h=>h.elim id fun e=>by rw[e];assumption⟩
 ·rw[List.mem_append,List.mem_singleton]
theorem putN_len {l:List (List Int)}{x:List Int}:(putN l x).length≤l.length+1:=by
 unfold putN;split
 ·omega
 ·rw[List.length_append];exact Nat.le_refl _
theorem putNs_mem {z:List Int}:∀ {xs l:List (List Int)},z∈putNs l xs↔z∈l∨z∈xs
 | [],l=>by simp[putNs]
 | x::r,l=>by
  show z∈putNs (putN l x) r↔_;rw[putNs_mem,putN_mem,List.mem_cons,or_assoc]
theorem putNs_len:∀ {xs l:List (List Int)},(putNs l xs).length≤l.length+xs.length
 | [],l=>by simp[putNs]
 | x::r,l=>by
  have h1:=putNs_len (xs:=r) (l:=putN l x);have h2:=putN_len (l:=l) (x:=x);show(putNs (putN l x) r).length≤_
  rw[List.length_cons];omega
theorem putNs_next {l xs:List (List Int)}{k:Nat}{x:List Int}(h:k < xs.length) (hx:xs.getD k []=x):putNs l (xs.take (k+1))=putN (putNs l (xs.take k)) x:=by
 unfold putNs;rw[take_snoc h [],hx,List.foldl_append];rfl
theorem vlC_next {cs:List Cs}{k:Nat}{c:Cs}(h:k < cs.length) (hc:cs.getD k csNil=c):vlC (cs.take (k+1))=putNs (vlC (cs.take k)) c.2.1:=by
 unfold vlC;rw[take_snoc h csNil,hc,List.foldl_append];rfl
theorem vlG_mem {z:List Int}:∀(cs:List Cs) (l:List (List Int)),z∈cs.foldl (fun l c=>putNs l c.2.1) l↔z∈l∨z∈cs.flatMap fun c=>c.2.1
 | [],l=>by simp
 | c::r,l=>by rw[List.foldl_cons,vlG_mem r,putNs_mem,List.flatMap_cons,List.mem_append,or_assoc]
theorem vlC_mem {z:List Int}{cs:List Cs}:z∈vlC cs↔z∈cs.flatMap fun c=>c.2.1:=by
 unfold vlC;rw[vlG_mem];simp
theorem vlG_len:∀(cs:List Cs) (l:List (List Int)),(cs.foldl (fun l c=>putNs l c.2.1) l).length≤l.length+(cs.flatMap fun c=>c.2.1).length
 | [],l=>by simp
 | c::r,l=>by
  rw[List.foldl_cons,List.flatMap_cons,List.length_append];have h1:=vlG_len r (putNs l c.2.1);have h2:=putNs_len (xs:=c.2.1) (l:=l);omega
theorem vlC_len {cs:List Cs}:(vlC cs).length≤(cs.flatMap fun c=>c.2.1).length:=by
 have:=vlG_len cs []
 rw[List.length_nil,Nat.zero_add] at this;exact this
theorem refVectorsX {w:World}{v:Value}{cs:List Cs}(hS:CsS w v cs) (hfl:cs.length≤30) (hfo:∀c∈cs,c.2.1.length≤30) :
  Calls Tryz.prog 86 #[v] w fun e w'=>∃u,e = .returned u∧OwX 48 1 (EWi w) w' w.heap.size u (vlC cs).length (vlC cs)∧Below w.heap.size w w':=by
 obtain⟨sa,sc,b,off,rfl,hsa,hc,-⟩:=hS;have hcs:=qH hc;replace hfo:=qH hfo;have hs0:Hid (OwX 48 1 (EWi w) w w.heap.size (.slice none 0 0) (vlC (cs.take 0)).length (vlC (cs.take 0))):=OwX.nil _ _;clear hc;go_enter Tryz.func86, Tryz.ntmps86
 go_wp2_with fail
 go_loopw [3,4] (fun ov iv wr=>∃i:Nat,iv = .int .i64 i∧i≤cs.length∧Hid (OwX 48 1 (EWi w) wr w.heap.size ov (vlC (cs.take i)).length (vlC (cs.take i)))∧Below w.heap.size w wr) (fun _ iv _=>cs.length - (intOf iv).toNat)
 case atStart=>exact⟨0,rfl,by omega,hs0,Below.refl _ _⟩
 case round=>
  clear hs0;obtain⟨i,rfl,hi,ho,hbr⟩:=hrel;obtain⟨oa,oc,hos⟩:=ho.out.shape;subst hos;by_cases hlt:i < cs.length
  ·have hii:(i:Int) < (cs.length:Int):=(by omega);obtain rfl:=hsa (by omega);obtain⟨u0,u1,u2,c0,c1,c2,i0,i1,i2⟩:=hcs.out i hlt;have hfc:=hfo.out (cs.getD i csNil) (by rw[getD_eq hlt];exact List.getElem_mem hlt);have hol:(vlC (cs.take i)).length≤900:=Nat.le_trans vlC_len (flat_take hfo.out hfl i);obtain⟨c,hcc⟩:=exE (cs.getD i csNil);have htk:=vlC_next hlt hcc;rw[hcc] at i1 hfc;obtain⟨P,hP⟩:=exE (vlC (cs.take i));rw[hP] at ho htk hol⊢;obtain⟨x1,y1,b1,o1,rfl,hx1,hc1,-⟩:=i1;have hcl:=qH hc1;have c1h:=qH c1;obtain⟨l,hll⟩:=exE (c.2.1);rw[hll] at hfc htk hx1 hcl c1h;replace htk:=qH htk;have hs0:Hid (OwX 48 1 (EWi w) wr w.heap.size (.slice oa P.length oc) (putNs P (l.take 0)).length (putNs P (l.take 0))):=ho.out;clear hcc hP c0 c1 c2 i0 i2 hc1 ho hll;go_wp2_with fail
   obtain⟨wo,hwo⟩:=exF (wr);subst hwo;go_loopw [3,5] (fun ov iv wr=>∃k:Nat,iv = .int .i64 k∧k≤l.length∧Hid (OwX 48 1 (EWi w) wr w.heap.size ov (putNs P (l.take k)).length (putNs P (l.take k)))∧Below w.heap.size w wr) (fun _ iv _=>l.length - (intOf iv).toNat)
   case atStart=>exact⟨0,rfl,by omega,hs0,hbr⟩
   case round=>
    clear hs0;obtain⟨k,rfl,hk,ho,hbr2⟩:=hrel;obtain⟨oa2,oc2,hos⟩:=ho.out.shape;subst hos;have c1:=cell_kept hbr2 c1h.out;by_cases hlt2:k < l.length
    ·have hkk:(k:Int) < (l.length:Int):=(by omega);obtain rfl:=hx1 (by omega);obtain⟨u,hu,hku⟩:=hcl.out k hlt2;have hu0:=qH hu;replace hu:=cell_kept hbr2 hu;obtain⟨x,hx⟩:=exE (l.getD k []);rw[hx] at hku;have hnx:=putNs_next (l:=P) hlt2 hx
     have hpl:(putNs P (l.take k)).length≤1000:=by
      have:=putNs_len (l:=P) (xs:=l.take k)
      rw[List.length_take] at this;omega
     obtain⟨Q1,hQ1⟩:=exE (putNs P (l.take k));rw[hQ1] at hnx hpl ho⊢;have HH:=refHasC (ho.out.intssK hbr2 (by omega)) (hku.keep hbr2);obtain⟨ua,uc,hus⟩:=hku.shape;subst hus;have hEl:EWi w wr [.slice ua x.length uc] x:=⟨_,rfl,hku⟩;have hEl:=qH (fun W:World=>(⟨_,rfl,hku⟩:EWi w W [.slice ua x.length uc] x));have hc9:Hid (∀u∈(#[.slice ua x.length uc]:Array Value).toList,u.oneCell'=true):=fun u hu=>by rw[List.mem_singleton.1 hu];rfl
     have hi9:Q1.length≤1000000000000:=(by omega);by_cases hm:x∈Q1
     ·rw[show putN Q1 x=Q1 from if_pos hm] at hnx;replace hnx:=qH hnx;simp only[decide_eq_true hm] at HH;replace HH:=qH HH;clear hm hx hQ1 hku;go_wp2_with fail
      refine HH.out.mono ?_;rintro e w3 ⟨rfl,hw3⟩;have hb3:Below wr.heap.size wr w3:=by first|exact hw3|(rw[hw3];exact Below.refl _ _)|exact hw3.below
      have ho3:Hid (OwX 48 1 (EWi w) w3 w.heap.size (.slice oa2 Q1.length oc2) (putNs P (l.take (k+1))).length (putNs P (l.take (k+1)))):=by
       show OwX _ _ _ _ _ _ _ _;rw[hnx.out];exact ho.out.keep (EWi.stab _ _) hb3
      go_wp2_with fail
      go_roundw
      case rel=>exact⟨k+1,by go_num,hlt2,ho3,btt hbr2 hb3⟩
      case measure=>simp[intOf];omega
     ·rw[show putN Q1 x=Q1 ++ [x] from if_neg hm] at hnx;replace hnx:=qH hnx;simp only[decide_eq_false hm] at HH;replace HH:=qH HH;clear hm hx hQ1 hku;go_wp2_with fail
      refine HH.out.mono ?_;rintro e w3 ⟨rfl,hw3⟩;have hb3:Below wr.heap.size wr w3:=(by first|exact hw3|(rw[hw3];exact Below.refl _ _)|exact hw3.below);have ho3:=ho.out.keep (EWi.stab _ _) hb3;have hb03:=btt hbr2 hb3;have hsz:=hb03.size;have hEl3:=qH (hEl.out w3);replace c1:=cell_kept hb3 c1;replace hu:=cell_kept hb3 hu;go_wp2_with (at_builtin;refine wpAppX (x:=x) elemVv (by decide) (by decide) (EWi.stab _ _) rfl _ _ rfl rfl ho3 rfl rfl rfl hc9.out hEl3.out hi9 hsz ?_)
      intro v4 w4 ho4 hg4 hb4 hx4
      have hO4:Hid (OwX 48 1 (EWi w) w4 w.heap.size v4 (putNs P (l.take (k+1))).length (putNs P (l.take (k+1)))):=by
       show OwX _ _ _ _ _ _ _ _;rw[hnx.out,List.length_append];exact ho4
      have hbr4:=hb03.trans hb4;clear ho4 ho3 hx4 hg4;go_wp2_with fail
      go_roundw
      case rel=>exact⟨k+1,by go_num,hlt2,hO4,hbr4⟩
      case measure=>simp[intOf];omega
    ·obtain rfl:k=l.length:=by omega
     have ho5:Hid (OwX 48 1 (EWi w) wr w.heap.size (.slice oa2 (putNs P (l.take l.length)).length oc2) (vlC (cs.take (i+1))).length (vlC (cs.take (i+1)))):=by
      show OwX _ _ _ _ _ _ _ _;have:=ho.out
      rw[List.take_length] at this⊢;rw[htk.out];exact this
     clear ho;go_wp2_with fail
     go_roundw
     case rel=>exact⟨i+1,by go_num,hlt,ho5,hbr2⟩
     case measure=>simp[intOf];omega
  ·obtain rfl:i=cs.length:=(by omega);have ho5:=ho.out;rw[List.take_length] at ho5⊢;replace ho5:=qH ho5;clear ho;go_wp2_with fail
   go_ret;exact⟨_,rfl,ho5.out,hbr⟩
theorem maxX_le {l:List (List (List Int))}:(maxX l).length≤l.length:=by
 have hg:∀(r out:List (List (List Int))),(mxPut l r out).length≤out.length+r.length:=by
  intro r;induction r with
  | nil=>intro out;simp[mxPut]
  | cons s r ih=>
   intro out;rw[mxPut,List.length_cons];have:=ih (if 0 < s.length∧covB l s=false then putG cmpX out s else out)
   have h2:=putX_len (l:=out) (s:=s);by_cases hc:0 < s.length∧covB l s=false
   ·rw[if_pos hc] at this⊢;omega
   ·rw[if_neg hc] at this⊢;omega
 have:=hg l []
 rw[List.length_nil,Nat.zero_add] at this;exact this
def EVb (w:World) (cs:List Value) (x:List (List Int)):Prop:=EVx w cs x∧x.length≤100
theorem EVb.stab {E:TypeId}(h:83 ≠ E):Stab E EVb:=fun _ _ _ _ ⟨k,l⟩ hx=>⟨EVx.stab h _ _ _ _ k hx,l⟩
theorem EVb.stb:Stab 38 EVb:=EVb.stab (by decide)
def PVb (w:World) (u:Value) (x:List (List Int)):Prop:=OwX 83 2 EI w 0 u x.length x∧x.length≤100
theorem PVb.ksc {w:World}:∀u x,PVb w u x→KSC 2 w u x:=fun u x h=>by
 obtain⟨h1,h2⟩:=h;obtain⟨a,c,rfl⟩:=h1.shape;exact EVx.ksc h1 (by omega)
theorem OwX.evp {w:World}{B n:Nat}{v:Value}{l:List (List (List Int))}(h:OwX 38 1 EVb w B v n l):OwX 38 1 (EWp (PVb w)) w B v n l:=
 h.mono fun _ _ ⟨⟨_,_,e,k⟩,hl⟩=>⟨_,e,k,hl⟩
theorem facets_own {w w5:World}{B n c0:Nat}{a:Option Addr}{R:List (List (List Int))}{u0 u1:Value}(h:OwX 38 1 (EWp (PVb w)) w5 0 (.slice a R.length c0) n R) (hb:Below w.heap.size w w5) (k5:w5.heap[B]? = some (.cells #[u0] 57)) :
  OwX 38 1 (EWp (PVb (w5.setCell ⟨B,0,none⟩ u1))) (w5.setCell ⟨B,0,none⟩ u1) 0 (.slice a R.length c0) n R:=by
 have hx:=KeepX.setCell (p:=⟨B,0,none⟩) k5 u1;refine(h.other (EWp.stab _ _) (E':=57) (by decide) hx).mono fun cs x ⟨u,e,hp⟩=>⟨u,e,?_⟩;exact⟨(hp.1.keep (EI.stab _) hb).other (EI.stab _) (E':=57) (by decide) hx,hp.2⟩
theorem facets_end {w w5:World}{B n c0:Nat}{a:Option Addr}{R:List (List (List Int))}{u0 u1:Value}(h:OwX 38 1 (EWp (PVb w)) w5 0 (.slice a R.length c0) n R) (hb:Below w.heap.size w w5) (k5:w5.heap[B]? = some (.cells #[u0] 57)) (hn:R.length≤1000000) :
  KSSC 2 (w5.setCell ⟨B,0,none⟩ u1) (.slice a R.length c0) R:=
 (RowP.ofOwX (facets_own h hb k5)).kss (Below.refl _ _) PVb.ksc hn
theorem refComplexOf {w:World}{v:Value}{l:List (List Int)}(h:Intss w v l) (hl:l.length≤1000) (hv:∀x∈l,VeC x) :
  Calls Tryz.prog 87 #[v] w fun e w'=>∃a c,e = .returned (.agg #[.slice a (maxX (l.map vecX)).length c])∧OwX 38 1 (EWp (PVb w')) w' 0 (.slice a (maxX (l.map vecX)).length c) (maxX (l.map vecX)).length (maxX (l.map vecX))∧Below w.heap.size w w':=by
 obtain⟨W1,hW1⟩:=exF (w.alloc (.cells #[.slice none 0 0] 57));have hb1:Below w.heap.size w W1:=by rw[hW1];exact(Below.refl _ w).alloc (Nat.le_refl _) _
 have kR:W1.heap[w.heap.size]? = some (.cells #[.slice none 0 0] 57):=by rw[hW1];exact heap_alloc_new _ _
 replace kR:=qH kR;obtain⟨a,c,b,off,rfl,ha,hc,-⟩:=h;have hcl:=qH hc;replace hv:=qH hv;obtain⟨R,hR⟩:=exE (maxX (l.map vecX));rw[hR];replace hR:=qH hR;have hs0:Hid (OwX 38 1 EVb W1 W1.heap.size (.slice none 0 0) ((l.take 0).map vecX).length ((l.take 0).map vecX)):=OwX.nil _ _;clear hc;go_enter Tryz.func87, Tryz.ntmps87
 go_wp2_with fail
 rw[←hW1];replace hW1:=qH hW1;go_loopw [3,4] (fun ov iv wr=>∃i:Nat,iv = .int .i64 i∧i≤l.length∧Hid (OwX 38 1 EVb wr W1.heap.size ov ((l.take i).map vecX).length ((l.take i).map vecX))∧Below W1.heap.size W1 wr) (fun _ iv _=>l.length - (intOf iv).toNat)
 case atStart=>exact⟨0,rfl,by omega,hs0,Below.refl _ _⟩
 case round=>
  clear hs0;obtain⟨i,rfl,hi,ho,hbr⟩:=hrel;obtain⟨oa,oc,hos⟩:=ho.out.shape;subst hos;have hb2:=btt hb1 hbr;by_cases hlt:i < l.length
  ·have hii:(i:Int) < (l.length:Int):=(by omega);obtain rfl:=ha (by omega);obtain⟨u,hu,hku⟩:=hcl.out i hlt;replace hu:=cell_kept hb2 hu;have hxv:=hv.out (l.getD i []) (by rw[getD_eq hlt];exact List.getElem_mem hlt);have htk:(l.take i).map vecX ++ [vecX (l.getD i [])]=(l.take (i+1)).map vecX:=(by rw[take_snoc hlt [],List.map_append];rfl);have hol:((l.take i).map vecX).length≤1000:=(by rw[List.length_map,List.length_take];omega);obtain⟨x,hx⟩:=exE (l.getD i []);rw[hx] at hku hxv htk;obtain⟨O,hO⟩:=exE ((l.take i).map vecX);rw[hO] at ho htk hol⊢;have HC:=qH (refVectorX (hku.keep hb2) (by have:=hxv.2.1;omega));have hSl:(vecX x).length≤100:=(by rw[vecX_len];have:=hxv.2.1;omega);obtain⟨S,hS⟩:=exE (vecX x);rw[hS] at HC htk hSl;obtain⟨xa,xc,hus⟩:=hku.shape;subst hus;replace htk:=qH htk;have hi9:O.length≤1000000000000:=(by omega);clear hO hx hku hxv hS;go_wp2_with fail
   refine HC.out.mono ?_;rintro e w3 ⟨v3,rfl,hO3,hb3⟩;obtain⟨pa,pc,hps⟩:=hO3.shape;subst hps;have ho3:=ho.out.keep EVb.stb hb3;have hb03:=btt hbr hb3;have hsz:=hb03.size;have hEl:Hid (EVb w3 [.slice pa S.length pc] S):=⟨⟨_,_,rfl,hO3.base (Nat.zero_le _)⟩,hSl⟩;have hc9:Hid (∀u∈(#[.slice pa S.length pc]:Array Value).toList,u.oneCell'=true):=fun u hu=>by rw[List.mem_singleton.1 hu];rfl
   clear hO3;go_wp2_with (at_builtin;refine wpAppX (x:=S) elemVs (by decide) (by decide) EVb.stb rfl _ _ rfl rfl ho3 rfl rfl rfl hc9.out hEl.out hi9 hsz ?_)
   intro v4 w4 hoo hg3 hb4 hx3
   have hO4:Hid (OwX 38 1 EVb w4 W1.heap.size v4 ((l.take (i+1)).map vecX).length ((l.take (i+1)).map vecX)):=by
    show OwX _ _ _ _ _ _ _ _;rw[←htk.out,List.length_append];exact hoo
   have hbr4:=hb03.trans hb4;clear hoo ho3 hg3 hx3;go_wp2_with fail
   go_roundw
   case rel=>exact⟨i+1,by go_num,hlt,hO4,hbr4⟩
   case measure=>simp[intOf];omega
  ·obtain rfl:i=l.length:=by omega
   have hvm:∀s∈(l.take l.length).map vecX,VS s:=fun s hs=>by
    obtain⟨y,hy,rfl⟩:=List.mem_map.1 hs;exact vecX_vs y
   have hml:((l.take l.length).map vecX).length≤10000:=(by rw[List.length_map,List.length_take];omega);have HO:=refMaximalX (RowP.ofOwX ho.out.evp) PVb.ksc hvm hml;rw[List.take_length,hR.out] at HO;have HOh:=qH HO;rw[List.take_length];obtain⟨M,hM⟩:=exE ((l.map vecX).length);rw[hM] at HOh;simp only[hM];clear hvm HO ho hM hml;go_wp2_with fail
   refine HOh.out.mono ?_;rintro e w5 ⟨fa,fc,rfl,hO5,hb5⟩;have hbw:=btt hb1 (btt hbr hb5);have k5:=keptO hb5 (keptO hbr kR.out);have z5:=cell_of_one k5;have fz:=row_free k5;have hKf:=qH (facets_own (u1:=.slice fa R.length fc) hO5 hb5 k5);have m1:=heap_setCell_same w5 w.heap.size 0 _ _ (.slice fa R.length fc) k5;have hbe:=hbw.setCell (p:=⟨w.heap.size,0,none⟩) (Nat.le_refl _) (.slice fa R.length fc);replace m1:=qH m1;clear hO5 k5;go_wp2_with fail
   exact⟨rfl,_,results_cx1 rfl _ _ _ rfl m1.out,_,_,rfl,hKf.out,hbe⟩
theorem outA_vl {cs:List Cs}:maxX ((vlC cs).map vecX)=maxX ((cs.flatMap fun c=>c.2.1).map vecX):=
 maxX_congr (fun s hs=>by obtain⟨y,_,rfl⟩:=List.mem_map.1 hs;exact vecX_vs y) fun x=>by simp only[List.mem_map,vlC_mem]
theorem ksn (w:World):KSSC 2 w (.slice none 0 0) []:=⟨none,0,0,0,rfl,fun h=>absurd h (by decide),fun j hj=>absurd hj (Nat.not_lt_zero _),by decide,by decide⟩
theorem refInputs {w:World}{v:Value}{n i o:Int}{cs:List Cs}(h:TaskV w v n i o cs) (hf:fewT cs=true) :
  Calls Tryz.prog 35 #[v] w fun e w'=>∃u,e = .returned (.tuple #[.agg #[u],.int .i64 (inpA n i o cs).1])∧KSSC 2 w' u (inpA n i o cs).2∧Below w.heap.size w w':=by
 obtain⟨sv,rfl,hS⟩:=h;obtain⟨sa,sc,hs⟩:=hS.shape;subst hs;obtain⟨W1,hW1,hb1,hs1,kT,kR⟩:=boxTC w (.int .i64 n) (.int .i64 i) (.int .i64 o) (.slice sa cs.length sc);have HT:=qH (refCheckT (n:=n) (i:=i) (o:=o) (cs:=cs) ⟨_,rfl,hS.keep hb1⟩);have HK:=qH (fun W (hb:Below W1.heap.size W1 W)=>keep4 hb (box4' kT));obtain⟨g0,g1,g2,g3⟩:=HK.out W1 (Below.refl _ _);rw[hW1] at g0 g1 g2 g3;replace kR:=qH kR;have hz:=@task_ve n i o cs;obtain⟨R,hR⟩:=exE (inpA n i o cs);rw[hR];unfold inpA at hR;obtain⟨z,hzz⟩:=exE (chkT n i o cs);rw[hzz] at hz hR HT;clear kT hzz;by_cases he:z=0
 ·rw[if_neg (by simpa using he)] at hR;obtain⟨hl0,hg⟩:=hz he;subst he;obtain⟨hfl,hfo⟩:=few_lens hf;obtain⟨b,off,rfl,hc⟩:=hS.at hl0;have hcs:=qH hc;replace hg:=qH hg;obtain⟨M,hM⟩:∃M,maxX ((cs.map fun c=>c.1).map vecX)=M:=⟨_,rfl⟩;rw[hM] at hR;replace hM:=qH hM;subst hR;clear hS hf hc hz hfo;go_enter Tryz.func35, Tryz.ntmps35
  go_wp2_with fail
  rw[←hW1];replace hW1:=qH hW1;refine HT.out.mono ?_;rintro e w2 ⟨rfl,hb2⟩;clear g0 g1 g2 g3;have hb02:=btt hb1 hb2;have hs0:Hid (OwX 38 1 EVb w2 w2.heap.size (.slice none 0 0) (((cs.take 0).map fun c=>c.1).map vecX).length (((cs.take 0).map fun c=>c.1).map vecX)):=OwX.nil _ _;go_wp2_with fail
  go_loopw [5,6] (fun ov iv wr=>∃k:Nat,iv = .int .i64 k∧k≤cs.length∧Hid (OwX 38 1 EVb wr w2.heap.size ov (((cs.take k).map fun c=>c.1).map vecX).length (((cs.take k).map fun c=>c.1).map vecX))∧Below w2.heap.size w2 wr) (fun _ iv _=>cs.length - (intOf iv).toNat)
  case atStart=>exact⟨0,rfl,by omega,hs0,Below.refl _ _⟩
  case round=>
   clear hs0;obtain⟨k,rfl,hk,ho,hbr⟩:=hrel;obtain⟨oa,oc,hos⟩:=ho.out.shape;subst hos;obtain⟨g0,g1,g2,g3⟩:=HK.out wr (btt hb2 hbr);by_cases hlt:k < cs.length
   ·have hii:(k:Int) < (cs.length:Int):=(by omega);obtain⟨u0,u1,u2,c0,c1,c2,i0,i1,i2⟩:=hcs.out k hlt;have hb0r:=btt hb02 hbr;replace c0:=cell_kept hb0r c0;have hgc:=hg.out (cs.getD k csNil) (by rw[getD_eq hlt];exact List.getElem_mem hlt);obtain⟨c,hcc⟩:=exE (cs.getD k csNil)
    have htk:((cs.take (k+1)).map fun c=>c.1).map vecX=((cs.take k).map fun c=>c.1).map vecX ++ [vecX c.1]:=by
     rw[map_next (f:=fun c:Cs=>c.1) hlt hcc,List.map_append];rfl
    have hol:(((cs.take k).map fun c=>c.1).map vecX).length≤1000:=(by rw[List.length_map,List.length_map,List.length_take];omega);rw[hcc] at i0 hgc;obtain⟨O,hO⟩:∃O,(((cs.take k).map fun c=>c.1).map vecX)=O:=⟨_,rfl⟩;rw[hO] at ho htk hol⊢;obtain⟨x,hx⟩:=exE (c.1);rw[hx] at i0 htk;have hxl:x.length≤5:=(by rw[←hx];exact hgc.1.2.1);have HC:=qH (refVectorX (i0.keep hb0r) (by omega));have hSl:(vecX x).length≤100:=(by rw[vecX_len];omega);obtain⟨S,hS⟩:=exE (vecX x);rw[hS] at HC htk hSl;obtain⟨xa,xc,hus⟩:=i0.shape;subst hus;replace htk:=qH htk;have hi9:O.length≤1000000000000:=(by omega);clear hO hx hgc hS hcc i0 i1 i2 c1 c2;go_wp2_with fail
    refine HC.out.mono ?_;rintro e w3 ⟨v3,rfl,hO3,hb3⟩;obtain⟨pa,pc,hps⟩:=hO3.shape;subst hps;have ho3:=ho.out.keep EVb.stb hb3;have hb03:=btt hbr hb3;have hsz:=hb03.size;have hEl:Hid (EVb w3 [.slice pa S.length pc] S):=⟨⟨_,_,rfl,hO3.base (Nat.zero_le _)⟩,hSl⟩;have hc9:Hid (∀u∈(#[.slice pa S.length pc]:Array Value).toList,u.oneCell'=true):=fun u hu=>by rw[List.mem_singleton.1 hu];rfl
    clear hO3;go_wp2_with (at_builtin;refine wpAppX (x:=S) elemVs (by decide) (by decide) EVb.stb rfl _ _ rfl rfl ho3 rfl rfl rfl hc9.out hEl.out hi9 hsz ?_)
    intro v4 w4 hoo hg3 hb4 hx3
    have hO4:Hid (OwX 38 1 EVb w4 w2.heap.size v4 (((cs.take (k+1)).map fun c=>c.1).map vecX).length (((cs.take (k+1)).map fun c=>c.1).map vecX)):=by
     show OwX _ _ _ _ _ _ _ _;rw[htk.out,List.length_append];exact hoo
    have hbr4:=hb03.trans hb4;clear hoo ho3 hg3 hx3;go_wp2_with fail
    go_roundw
    case rel=>exact⟨k+1,by go_num,hlt,hO4,hbr4⟩
    case measure=>simp[intOf];omega
   ·obtain rfl:k=cs.length:=(by omega);have ho5:=ho.out;rw[List.take_length] at ho5⊢
    have hvm:∀s∈(cs.map fun c=>c.1).map vecX,VS s:=fun s hs=>by
     obtain⟨y,hy,rfl⟩:=List.mem_map.1 hs;exact vecX_vs y
    have hml:((cs.map fun c=>c.1).map vecX).length≤10000:=(by rw[List.length_map,List.length_map];omega);have HO:=refMaximalX (RowP.ofOwX ho5.evp) PVb.ksc hvm hml;rw[hM.out] at HO;have HOh:=qH HO
    have hRl:M.length≤1000000:=by
     rw[←hM.out];have:=maxX_le (l:=(cs.map fun c=>c.1).map vecX)
     rw[List.length_map,List.length_map] at this;omega
    have hkR:=qH (keptO hbr (keptO hb2 kR.out));obtain⟨N,hN⟩:∃N,((cs.map fun c=>c.1).map vecX).length=N:=⟨_,rfl⟩;rw[hN] at HOh⊢;clear hvm HO ho ho5 hml hN;go_wp2_with fail
    refine HOh.out.mono ?_;rintro e w5 ⟨fa,fc,rfl,hO5,hb5⟩;have hbf:=btt hb02 (btt hbr hb5);have k5:=keptO hb5 hkR.out;have z5:=cell_of_one k5;have fz:=row_free k5;have hKf:=qH (facets_end (u1:=.slice fa M.length fc) hO5 hb5 k5 hRl);have m1:=heap_setCell_same w5 (w.heap.size+1) 0 _ _ (.slice fa M.length fc) k5;have hbe:=hbf.setCell (p:=⟨w.heap.size+1,0,none⟩) (by show w.heap.size≤w.heap.size+1;omega) (.slice fa M.length fc);replace m1:=qH m1;clear hO5 k5;go_wp2_with fail
    exact⟨rfl,_,results_cx2 (k:=2) rfl _ _ _ rfl rfl m1.out,_,rfl,hKf.out,hbe⟩
 ·rw[if_pos (by simpa using he)] at hR;subst hR;have hz1:(z != 0)=true:=by simpa using he
  clear hS hf hz;go_enter Tryz.func35, Tryz.ntmps35
  go_wp2_with fail
  rw[←hW1];replace hW1:=qH hW1;refine HT.out.mono ?_;rintro e w2 ⟨rfl,hb2⟩;clear g0 g1 g2 g3;obtain⟨z5,fz,hres,hbe⟩:=cxEnd (fn:=Tryz.f35) (k:=2) (B:=w.heap.size+1) rfl hb1 (by omega) hb2 kR;clear he;go_wp2_with fail
  exact⟨rfl,_,hres.out _ _ rfl rfl,_,rfl,ksn _,hbe⟩
def TaskC (w:World) (v:Value) (n ins outs:Int) (cs:List Cs):Prop:=∃a c,v = .agg #[.int .i64 n,.int .i64 ins,.int .i64 outs,.slice a cs.length c]∧CsS w (.slice a cs.length c) cs∧cs.length≤c∧c≤1954687338268
theorem TaskC.t {w:World}{v:Value}{n i o:Int}{cs:List Cs}(h:TaskC w v n i o cs):TaskV w v n i o cs:=by
 obtain⟨a,c,h1,h2,_⟩:=h;exact⟨_,h1,h2⟩
theorem TaskC.keep {w w':World}{v:Value}{n i o:Int}{cs:List Cs}(h:TaskC w v n i o cs) (hb:Below w.heap.size w w'):TaskC w' v n i o cs:=by
 obtain⟨a,c,h1,h2,h3⟩:=h;exact⟨a,c,h1,h2.keep hb,h3⟩
theorem refOutputs {w:World}{v:Value}{n i o:Int}{cs:List Cs}(h:TaskV w v n i o cs) (hf:fewT cs=true) :
  Calls Tryz.prog 37 #[v] w fun e w'=>∃u,e = .returned (.tuple #[.agg #[u],.int .i64 (outA n i o cs).1])∧KSSC 2 w' u (outA n i o cs).2∧Below w.heap.size w w':=by
 obtain⟨sv,rfl,hS⟩:=h;obtain⟨sa,sc,hs⟩:=hS.shape;subst hs;obtain⟨W1,hW1,hb1,hs1,kT,kR⟩:=boxTC w (.int .i64 n) (.int .i64 i) (.int .i64 o) (.slice sa cs.length sc);have HT:=qH (refCheckT (n:=n) (i:=i) (o:=o) (cs:=cs) ⟨_,rfl,hS.keep hb1⟩);have HK:=qH (fun W (hb:Below W1.heap.size W1 W)=>keep4 hb (box4' kT));obtain⟨g0,g1,g2,g3⟩:=HK.out W1 (Below.refl _ _);rw[hW1] at g0 g1 g2 g3;replace kR:=qH kR;have hz:=@task_ve n i o cs;obtain⟨R,hR⟩:=exE (outA n i o cs);rw[hR];unfold outA at hR;obtain⟨z,hzz⟩:=exE (chkT n i o cs);rw[hzz] at hz hR HT;clear kT hzz;by_cases he:z=0
 ·rw[if_neg (by simpa using he),←outA_vl] at hR;obtain⟨hl0,hg⟩:=hz he;subst he;obtain⟨hfl,hfo⟩:=few_lens hf
  have hvl:∀x∈vlC cs,VeC x:=fun x hx=>by
   obtain⟨c,hc1,hx2⟩:=List.mem_flatMap.1 (vlC_mem.1 hx);exact(hg c hc1).2.2 x hx2
  have hvn:(vlC cs).length≤900:=by
   have:=flat_take hfo hfl cs.length
   rw[List.take_length] at this;exact Nat.le_trans vlC_len this
  have HV:=qH (fun W (hb:Below w.heap.size w W)=>refVectorsX (hS.keep hb) hfl hfo);obtain⟨V,hV⟩:=exE (vlC cs);simp only[hV] at HV hvl hvn hR
  have hMl:(maxX (V.map vecX)).length≤1000:=by
   have:=maxX_le (l:=V.map vecX)
   rw[List.length_map] at this;omega
  have HM:=qH (fun W u (h:Intss W u V)=>refComplexOf h (by omega) hvl);obtain⟨M,hM⟩:=exE (maxX (V.map vecX));simp only[hM] at HM hR hMl;subst hR;have d1:decide (4096 < V.length)=false:=decide_eq_false (by omega);clear hS hf hz hg hvl hV hM hfo;go_enter Tryz.func37, Tryz.ntmps37
  go_wp2_with fail
  rw[←hW1];replace hW1:=qH hW1;refine HT.out.mono ?_;rintro e w2 ⟨rfl,hb2⟩;clear g0 g1 g2 g3;obtain⟨g0,g1,g2,g3⟩:=HK.out w2 hb2;have hb02:=btt hb1 hb2;have HV2:=qH (HV.out w2 hb02);go_wp2_with fail
  refine HV2.out.mono ?_;rintro e w3 ⟨v3,rfl,hO3,hb3⟩;have HM3:=qH (HM.out w3 _ (hO3.intssK hb3 (by omega)));obtain⟨pa,pc,hps⟩:=hO3.shape;subst hps;clear hO3 g0 g1 g2 g3;go_wp2_with fail
  refine HM3.out.mono ?_;rintro e w5 ⟨fa,fc,rfl,hO5,hb5⟩;have hb25:=btt hb3 hb5;have hbf:=btt hb02 hb25;have k5:=keptO (btt hb2 hb25) kR.out;have z5:=cell_of_one k5;have fz:=row_free k5;have hKf:=qH (facets_end (u1:=.slice fa M.length fc) hO5 (Below.refl _ _) k5 (by omega));have m1:=heap_setCell_same w5 (w.heap.size+1) 0 _ _ (.slice fa M.length fc) k5;have hbe:=hbf.setCell (p:=⟨w.heap.size+1,0,none⟩) (by show w.heap.size≤w.heap.size+1;omega) (.slice fa M.length fc);replace m1:=qH m1;clear hO5 k5;go_wp2_with fail
  exact⟨rfl,_,results_cx2 (k:=2) rfl _ _ _ rfl rfl m1.out,_,rfl,hKf.out,hbe⟩
 ·rw[if_pos (by simpa using he)] at hR;subst hR;have hz1:(z != 0)=true:=by simpa using he
  clear hS hf hz;go_enter Tryz.func37, Tryz.ntmps37
  go_wp2_with fail
  rw[←hW1];replace hW1:=qH hW1;refine HT.out.mono ?_;rintro e w2 ⟨rfl,hb2⟩;clear g0 g1 g2 g3;obtain⟨z5,fz,hres,hbe⟩:=cxEnd (fn:=Tryz.f37) (k:=2) (B:=w.heap.size+1) rfl hb1 (by omega) hb2 kR;clear he;go_wp2_with fail
  exact⟨rfl,_,hres.out _ _ rfl rfl,_,rfl,ksn _,hbe⟩
end Go.Proofs.YtcnedkkcgdkioaaGreat
