/- Texts of this claim, put together: QC QD QE. -/
import Derived.Test.YtcnedkkcgdkioaaGreatKAzb

set_option maxRecDepth 100000
set_option maxHeartbeats 12800000
namespace Go.Proofs.YtcnedkkcgdkioaaGreat
open Go.RowKit
theorem cmpI_three (a b:Int):cmpI a b = -1∨cmpI a b=0∨cmpI a b=1:=by
 unfold cmpI;split
 ·exact .inl rfl
 ·split
  ·exact .inr (.inr rfl)
  ·exact .inr (.inl rfl)
theorem cmpL_three:∀a b:List Int,cmpL a b = -1∨cmpL a b=0∨cmpL a b=1
 | [],[]=>.inr (.inl rfl)
 | [],_::_=>.inl rfl
 | _::_,[]=>.inr (.inr rfl)
 | a::x,b::y=>by
  rw[cmpL];split
  ·exact cmpL_three x y
  ·exact cmpI_three a b
theorem insG_len {α:Type}{cmp:α→α→Int}{x:α}:∀ {l:List α},(insG cmp x l).length=l.length+1
 | []=>rfl
 | y::l=>by
  rw[insG];split
  ·rfl
  ·rw[List.length_cons,insG_len,List.length_cons]
def restG (d:Bool) (s:List (List Int)) (r:List (List (List Int))):List (List (List Int)):=if d=true then r else insG cmpX s r
structure PutS (l:List (List (List Int))) (s:List (List Int)) (i:Nat) (d:Bool) (out:List (List (List Int))):Prop where
 eq:out++restG d s (l.drop i)=insG cmpX s l
 out:s ∉ l.take i
theorem PutS.len {l:List (List (List Int))}{s:List (List Int)}{i:Nat}{d:Bool}{out:List (List (List Int))}(h:PutS l s i d out):out.length≤l.length+1:=by
 have:=congrArg List.length h.eq
 rw[List.length_append,insG_len] at this;omega
theorem PutS.zero (l:List (List (List Int))) (s:List (List Int)):PutS l s 0 false []:=⟨rfl,by simp⟩
section
variable {l:List (List (List Int))} {s:List (List Int)} {i:Nat} {out:List (List (List Int))} {x:List (List Int)}
theorem notin_next (hlt:i < l.length) (hx:l.getD i []=x) (ho:s ∉ l.take i) (hne:cmpX s x ≠ 0):s ∉ l.take (i+1):=by
 rw[take_snoc hlt [],hx,List.mem_append,List.mem_singleton];rintro(h|rfl)
 ·exact ho h
 ·exact hne (cmpX_self s)
theorem PutS.more {d:Bool}(h:PutS l s i d out) (hlt:i < l.length) (hx:l.getD i []=x) (hne:cmpX s x ≠ 0) (hd:d=true∨¬cmpX s x < 0):PutS l s (i+1) d (out ++ [x]):=by
 refine⟨?_,notin_next hlt hx h.out hne⟩;rw[←h.eq,drop_getD hlt (d:=[]),hx,List.append_assoc];congr 1
 cases d
 ·have hd:=hd.resolve_left (by decide);show x::insG cmpX s (l.drop (i+1))=insG cmpX s (x::l.drop (i+1));rw[insG,if_neg hd]
 ·rfl
theorem PutS.put (h:PutS l s i false out) (hlt:i < l.length) (hx:l.getD i []=x) (hne:cmpX s x < 0):PutS l s (i+1) true (out ++ [s] ++ [x]):=by
 refine⟨?_,notin_next hlt hx h.out (by omega)⟩;rw[←h.eq,drop_getD hlt (d:=[]),hx,List.append_assoc,List.append_assoc];congr 1
 show s::x::l.drop (i+1)=insG cmpX s (x::l.drop (i+1));rw[insG,if_pos hne]
theorem PutS.endT (h:PutS l s l.length true out):putG cmpX l s=out:=by
 have h1:=h.eq;have h2:=h.out;rw[List.drop_length] at h1;rw[List.take_length] at h2;unfold putG;rw[if_neg h2,←h1];show out ++ []=out;rw[List.append_nil]
theorem PutS.endF (h:PutS l s l.length false out):putG cmpX l s=out ++ [s]:=by
 have h1:=h.eq;have h2:=h.out;rw[List.drop_length] at h1;rw[List.take_length] at h2;unfold putG;rw[if_neg h2,←h1];rfl
end
def EWp (P:Value→List (List Int)→Prop) (_:World) (cs:List Value) (x:List (List Int)):Prop:=∃u,cs = [u]∧P u x
theorem EWp.stab (P:Value→List (List Int)→Prop) (E:TypeId):Stab E (EWp P):=fun _ _ _ _ h _=>h
theorem OwX.pcell {P:Value→List (List Int)→Prop}{w:World}{B g n cap:Nat}{E:TypeId}{us:List (List (List Int))}(h:OwX E 1 (EWp P) w B (.slice (some ⟨g,0,none⟩) n cap) n us) {j:Nat}(hj:j < n):∃u,w.cell? ⟨g,j,none⟩=some u∧P u (us.getD j []):=by
 obtain⟨vs,h1,h2,_,h4⟩:=h;have hl:vs.length=n:=by have:=h1.1;omega
 have hc:=World.ownsRow.cellAt h1 j (by omega);rw[List.getElem?_eq_getElem (by omega)] at hc;obtain⟨u,e,hk⟩:=h4 j (us.getD j []) (by rw[getD_eq (by omega)];exact List.getElem?_eq_getElem (by omega));rw[Nat.mul_one,List.drop_eq_getElem_cons (by omega)] at e;have e2:vs[j]=u:=by injection e
 exact⟨_,hc,by rw[e2];exact hk⟩
theorem refPutX {P:Value→List (List Int)→Prop}{w0 w:World}{u v:Value}{l:List (List (List Int))}{s:List (List Int)}(h:OwX 38 1 (EWp P) w 0 v l.length l) (hb0:Below w0.heap.size w0 w) (hP:∀u x,P u x→KSC 2 w0 u x) (kp:P u s) (hv:VS s) (hvl:∀x∈l,VS x) (hl:l.length≤100000) :
  Calls Tryz.prog 145 #[v,u] w fun e w'=>∃v',e = .returned v'∧OwX 38 1 (EWp P) w' 0 v' (putG cmpX l s).length (putG cmpX l s)∧Below w.heap.size w w':=by
 have k:=hP _ _ kp;obtain⟨sa,sc,hsh⟩:=k.shape;subst hsh;have kh:=qH k;have hEl:Hid (∀W:World,EWp P W [.slice sa s.length sc] s):=fun _=>⟨_,rfl,kp⟩;have hc9:Hid (∀u∈(#[.slice sa s.length sc]:Array Value).toList,u.oneCell'=true):=fun u hu=>by rw[List.mem_singleton.1 hu];rfl
 obtain⟨va,vc,hsh⟩:=h.shape;subst hsh;have hform:=fun hn=>h.form hn;have hh:=qH h;have h0:OwX 38 1 (EWp P) w w.heap.size (.slice none 0 0) ([]:List (List (List Int))).length []:=OwX.nil _ _;have hP0:=qH (PutS.zero l s);replace hvl:=qH hvl;obtain⟨R,hR⟩:=exF (putG cmpX l s);rw[←hR];replace hR:=qH hR;have hPh:=qH hP;clear h k kp hP;go_enter Tryz.func145, Tryz.ntmps145
 go_wp2_with fail
 go_loopw [5,6,7] (fun ov dv iv wr=>∃(i:Nat) (d:Bool) (out:List (List (List Int))),dv = .bool d∧iv = .int .i64 i∧i≤l.length∧OwX 38 1 (EWp P) wr w.heap.size ov out.length out∧Hid (PutS l s i d out)∧Below w.heap.size w wr) (fun _ _ iv _=>l.length - (intOf iv).toNat)
 case atStart=>exact⟨0,false,[],rfl,rfl,by omega,h0,hP0,Below.refl _ _⟩
 case round=>
  clear h0 hP0;obtain⟨i,d,out,rfl,rfl,hi,hO,hP,hbr⟩:=hrel;obtain⟨oa,oc,hos⟩:=hO.shape;subst hos;have hol:=hP.out.len;have hi9:out.length≤1000000000000:=by omega
  have hi8:out.length+1≤1000000000000:=by omega
  have hsz:=hbr.size;by_cases hlt:i < l.length
  ·have hii:(i:Int) < (l.length:Int):=(by omega);obtain⟨g,cap,he,_⟩:=hform (by omega);injection he with e1 e2 e3;subst e1 e3;clear e2;have hcell:=hh.out.pcell hlt;obtain⟨x,hx⟩:=exE (l.getD i []);rw[hx] at hcell;have hvx:=hvl.out x (by rw[←hx,getD_eq hlt];exact List.getElem_mem hlt);obtain⟨ux,cx,kpx⟩:=hcell;have kx:=hPh.out _ _ kpx;have hEx:Hid (∀W:World,EWp P W [ux] x):=fun _=>⟨_,rfl,kpx⟩;have cx0:=qH cx;replace cx:=cell_kept hbr cx;obtain⟨xa,xc,hsx⟩:=kx.shape;subst hsx;have hx9:Hid (∀u∈(#[.slice xa x.length xc]:Array Value).toList,u.oneCell'=true):=fun u hu=>by rw[List.mem_singleton.1 hu];rfl
   have HC:=qH (refCompareV (kh.out.ks.keep (btt hb0 hbr)) (kx.ks.keep (btt hb0 hbr)));have hmore:=fun(hne:cmpX s x ≠ 0) hd=>hP.out.more hlt hx hne hd;obtain⟨C,hC⟩:=exE (cmpX s x);have hC':cmpS s x=C:=hC;rw[hC'] at HC;rw[hC] at hmore;have h3:C = -1∨C=0∨C=1:=(by rw[←hC];exact cmpL_three _ _);replace hC:=qH hC;replace hmore:=qH hmore;replace hx:=qH hx;replace hO:=qH hO;clear hC' kx kpx;go_wp2_with fail
   refine HC.out.mono ?_;rintro e w3 ⟨rfl,hb3⟩;have hb03:=btt hbr hb3;have hsz3:=hb03.size;have hO3:=hO.out.keep (EWp.stab _ _) hb3;replace cx:=cell_kept hb3 cx;clear hO;have hx':=hx;rcases h3 with rfl|rfl|rfl
   ·cases d
    ·have hP2:Hid (PutS l s (i+1) true (out ++ [s] ++ [x])):=hP.out.put hlt hx.out (by rw[hC.out];decide);have hEl1:=qH (hEl.out w3);go_wp2_with (at_builtin;refine wpAppX (x:=s) elemVs (by decide) (by decide) (EWp.stab _ _) rfl _ _ rfl rfl hO3 rfl rfl rfl hc9.out hEl1.out hi9 hsz3 ?_)
     intro v4 w4 ho4 hg4 hb4 hx4;have hb04:=hb03.trans hb4;have hsz4:=hb04.size;obtain⟨pa,pc,hps⟩:=ho4.shape;subst hps;have cx4:=cell_kept hb04 cx0.out;have hEx1:=qH (hEx.out w4);clear cx;go_wp2_with (at_builtin;refine wpAppX (x:=x) elemVs (by decide) (by decide) (EWp.stab _ _) rfl _ _ rfl rfl ho4 rfl rfl rfl hx9.out hEx1.out hi8 hsz4 ?_)
     intro v5 w5 ho5 hg5 hb5 hx5
     have hO5:Hid (OwX 38 1 (EWp P) w5 w.heap.size v5 (out ++ [s] ++ [x]).length (out ++ [s] ++ [x])):=by
      show OwX _ _ _ _ _ _ _ _;rw[show out ++ [s] ++ [x]=out ++ [s,x] by simp,List.length_append];exact ho5
     have hb05:=hb04.trans hb5;clear ho5;go_wp2_with fail
     go_roundw
     case rel=>exact⟨i+1,true,_,rfl,by go_num,hlt,hO5.out,hP2,hb05⟩
     case measure=>simp[intOf];omega
    ·have hP2:Hid (PutS l s (i+1) true (out ++ [x])):=hmore.out (by decide) (.inl rfl);have hEx1:=qH (hEx.out w3);go_wp2_with (at_builtin;refine wpAppX (x:=x) elemVs (by decide) (by decide) (EWp.stab _ _) rfl _ _ rfl rfl hO3 rfl rfl rfl hx9.out hEx1.out hi9 hsz3 ?_)
     intro v5 w5 ho5 hg5 hb5 hx5
     have hO5:Hid (OwX 38 1 (EWp P) w5 w.heap.size v5 (out ++ [x]).length (out ++ [x])):=by
      show OwX _ _ _ _ _ _ _ _;rw[List.length_append];exact ho5
     have hb05:=hb03.trans hb5;clear ho5;go_wp2_with fail
     go_roundw
     case rel=>exact⟨i+1,true,_,rfl,by go_num,hlt,hO5.out,hP2,hb05⟩
     case measure=>simp[intOf];omega
   ·have hsx:R=l:=by
     have:=(cmpX_zero hv hvx).1 hC.out
     rw[hR.out];unfold putG;rw[if_pos];rw[this,←hx.out,getD_eq hlt];exact List.getElem_mem hlt
    subst hsx;have hOl:=qH ((hh.out.keep (EWp.stab _ _) hb03));go_wp2_with fail
    go_ret;exact⟨_,rfl,hOl.out,hb03⟩
   ·have hP2:Hid (PutS l s (i+1) d (out ++ [x])):=hmore.out (by decide) (.inr (by decide));have hEx1:=qH (hEx.out w3);cases d
    all_goals
     go_wp2_with (at_builtin;refine wpAppX (x:=x) elemVs (by decide) (by decide) (EWp.stab _ _) rfl _ _ rfl rfl hO3 rfl rfl rfl hx9.out hEx1.out hi9 hsz3 ?_)
     intro v5 w5 ho5 hg5 hb5 hx5
     have hO5:Hid (OwX 38 1 (EWp P) w5 w.heap.size v5 (out ++ [x]).length (out ++ [x])):=by
      show OwX _ _ _ _ _ _ _ _;rw[List.length_append];exact ho5
     have hb05:=hb03.trans hb5;clear ho5;go_wp2_with fail
     go_roundw
     case rel=>exact⟨i+1,_,_,rfl,by go_num,hlt,hO5.out,hP2,hb05⟩
     case measure=>simp[intOf];omega
  ·obtain rfl:i=l.length:=(by omega);cases d
   ·have hE:=hR.out.trans hP.out.endF;have hEl1:=qH (hEl.out wr);clear hP hR;subst hE;go_wp2_with (at_builtin;refine wpAppX (x:=s) elemVs (by decide) (by decide) (EWp.stab _ _) rfl _ _ rfl rfl hO rfl rfl rfl hc9.out hEl1.out hi9 hsz ?_)
    intro v4 w4 ho4 hg4 hb4 hx4
    have hO5:Hid (OwX 38 1 (EWp P) w4 0 v4 (out ++ [s]).length (out ++ [s])):=by
     show OwX _ _ _ _ _ _ _ _;rw[List.length_append];exact ho4.base (Nat.zero_le _)
    have hb04:=hbr.trans hb4;clear ho4;go_wp2_with fail
    go_ret;exact⟨_,rfl,hO5.out,hb04⟩
   ·have hE:=hR.out.trans hP.out.endT;clear hP hR;subst hE;have hO5:=qH (hO.base (Nat.zero_le _));clear hO;go_wp2_with fail
    go_ret;exact⟨_,rfl,hO5.out,hbr⟩
end Go.Proofs.YtcnedkkcgdkioaaGreat
namespace Go.Proofs.YtcnedkkcgdkioaaGreat
open Go.RowKit
theorem putX_len {l:List (List (List Int))}{s:List (List Int)}:(putG cmpX l s).length≤l.length+1:=by
 unfold putG;split
 ·omega
 ·rw[insG_len];omega
theorem putX_vs {l:List (List (List Int))}{s:List (List Int)}(h:∀x∈l,VS x) (hs:VS s):∀x∈putG cmpX l s,VS x:=fun x hx=>by
 rcases putG_mem.1 hx with rfl|hx
 ·exact hs
 ·exact h x hx
theorem mxPut_drop {l out:List (List (List Int))}{i:Nat}{s:List (List Int)}(h:i < l.length) (hs:l.getD i []=s):mxPut l (l.drop i) out=mxPut l (l.drop (i+1)) (if 0 < s.length∧covB l s=false then putG cmpX out s else out):=by
 rw[drop_getD h (d:=[]),hs,mxPut]
def RowP (P:Value→List (List Int)→Prop) (w:World) (v:Value) (l:List (List (List Int))):Prop:=
 ∃a c b off,v = .slice a l.length c∧(0 < l.length→a=some ⟨b,off,none⟩)∧(∀j,j < l.length→∃u,w.cell? ⟨b,off+j,none⟩=some u∧P u (l.getD j []))∧l.length≤c
theorem RowP.kss {P:Value→List (List Int)→Prop}{w0 w:World}{v:Value}{l:List (List (List Int))}(h:RowP P w v l) (hb:Below w0.heap.size w0 w) (hP:∀u x,P u x→KSC 2 w0 u x) (hl:l.length≤1000000):KSSC 2 w v l:=by
 obtain⟨a,c,b,off,h1,h2,h3,h4⟩:=h;exact⟨a,c,b,off,h1,h2,fun j hj=>let ⟨u,k1,k2⟩:=h3 j hj;⟨u,k1,(hP _ _ k2).keep hb⟩,by omega,h4⟩
theorem RowP.ofOwX {P:Value→List (List Int)→Prop}{w:World}{B n:Nat}{v:Value}{l:List (List (List Int))}(h:OwX 38 1 (EWp P) w B v n l):RowP P w v l:=by
 obtain rfl:=h.length;obtain⟨a,c,rfl⟩:=h.shape;have hc:=(OwX.capM h).1;rcases Nat.eq_zero_or_pos l.length with h0|h0
 ·exact⟨a,c,0,0,rfl,fun h=>absurd h (by omega),fun j hj=>absurd hj (by omega),hc⟩
 ·obtain⟨g,cap,he,_⟩:=h.form h0;injection he with e1 e2 e3;subst e1 e3;exact⟨_,_,g,0,rfl,fun _=>rfl,fun j hj=>by rw[Nat.zero_add];exact h.pcell hj,hc⟩
theorem refMaximalX {P:Value→List (List Int)→Prop}{w:World}{v:Value}{l:List (List (List Int))}(hR0:RowP P w v l) (hP:∀u x,P u x→KSC 2 w u x) (hv:∀s∈l,VS s) (hl:l.length≤10000) :
  Calls Tryz.prog 85 #[v] w fun e w'=>∃a c,e = .returned (.agg #[.slice a (maxX l).length c])∧OwX 38 1 (EWp P) w' 0 (.slice a (maxX l).length c) (maxX l).length (maxX l)∧Below w.heap.size w w':=by
 have h:=hR0.kss (Below.refl _ _) hP (by omega);obtain⟨W1,hW1⟩:=exF (w.alloc (.cells #[.slice none 0 0] 57));have hb1:Below w.heap.size w W1:=by rw[hW1];exact(Below.refl _ w).alloc (Nat.le_refl _) _
 have kR:W1.heap[w.heap.size]? = some (.cells #[.slice none 0 0] 57):=by rw[hW1];exact heap_alloc_new _ _
 have hs1:W1.heap.size=w.heap.size+1:=by rw[hW1];simp
 have HV:=qH (fun W s u (hb:Below w.heap.size w W) (k:KS 2 W u s)=>refCovered (h.kss.keep hb) k);obtain⟨a,c,b,off,rfl,ha,hc,-⟩:=hR0;have hPh:=qH hP;have hcl:=qH (fun i (hi:i < l.length)=>hc i hi);have hvl:=qH hv;have hkR:=qH kR;have h0:OwX 38 1 (EWp P) W1 0 (.slice none 0 0) ([]:List (List (List Int))).length []:=OwX.nil _ _;obtain⟨R,hR⟩:=exF (maxX l);rw[←hR];have hM0:Hid (R=mxPut l (l.drop 0) []):=hR;replace hs1:=qH hs1;clear hc hv kR hR h hP;go_enter Tryz.func85, Tryz.ntmps85
 go_wp2_with fail
 rw[←hW1];replace hW1:=qH hW1;go_loopw [3,4] (fun ov iv wr=>∃(i:Nat) (out:List (List (List Int))),iv = .int .i64 i∧i≤l.length∧OwX 38 1 (EWp P) wr 0 ov out.length out∧Hid (R=mxPut l (l.drop i) out)∧Hid (out.length≤i∧∀x∈out,VS x)∧Below W1.heap.size W1 wr) (fun _ iv _=>l.length - (intOf iv).toNat)
 case atStart=>exact⟨0,[],rfl,by omega,h0,hM0,⟨by simp,by simp⟩,Below.refl _ _⟩
 case round=>
  clear h0 hM0;obtain⟨i,out,rfl,hi,hO,hM,hg,hbr⟩:=hrel;have hb2:=btt hb1 hbr;by_cases hlt:i < l.length
  ·have hii:(i:Int) < (l.length:Int):=(by omega);obtain rfl:=ha (by omega);obtain⟨u,hu,hkp⟩:=hcl.out i hlt;have hu0:=qH hu;replace hu:=cell_kept hb2 hu;obtain⟨s,hs⟩:=exE (l.getD i []);have hvs:=hvl.out (l.getD i []) (by rw[getD_eq hlt];exact List.getElem_mem hlt);rw[hs] at hkp hvs;have hku:=hPh.out _ _ hkp;have hM2:=mxPut_drop (out:=out) hlt hs;obtain⟨ua,uc,hue⟩:=hku.shape;subst hue;have HV2:=qH (HV.out wr s _ hb2 (hku.ks.keep hb2));have HP:=qH (fun W (hb:Below w.heap.size w W) (v':Value) (h':OwX 38 1 (EWp P) W 0 v' out.length out)=>refPutX h' hb hPh.out hkp hvs hg.out.2 (by have:=hg.out.1;omega));have hMh:=qH (hM.out.trans hM2);have hvsh:=qH hvs;have hOh:=qH hO;obtain⟨oa,oc,hos⟩:=hO.shape;clear hM hM2 hs hku hkp hvs hO;subst hos;rcases Nat.eq_zero_or_pos s.length with hz|hz
   ·have hM3:Hid (R=mxPut l (l.drop (i+1)) out):=(by have:=hMh.out;rw[if_neg (by omega)] at this;exact this);have hg3:Hid (out.length≤i+1∧∀x∈out,VS x):=⟨by have:=hg.out.1;omega,hg.out.2⟩;rw[hz] at hu;go_wp2_with fail
    go_roundw
    case rel=>exact⟨i+1,out,by go_num,hlt,hOh.out,hM3,hg3,hbr⟩
    case measure=>simp[intOf];omega
   ·have hd:decide (0 < s.length)=true:=decide_eq_true hz;obtain⟨C,hC⟩:=exE (covB l s);rw[hC] at HV2 hMh;clear hC;go_wp2_with fail
    refine HV2.out.mono ?_;rintro e w3 ⟨rfl,hb3⟩;have hb03:=btt hb2 hb3;replace hu:=cell_kept hb3 hu;cases C
    ·have hM3:Hid (R=mxPut l (l.drop (i+1)) (putG cmpX out s)):=(by have:=hMh.out;rw[if_pos ⟨hz,rfl⟩] at this;exact this);have hg3:Hid ((putG cmpX out s).length≤i+1∧∀x∈putG cmpX out s,VS x):=⟨by have:=hg.out.1;have:=putX_len (l:=out) (s:=s);omega,putX_vs hg.out.2 hvsh.out⟩;have HP2:=qH (HP.out w3 hb03 _ (hOh.out.keep (EWp.stab _ _) hb3));go_wp2_with fail
     refine HP2.out.mono ?_;rintro e w4 ⟨v4,rfl,hO4,hb4⟩;go_wp2_with fail
     go_roundw
     case rel=>exact⟨i+1,_,by go_num,hlt,hO4,hM3,hg3,btt hbr (btt hb3 hb4)⟩
     case measure=>simp[intOf];omega
    ·have hM3:Hid (R=mxPut l (l.drop (i+1)) out):=(by have:=hMh.out;rw[if_neg (by simp)] at this;exact this);have hg3:Hid (out.length≤i+1∧∀x∈out,VS x):=⟨by have:=hg.out.1;omega,hg.out.2⟩;have hO3:=qH (hOh.out.keep (EWp.stab _ _) hb3);go_wp2_with fail
     go_roundw
     case rel=>exact⟨i+1,out,by go_num,hlt,hO3.out,hM3,hg3,btt hbr hb3⟩
     case measure=>simp[intOf];omega
  ·obtain rfl:i=l.length:=(by omega);have hE:R=out:=(by have:=hM.out;rw[List.drop_length] at this;exact this);clear hM;subst hE;obtain⟨oa,oc,hos⟩:=hO.shape;subst hos;have k3:=keptO hbr hkR.out;have z3:=cell_of_one k3;have fz:=row_free k3;have hO3:=hO.other (EWp.stab _ _) (E':=57) (by decide) (KeepX.setCell (p:=⟨w.heap.size,0,none⟩) k3 (.slice oa R.length oc));have m1:=heap_setCell_same wr w.heap.size 0 _ _ (.slice oa R.length oc) k3;have hbe:=hb2.setCell (p:=⟨w.heap.size,0,none⟩) (Nat.le_refl _) (.slice oa R.length oc);replace m1:=qH m1;replace hO3:=qH hO3;clear hO k3;go_wp2_with fail
   exact⟨rfl,_,results_cx1 rfl _ _ _ rfl m1.out,_,_,rfl,hO3.out,hbe⟩
def WI (w:World) (vs:List Value) (us:List (List Int)):Prop:=vs.length=us.length∧∀(j:Nat) (v:Value) (u:List Int),vs[j]? = some v→us[j]? = some u→Ints w v u
theorem Ints.oneC {w:World}{v:Value}{xs:List Int}(h:Ints w v xs):v.oneCell'=true:=by obtain⟨_,_,_,_,rfl,_⟩:=h;rfl
def EWi (w0:World) (_:World) (cs:List Value) (x:List Int):Prop:=∃u,cs = [u]∧Ints w0 u x
theorem EWi.stab (w0:World) (E:TypeId):Stab E (EWi w0):=fun _ _ _ _ h _=>h
theorem OwX.ofWI {w0 w:World}{B n:Nat}{E:TypeId}{v:Value}{vs:List Value}{us:List (List Int)}(h:w.ownsRow B E 1 v n vs) (hW:WI w0 vs us):OwX E 1 (EWi w0) w B v n us:=by
 have hl:vs.length=n:=by have:=h.1;omega
 refine⟨vs,h,by rw[←hW.1,hl],fun u hu=>?_,fun j x hj=>?_⟩
 ·obtain⟨j,hj,rfl⟩:=List.getElem_of_mem hu;exact(hW.2 j _ (us.getD j []) (List.getElem?_eq_getElem hj) (by rw[getD_eq (by rw[←hW.1];exact hj)];exact List.getElem?_eq_getElem (by rw[←hW.1];exact hj))).oneC
 ·have hj':j < vs.length:=by rw[hW.1];exact(List.getElem?_eq_some_iff.1 hj).1
  refine⟨vs[j],?_,hW.2 j _ x (List.getElem?_eq_getElem hj') hj⟩;rw[Nat.mul_one,List.drop_eq_getElem_cons hj'];rfl
theorem OwX.toWI {w0 w:World}{B n:Nat}{E:TypeId}{v:Value}{us:List (List Int)}(h:OwX E 1 (EWi w0) w B v n us):∃vs,w.ownsRow B E 1 v n vs∧WI w0 vs us:=by
 obtain⟨vs,h1,h2,_,h4⟩:=h;have hl:vs.length=n:=by have:=h1.1;omega
 refine⟨vs,h1,by rw[hl,h2],fun j v u hv hu=>?_⟩;obtain⟨u',e,hk⟩:=h4 j u hu;have hj':=(List.getElem?_eq_some_iff.1 hv).1;rw[Nat.mul_one,List.drop_eq_getElem_cons hj'] at e;rw[List.getElem?_eq_getElem hj'] at hv;injection hv with hv;have e2:vs[j]=u':=by injection e
 rw[←hv,e2];exact hk
theorem OwX.icell {w0 w:World}{B g n cap:Nat}{E:TypeId}{us:List (List Int)}(h:OwX E 1 (EWi w0) w B (.slice (some ⟨g,0,none⟩) n cap) n us) {j:Nat}(hj:j < n):∃u,w.cell? ⟨g,j,none⟩=some u∧Ints w0 u (us.getD j []):=by
 obtain⟨vs,h1,h2⟩:=h.toWI;have hl:vs.length=n:=by have:=h1.1;omega
 have hc:=World.ownsRow.cellAt h1 j (by omega);rw[List.getElem?_eq_getElem (by omega)] at hc;refine⟨_,hc,h2.2 j _ _ (List.getElem?_eq_getElem (by omega)) ?_⟩;rw[getD_eq (by rw[←h2.1];omega)];exact List.getElem?_eq_getElem (by rw[←h2.1];omega)
theorem OwX.intssK {w0 w:World}{B n:Nat}{E:TypeId}{v:Value}{us:List (List Int)}(h:OwX E 1 (EWi w0) w B v n us) (hb:Below w0.heap.size w0 w) (hn:n≤1000000):Intss w v us:=by
 have hl:=h.length;obtain⟨a,c,rfl⟩:=h.shape;subst hl;rcases Nat.eq_zero_or_pos us.length with h0|h0
 ·exact⟨a,c,0,0,rfl,fun h=>absurd h (by omega),fun j hj=>absurd hj (by omega),by omega⟩
 ·obtain⟨g,cap,he,_⟩:=h.form h0;injection he with e1 e2 e3;subst e1 e3;refine⟨_,_,g,0,rfl,fun _=>rfl,fun j hj=>?_,by omega⟩;obtain⟨u,hu,hk⟩:=h.icell hj;exact⟨u,by rw[Nat.zero_add];exact hu,hk.keep hb⟩
open Go.Shelf Go.Lib Go.Sort
def IsE (w0:World):Type:={ x:Value × List Int // Ints w0 x.1 x.2 }
theorem isn_nil (w0:World):Ints w0 (.slice none 0 0) []:=Ints.nil _ _ _
instance (w0:World):Inhabited (IsE w0):=⟨⟨(.slice none 0 0,[]),isn_nil w0⟩⟩
def IsE.enc {w0:World}(x:IsE w0):Value:=x.1.1
def IsE.cf {w0:World}(x y:IsE w0):Int:=cmpL x.1.2 y.1.2
theorem IsE.one (w0:World):OneCell (IsE.enc (w0:=w0)):=fun x=>x.2.oneC
theorem IsE.swo (w0:World):SWO (ltOf (IsE.cf (w0:=w0))) where
 irrefl _:=decide_eq_false fun h=>cmpL_asymm _ _ h h
 trans _ _ _ h1 h2:=decide_eq_true (cmpL_trans _ _ _ (of_decide_eq_true h1) (of_decide_eq_true h2))
 ntrans _ _ _ h1 h2:=decide_eq_false (cmpL_ntrans _ _ _ (of_decide_eq_false h1) (of_decide_eq_false h2))
theorem IsE.lays {w0 w:World}{blk:Nat}(size:Nat) (hb:Go.RowKit.Below w0.heap.size w0 w) (hB:w0.heap.size≤blk) (hblk:blk < w.heap.size):CmpLays1 Tryz.prog 138 #[] (IsE.enc (w0:=w0)) IsE.cf blk 0 size w:=by
 intro m os dk _ x y;have hk:=hb.trans (below_sortWorld (enc:=IsE.enc (w0:=w0)) m dk os hB hblk);exact(cmpIntsC (x.2.keep hk) (y.2.keep hk)).mono fun _ _ ⟨he,hw⟩=>⟨he,grown_of (by rw[hw];exact Below.refl _ _) (by rw[hw];exact Nat.le_refl _)⟩
theorem sortIsK {w0 w:World}{B g n cap:Nat}{us:List (List Int)}(hb:Go.RowKit.Below w0.heap.size w0 w) (hB0:w0.heap.size≤B) (h:OwX 48 1 (EWi w0) w B (.slice (some ⟨g,0,none⟩) n cap) n us) (hn:n≤1000000) :
  Calls Tryz.prog 141 #[.slice (some ⟨g,0,none⟩) n cap,.func (.func 138) #[] #[]] w fun e w'=>
   e = .returned (.tuple #[])∧∃us':List (List Int),us'.Perm us∧us'.Pairwise (fun a b=>¬cmpL b a < 0)∧OwX 48 1 (EWi w0) w' B (.slice (some ⟨g,0,none⟩) n cap) n us'∧Go.RowKit.Below B w w':=by
 have hl:=h.length;obtain⟨vs,h1,hW⟩:=h.toWI;have hvl:vs.length=n:=by have:=h1.1;omega
 have hks:∀j,j < n→Ints w0 (vs.getD j (.slice none 0 0)) (us.getD j []):=fun j hj=>
  hW.2 j _ _ (by rw[getD_eq (by omega)];exact List.getElem?_eq_getElem (by omega)) (by rw[getD_eq (by omega)];exact List.getElem?_eq_getElem (by omega))
 rcases h1.2 with⟨h0,_⟩|⟨g',cap',cur,he,hB,hg,hc1,hc2,hc3,hc4⟩
 ·cases h0
 ·injection he with he1 he2 he3;injection he1 with he1;injection he1 with he1;subst he1 he3;let mk:Fin n→IsE w0:=fun j=>⟨(vs.getD j (.slice none 0 0),us.getD j []),hks j j.2⟩
  obtain⟨d,hd⟩:=exF (Array.ofFn mk);have hds:d.size=n:=by rw[hd];simp
  have hdj:∀j (hj:j < n),d[j]! = mk ⟨j,hj⟩:=fun j hj=>by rw[getElem!_pos d j (by omega)];simp[hd]
  have hgl:=(Array.getElem?_eq_some_iff.1 hg).1
  have hH:Holds (IsE.enc (w0:=w0)) w g 0 d:=by
   intro j hj;rw[hds] at hj;rw[hdj j hj,Nat.zero_add];refine⟨?_,World.ownsRow.frozenAt h1 j⟩;rw[World.ownsRow.cellAt h1 j (by omega)];show vs[j]? = some (vs.getD j (.slice none 0 0));rw[getD_eq (by omega)];exact List.getElem?_eq_getElem (by omega)
  have eg:∀args w,(callFunc 138 args).run Tryz.prog w = .ok (.enter 138 args) w:=enters_of Tryz.func138 (by kernel_rfl) rfl;have hS:=Any.slices_SortFunc Tryz.sortII IsE.enc (IsE.one w0) IsE.cf (IsE.swo w0) 138 #[] g 0 cap d w eg (IsE.lays d.size hb (by omega) hgl) hH hgl (by omega);rw[hds] at hS;change Calls Tryz.prog 141 _ _ _ at hS;refine hS.mono ?_;rintro e w' ⟨rfl,d',m,os,hp,hs,rfl⟩;obtain⟨hp1,_,hp2⟩:=hp;rw[hds] at hp1;have e1:d'.extract 0 n=d':=by rw[←hp1];simp
  have e2:d.extract 0 n=d:=by rw[←hds];simp
  rw[e1,e2] at hp2
  have ex:d.toList.map (fun x:IsE w0=>x.1.2)=us:=by
   apply List.ext_getElem
   ·simp[hds,hl]
   ·intro j hj1 hj2;simp only[List.getElem_map,Array.getElem_toList];have:=hdj j (by omega)
    rw[getElem!_pos d j (by omega)] at this;rw[this];exact getD_eq hj2 []
  refine⟨rfl,d'.toList.map (fun x:IsE w0=>x.1.2),?_,?_,OwX.ofWI (vs:=d'.toList.map IsE.enc) ⟨by simp[hp1],.inr ⟨g,cap,putCells IsE.enc 0 d' cur,rfl,hB,heap_sortWorld_same 0 m d' os hg,hc1,hc2,by simpa [putCells] using hc3,?_⟩⟩ ⟨by simp,fun j v u hv hu=>?_⟩,below_sortWorld m d' os hB hgl⟩
  ·rw[←ex];exact hp2.map _
  ·rw[List.pairwise_map,List.pairwise_iff_getElem];intro i j hi hj hij;simp only[Array.length_toList] at hi hj;have:=hs i j (Nat.zero_le _) hij (by omega)
   rw[getElem!_pos d' i hi,getElem!_pos d' j hj] at this;exact of_decide_eq_false this
  ·have:=putCells_take IsE.enc d' cur (by omega)
   rw[hp1] at this;rw[Nat.mul_one,this]
  ·rw[List.getElem?_map] at hv hu
   have hjl:j < d'.size:=by
    rcases Nat.lt_or_ge j d'.size with h|h
    ·exact h
    ·rw[List.getElem?_eq_none (by simpa using h)] at hv;cases hv
   rw[Array.getElem?_toList,Array.getElem?_eq_getElem hjl] at hv hu;simp only[Option.map_some,Option.some.injEq] at hv hu;rw[←hv,←hu];exact d'[j].2
theorem OwX.setTailIs {w:World}{B g n cap m:Nat}{w0:World}{xs:List (List Int)}(h:OwX 48 1 (EWi w0) w B (.slice (some ⟨g,0,none⟩) n cap) n xs) (hm:m≤n) (vs:List Value) :
  OwX 48 1 (EWi w0) (w.setCells g (m * 1) vs) B (.slice (some ⟨g,0,none⟩) m cap) m (xs.take m)∧Below B w (w.setCells g (m * 1) vs)∧KeepX 48 w (w.setCells g (m * 1) vs):=by
 have hl:=h.length;obtain⟨ws,h1,h2,h3,h4⟩:=h;rcases h1.2 with⟨h0,_⟩|⟨g',cap',cur,he,hB,hg,hc1,hc2,hc3,hc4⟩
 ·cases h0
 ·injection he with he1 he2 he3;injection he1 with he1;injection he1 with he1;subst he1 he3;obtain⟨cur',k1,k2,k3,k4,k5,k6,k7,k8⟩:=setCells_row vs (m * 1) w cur hg;have hmn:m * 1≤n * 1:=Nat.mul_le_mul_right _ hm;have hwl:ws.length=n * 1:=h1.1
  have hws:cur'.toList.take (m * 1)=ws.take (m * 1):=by
   rw[k3,←hc4,List.take_take,Nat.min_eq_left hmn]
  refine⟨⟨ws.take (m * 1),⟨by rw[List.length_take];omega,.inr ⟨g,cap,cur',rfl,hB,k1,by omega,hc2,by rw[k2];exact hc3,hws⟩⟩,by rw[List.length_take];omega,fun u hu=>h3 u (List.mem_of_mem_take hu),fun j x hj=>?_⟩,⟨k6,k7,k8,by rw[k5];exact Nat.le_refl _,fun k hk=>k4 k (by omega)⟩,fun k cs t hk ht=>k4 k fun e=>?_⟩
  ·rw[List.getElem?_take] at hj;split at hj
   ·rename_i hjm
    have:=h4 j x hj
    have hjm7:j * 1+1≤m * 1:=(by rw[←Nat.succ_mul];exact Nat.mul_le_mul_right _ hjm);rw[List.drop_take,List.take_take,Nat.min_eq_left (by omega)];exact this
   ·cases hj
  ·subst e;rw[hg] at hk;injection hk with hk;injection hk with _ hk;exact ht hk.symm
theorem compactIs {w0 w:World}{B g n cap:Nat}{xs:List (List Int)}(hb0:Below w0.heap.size w0 w) (hB0:w0.heap.size≤B) (h:OwX 48 1 (EWi w0) w B (.slice (some ⟨g,0,none⟩) n cap) n xs) (hn:n≤1000) :
  Calls Tryz.prog 142 #[.slice (some ⟨g,0,none⟩) n cap,.func (.func 18) #[] #[]] w fun e w'=>∃m,e = .returned (.slice (some ⟨g,0,none⟩) m cap)∧OwX 48 1 (EWi w0) w' B (.slice (some ⟨g,0,none⟩) m cap) m (cpG xs)∧Below B w w'∧KeepX 48 w w':=by
 have hl:=h.length
 have hB:B≤g:=by
  obtain⟨_,h1,_⟩:=h;exact(World.ownsRow.lt h1 g rfl).1
 have hnc:n≤cap∧(cap:Int)≤9223372036854775807:=by
  obtain⟨_,h1,_⟩:=h;rcases h1.2 with⟨h0,_⟩|⟨g',cap',cur,he,_,_,hc1,hc2,_⟩
  ·cases h0
  ·injection he with _ _ he3;subst he3;unfold maxLen at hc2;exact⟨hc1,by omega⟩
 obtain⟨hnc1,hnc2⟩:=hnc;have hcells:=qH (fun j (hj:j < n)=>OwX.icell h hj);have hh:=qH h;have hlh:=qH hl;clear h hl
 have hfin0:Hid (∀q,cpG (xs.take n)=xs.take n→OwX 48 1 (EWi w0) (w.drewN q) B (.slice (some ⟨g,0,none⟩) n cap) n (cpG xs)):=fun q hq=>by
  rw[List.take_of_length_le (by rw[hlh.out];exact Nat.le_refl _)] at hq;rw[hq];exact hh.out.keep (EWi.stab _ _) (below_drewN (Below.refl _ w) q)
 have hBw:Hid (∀q,Below B w (w.drewN q)∧KeepX 48 w (w.drewN q)):=fun q=>⟨below_drewN (Below.refl _ w) q,KeepX.below (below_drewN (Below.refl _ w) q)⟩;by_cases h2:n < 2
 ·have hall:Hid (cpG (xs.take n)=xs.take n):=by
   show _=_;have:n=0∨n=1:=by omega
   rcases this with rfl|rfl
   ·simp[cpG]
   ·match xs,hlh.out with
    | [x],_=>simp[cpG]
  have hd:decide ((n:Int) < 2)=true:=decide_eq_true (by omega);go_enter Tryz.func142, Tryz.ntmps142
  go_wp2;go_ret;exact⟨n,rfl,hfin0.out 0 hall.out,(hBw.out 0).1,(hBw.out 0).2⟩
 ·have hd:decide ((n:Int) < 2)=false:=decide_eq_false (by omega)
  have h1:Hid (cpG (xs.take (0+1))=xs.take (0+1)):=by
   show _=_;match xs,hlh.out with
   | x::r,_=>simp[cpG]
   | [],h=>simp at h;omega
  go_enter Tryz.func142, Tryz.ntmps142
  go_wp2_with fail
  go_loopg [5] n (fun f kv wr=>∃p q:Nat,kv = .int .i64 ((p:Int)+1)∧p+1≤n∧n≤p+1+f∧wr=w.drewN q∧Hid (cpG (xs.take (p+1))=xs.take (p+1)))
  case atStart=>exact⟨0,0,rfl,by omega,by omega,rfl,h1⟩
  case round=>
   clear h1;obtain⟨p,q,rfl,hp,hpf,rfl,hc⟩:=hrel;by_cases hlt:p+1 < n
   ·obtain⟨f,rfl⟩:∃f,gk=f+1:=⟨gk - 1,by omega⟩;obtain⟨u1,c0,hx7⟩:=hcells.out (p+1) hlt;obtain⟨u2,d0,hy7⟩:=hcells.out p (by omega);obtain⟨x,hx⟩:=exE (xs.getD (p+1) []);obtain⟨y,hy⟩:=exE (xs.getD p []);have htk:=cmpcv_take (xs:=xs) (m:=p) (by rw[hlh.out];exact hlt);rw[hx,hy] at htk;rw[hx] at hx7;rw[hy] at hy7;have HC:=fun q=>eqInts (hx7.keep (below_drewN hb0 q)) (hy7.keep (below_drewN hb0 q));obtain⟨sa1,sc1,hs1⟩:=hx7.shape;obtain⟨sa2,sc2,hs2⟩:=hy7.shape;subst hs1 hs2;have hix1:(p:Int)+1 < (n:Int):=(by omega);have hix0:(0:Int)≤(p:Int):=(by omega);have hix2:(0:Int)≤(p:Int)+1:=(by omega);have hix3:(p:Int) < (n:Int):=(by omega);have hwr:IntKind.i64.wrap ((p:Int)+1 - 1)=(p:Int):=(by rw[show(p:Int)+1 - 1=(p:Int) by omega];exact IntWalk.i64_in _ (by omega));have htn:((p:Int)+1).toNat=p+1:=(by omega);have hty:=hy;have hxt:=hx;clear hx7 hy7 hx hy;by_cases he:x=y
    ·simp only[decide_eq_true he] at HC;replace HC:=qH HC;rw[if_pos he.symm,hc.out] at htk;have htk:=qH htk;replace hty:=qH hty;clear he hc hxt;go_wp2_with fail
     go_quiet ((go_at_call 18;first|exact quietOn (HC.out _)|(refine(HC.out _).mono ?_;rintro e w' ⟨he,k,rfl⟩;exact⟨he,_,World.drewN_drewN _ _ _⟩)))
     go_wp2_with fail
     obtain⟨N2,hN2⟩:=exE (n - (p+1));obtain⟨C2,hC2⟩:=exE (cap - (p+1));rw[hN2,hC2];have hnN:n=p+1+N2:=(by omega);replace hC2:=qH hC2;replace hN2:=qH hN2;have hnNh:=qH hnN;have hN2i:(1:Int)≤(N2:Int):=(by omega);have hs0:Hid (xs.take (p+1)=cpG (xs.take (p+1+(0+1)))):=htk.out.symm;have hO0:OwX 48 1 (EWi w0) (w.drewN (q+nq)) B (.slice (some ⟨g,0,none⟩) n cap) n xs:=hh.out;have hb0:Below B w (w.drewN (q+nq)):=below_drewN (Below.refl _ w) _;have hk0:KeepX 48 w (w.drewN (q+nq)):=KeepX.below (below_drewN (Below.refl _ w) _);have hk0h:=qH hk0;have hsame:Hid (∀j,p+1≤j→xs.getD j []=xs.getD j []):=fun _ _=>rfl;clear hnN c0 d0 hix1 hix2 htn hwr hk0;go_loopg [5,7] N2 (fun f kv rv wr=>∃(kk r:Nat) (cs:List (List Int)),kv = .int .i64 ((kk:Nat):Int)∧rv = .int .i64 ((r:Int)+1)∧r+1≤N2∧N2≤r+1+f∧kk < p+1+(r+1)∧OwX 48 1 (EWi w0) wr B (.slice (some ⟨g,0,none⟩) n cap) n cs∧Hid (cs.take kk=cpG (xs.take (p+1+(r+1))))∧Hid (∀j,kk≤j→cs.getD j []=xs.getD j [])∧Below B w wr∧Hid (KeepX 48 w wr))
     case atStart=>exact⟨p+1,0,xs,by go_num,rfl,by omega,by omega,by omega,hO0,hs0,hsame,hb0,hk0h⟩
     case round=>
      clear hO0 hs0 hsame hb0 hk0h;obtain⟨kk,r,cs,rfl,rfl,hr,hrf,hkk,hO,htkk,hsm,hbw,hkx⟩:=hrel;have hcl:=hO.length;have hOh:=qH hO;have hnn:=hnNh.out;by_cases hltr:r+1 < N2
      ·obtain⟨f,rfl⟩:∃f,gk=f+1:=⟨gk - 1,by omega⟩;obtain⟨u1,c0,hx7⟩:=OwX.icell hO (j:=p+1+(r+1)) (by omega);obtain⟨u2,d0,hy7⟩:=OwX.icell hO (j:=p+1+r) (by omega);obtain⟨u3,e0,hz7⟩:=OwX.icell hO (j:=kk) (by omega);rw[hsm.out _ (by omega)] at hx7;rw[hsm.out _ (by omega)] at hy7;obtain⟨x,hx⟩:=exE (xs.getD (p+1+(r+1)) []);obtain⟨y,hy⟩:=exE (xs.getD (p+1+r) []);obtain⟨z,hz⟩:=exE (cs.getD kk []);have htt:=cmpcv_take (xs:=xs) (m:=p+1+r) (by rw[hlh.out];omega);have hput:=compactv_put (xs:=xs) (cs:=cs) (m:=p+1+(r+1)) (kk:=kk) (x:=x) (by rw[hcl,hlh.out]) hkk (by rw[hlh.out];omega) htkk.out hsm.out hx;rw[show p+1+r+1=p+1+(r+1) by omega,hx,hy] at htt;rw[show p+1+(r+1) - 1=p+1+r by omega,hy] at hput;rw[hx] at hx7;rw[hy] at hy7;have hbr0:Below w0.heap.size w0 wr:=hb0.trans (hbw.mono hB0);have HC:=fun q=>eqInts (hx7.keep (below_drewN hbr0 q)) (hy7.keep (below_drewN hbr0 q));have hx7h:=qH hx7;obtain⟨sa1,sc1,hs1⟩:=hx7.shape;obtain⟨sa2,sc2,hs2⟩:=hy7.shape;subst hs1 hs2;have hi1:(r:Int)+1 < (N2:Int):=(by omega);have hi2:(0:Int)≤(r:Int)+1:=(by omega);have hi3:(0:Int)≤(r:Int):=(by omega);have hi4:(r:Int) < (N2:Int):=(by omega);have hi5:(kk:Int) < (n:Int):=(by omega);have hN2b:(N2:Int)≤1000:=(by omega);have hkkb:(kk:Int)≤1000:=(by omega);have htn:((r:Int)+1).toNat=r+1:=(by omega);have hwr:IntKind.i64.wrap ((r:Int)+1 - 1)=(r:Int):=(by rw[show(r:Int)+1 - 1=(r:Int) by omega];exact IntWalk.i64_in _ (by omega));have hwr2:IntKind.i64.wrap (r:Int)=(r:Int):=IntWalk.i64_in _ (by omega);clear hx7 hy7 hz7 hx hy hz hO;by_cases he:x=y
       ·simp only[decide_eq_true he] at HC;replace HC:=qH HC;rw[if_pos he.symm] at htt;have htt2:Hid (cs.take kk=cpG (xs.take (p+1+(r+1+1)))):=htkk.out.trans htt.symm;clear he htt hput;replace hnn:=qH hnn;replace hcl:=qH hcl;go_wp2_with fail
        go_quiet ((go_at_call 18;first|exact quietOn (HC.out _)|(refine(HC.out _).mono ?_;rintro e w' ⟨he,k,rfl⟩;exact⟨he,_,World.drewN_drewN _ _ _⟩)))
        clear hwr hwr2 htn;go_wp2_with fail
        go_roundg f
        case measure=>omega
        case rel=>exact⟨kk,r+1,cs,rfl,by go_num,by omega,by omega,by omega,hOh.out,htt2,hsm,below_drewN hbw _,hkx.out.trans (KeepX.below (below_drewN (Below.refl _ _) _))⟩
       ·simp only[decide_eq_false he] at HC;replace HC:=qH HC;obtain⟨hp1,hp2⟩:=hput (fun h=>he h.symm);have hp1h:=qH hp1;have hp2h:=qH hp2;have hst:Hid (∀d,OwX 48 1 (EWi w0) ((wr.drewN d).setCell ⟨g,kk,none⟩ (.slice sa1 x.length sc1)) B (.slice (some ⟨g,0,none⟩) n cap) n (cs.set kk x)):=fun d=>(OwX.store1 (EWi.stab _ _) (OwX.keep (EWi.stab _ _) hOh.out (below_drewN (Below.refl _ _) d)) (by omega) (u:=.slice sa1 x.length sc1) rfl (x:=x) ⟨_,rfl,hx7h.out⟩).1;have hst3:Hid (∀d,Below B w ((wr.drewN d).setCell ⟨g,kk,none⟩ (.slice sa1 x.length sc1))):=fun d=>Below.setCell (p:=⟨g,kk,none⟩) (below_drewN hbw d) hB _
        have hst2:Hid (∀d,KeepX 48 w ((wr.drewN d).setCell ⟨g,kk,none⟩ (.slice sa1 x.length sc1))):=fun d=>by
         obtain⟨_,h1,_⟩:=OwX.keep (EWi.stab _ _) hOh.out (below_drewN (Below.refl wr.heap.size wr) d);obtain⟨cs',g0⟩:=ownsRow_ty h1 g rfl;exact(hkx.out.trans (KeepX.below (below_drewN (Below.refl _ _) d))).trans (KeepX.setCell (p:=⟨g,kk,none⟩) g0 _)
        have hfz:∀j,wr.frozen? ⟨g,j,none⟩=false:=fun j=>hOh.out.frozen j;have f0:=hfz kk;clear he htt hput hp1 hp2 hfz;replace hnn:=qH hnn;replace hcl:=qH hcl;go_wp2_with fail
        go_quiet ((go_at_call 18;first|exact quietOn (HC.out _)|(refine(HC.out _).mono ?_;rintro e w' ⟨he,k,rfl⟩;exact⟨he,_,World.drewN_drewN _ _ _⟩)))
        clear hwr hwr2 htn;go_wp2_with fail
        go_roundg f
        case measure=>omega
        case rel=>exact⟨kk+1,r+1,cs.set kk x,by go_num,by go_num,by omega,by omega,by omega,hst.out _,hp1h,hp2h,hst3.out _,hst2.out _⟩
      ·have hrN:r+1=N2:=(by omega);have hfz:∀j,wr.frozen? ⟨g,j,none⟩=false:=fun j=>hO.frozen j
       have hcs:∀j,j < n - kk→(wr.cell? ⟨g,kk+j,none⟩).isSome=true:=fun j hj=>by
        obtain⟨_,h1,_⟩:=OwX.icell hO (j:=kk+j) (by omega);rw[h1];rfl
       have hcl7:=fun ty=>Lib.run_clear_slice (P:=Tryz.prog) wr 78 48 ty (.slice none 0 0) (by kernel_rfl) (fun w=>by kernel_rfl) rfl rfl g kk (n - kk) (cap - kk) (by omega) hcs (fun j _=>hfz _);obtain⟨Z,hZ⟩:=exE (List.replicate (n - kk) (Value.slice none 0 0));simp only[hZ] at hcl7;obtain⟨t1,t2,t3⟩:=OwX.setTailIs hO (m:=kk) (by omega) Z;rw[htkk.out,List.take_of_length_le (by rw[hlh.out];omega)] at t1;rw[Nat.mul_one] at t1 t2 t3;obtain⟨W2,hW2⟩:=exE (wr.setCells g kk Z);rw[hW2] at t1 t2 t3;simp only[hW2] at hcl7;have hfin:=qH t1;have hkf:=qH (hkx.out.trans t3);have hbf:=hbw.trans t2;have hk1:(kk:Int)≤(n:Int):=(by omega);have hkn:kk < n:=(by omega);have hkc:kk < cap:=(by omega);have hk2:(kk:Int)≤(cap:Int):=(by omega);have hge:decide ((r:Int)+1 < (N2:Int))=false:=decide_eq_false (by omega);clear t1 t2 t3 hO hOh hfz hcs hZ hW2 htkk hkx hsm;replace hnn:=qH hnn;replace hcl:=qH hcl;replace hrN:=qH hrN;go_wp2;go_ret;exact⟨kk,rfl,hfin.out,hbf,hkf.out⟩
    ·simp only[decide_eq_false he] at HC;replace HC:=qH HC;rw[if_neg (fun h=>he h.symm),hc.out] at htk;have htk2:Hid (cpG (xs.take (p+1+1))=xs.take (p+1+1)):=(by show _=_;rw[htk,←hxt];exact(take_snoc (by rw[hlh.out];exact hlt) []).symm);clear he hc hty htk hxt;go_wp2_with fail
     go_quiet ((go_at_call 18;first|exact quietOn (HC.out _)|(refine(HC.out _).mono ?_;rintro e w' ⟨he,k,rfl⟩;exact⟨he,_,World.drewN_drewN _ _ _⟩)))
     go_wp2_with fail
     go_roundg f
     case measure=>omega
     case rel=>exact⟨p+1,_,by go_num,by omega,by omega,(by first|exact rfl|exact World.drewN_drewN _ _ _),htk2⟩
   ·obtain rfl:n=p+1:=(by omega);have hfin:=qH (hfin0.out q hc.out);obtain⟨b1,b2⟩:=hBw.out q;have b2h:=qH b2;clear hc b2;go_wp2_with fail
    go_ret;exact⟨p+1,by first|rfl|(congr 2;done),hfin.out,b1,b2h.out⟩
end Go.Proofs.YtcnedkkcgdkioaaGreat
