/- Texts of this claim, put together: ZC ZG TG ZR. -/
import Derived.Test.YtmikofeildnpdaaGreatKZt
import Derived.Test.YtmikofeildnpdaaGreatKZv
import Derived.Test.YtmikofeildnpdaaGreatKZu

set_option maxRecDepth 100000
set_option maxHeartbeats 12800000
namespace Go.Proofs.YtmikofeildnpdaaGreat
open Go.RowKit
def QB2 (A B:Nat) (Q:List It):Prop:=PqOK A B (Q.map Prod.fst)∧∀j,(Q.getD j ((0,0),[])).2.length≤j
theorem QB2.len {A B:Nat}{Q:List It}(h:QB2 A B Q) (hA:A≤100) (hB:B≤100):Q.length≤10000:=by
 have h1:=h.1.len;rw[List.length_map] at h1;have:A * B≤100 * 100:=Nat.mul_le_mul hA hB
 omega
theorem QB2.snoc {A B:Nat}{Q:List It}(h:QB2 A B Q) {t:It}(hm:t.1 ∉ Q.map Prod.fst) (h1:t.1.1 < A) (h2:t.1.2 < B) (hw:t.2.length≤Q.length):QB2 A B (Q ++ [t]):=by
 constructor
 ·have:=h.1.push (y:=t.1) h1 h2
  rw[pushP,if_neg hm] at this;rw[List.map_append];exact this
 ·intro j;by_cases hj:j < Q.length
  ·rw[getD_app2 hj];exact h.2 j
  ·by_cases e:j=Q.length
   ·subst e;rw[List.getD_eq_getElem?_getD,List.getElem?_append_right (by omega),Nat.sub_self];exact hw
   ·rw[List.getD_eq_getElem?_getD,List.getElem?_eq_none (by simp;omega)];simp
theorem eitN_stab {E:TypeId}(h:87 ≠ E):Stab E EItN:=fun _ _ _ _ ⟨u,h1,h2,h3⟩ hx=>⟨u,h1,h2.other (EI.stab _) h hx,h3⟩
theorem OwX.toIt {E:TypeId}{w:World}{B:Nat}{v:Value}{n:Nat}{xs:List It}(h:OwX E 3 EItN w B v n xs):OwX E 3 EIt w B v n xs:=by
 obtain⟨vs,h1,h2,h3,h4⟩:=h;exact⟨vs,h1,h2,h3,fun j x hj=>by obtain⟨u,k1,k2,_⟩:=h4 j x hj;exact⟨u,k1,k2⟩⟩
theorem owNode {w:World}{g B:Nat}{a b:Nat}(hg:w.heap[g]? = some (.cells #[.int .i64 (a:Int),.int .i64 (b:Int),.slice none 0 0] 248)) (hB:B≤g):OwX 248 3 EItN w B (.slice (some ⟨g,0,none⟩) 1 1) 1 [((a,b),[])]:=by
 refine⟨[.int .i64 (a:Int),.int .i64 (b:Int),.slice none 0 0],⟨rfl,.inr ⟨g,1,_,rfl,hB,hg,Nat.le_refl _,by unfold maxLen;omega,rfl,rfl⟩⟩,rfl,?_,?_⟩
 ·intro u hu;simp only[List.mem_cons,List.not_mem_nil,or_false] at hu;rcases hu with rfl|rfl|rfl<;>rfl
 ·intro j x hj;match j,hj with
  | 0,hj=>
   simp only[List.getElem?_cons_zero,Option.some.injEq] at hj;subst hj;exact⟨_,rfl,OwX.nil _ _,fun _=>rfl⟩
  | _+1,hj=>simp at hj
def FsOut (w:World) (aa bb:List (List (List Int))) (e:Ending) (w':World):Prop:=∃r R l wd,e = .returned (.tuple #[r,.bool R,l])∧(R=false↔inW aa bb)∧OwX 87 7 EI w' w.heap.size r wd.length wd∧wd.length≤10001∧Below w.heap.size w w'
theorem fsearchC {w:World}{u v:Value}{m n:Int}{aa bb:List (List (List Int))}(ha:AdvC w u m aa) (hb:AdvC w v n bb) (wa:WfS aa) (wb:WfS bb) (la:aa.length≤100) (lb:bb.length≤100) (mb:∀s∈bb,s.length≤50000) :
  Calls Tryz.prog 190 #[u,v] w (FsOut w aa bb):=by
 obtain⟨R,hR⟩:=fsGo_some wa wb (bb.length * aa.length+1) 0 [(0,0)] ⟨by simp,fun p hp=>by rw[List.mem_singleton] at hp;subst hp;exact⟨wb.pos,wa.pos⟩⟩ (by omega) (by simp);have hRe:=qH (fs_iff wb wa hR);obtain⟨F,hF⟩:=exE (bb.length * aa.length+1);rw[hF] at hR
 have hlen:∀j,(bb.getD j []).length≤50000:=fun j=>by
  by_cases hj:j < bb.length
  ·rw[getD_eq hj];exact mb _ (List.getElem_mem hj)
  ·rw[List.getD_eq_getElem?_getD,List.getElem?_eq_none (by omega)];simp
 have HT:=qH (fun W (h:Below w.heap.size w W) j (hj:j < aa.length) r0 r1 r2 r3 r4 r5 r6=>refTo (ha.keep h).adv hj r0 r1 r2 r3 r4 r5 r6);have hTo:=qH (fun j (hj:j < aa.length) r=>toI_st wa.lead hj r);have hLd:Hid (∀p,p < bb.length→∀x∈bb.getD p [],0≤x.getD 7 0∧x.getD 7 0 < (bb.length:Int)):=fun p hp x hx=>wb.lead _ (getD_mem hp) x hx;obtain⟨xa,xc,xb,xo,rfl,hxa,hxs,_⟩:=ha;obtain⟨ya,yc,yb,yo,rfl,hya,hys,_⟩:=hb;obtain rfl:=hya wb.pos;obtain⟨W1,hW1⟩:=exF ((w.alloc (.cells #[.int .i64 m,.slice xa aa.length xc] 24)).alloc (.cells #[.int .i64 n,.slice (some ⟨yb,yo,none⟩) bb.length yc] 24));obtain⟨hb1,⟨p0,p1⟩,⟨q0,q1⟩,_,hs1⟩:=boxAdv2 hW1;obtain⟨W2,hW2⟩:=exF (W1.alloc (.cells #[.int .i64 0,.int .i64 0,.slice none 0 0] 248));have hb2:Below W1.heap.size W1 W2:=by rw[hW2];exact(Below.refl _ _).alloc (Nat.le_refl _) _
 have hit:W2.heap[W1.heap.size]? = some (.cells #[.int .i64 ((0:Nat):Int),.int .i64 ((0:Nat):Int),.slice none 0 0] 248):=by rw[hW2];exact heap_alloc_new _ _
 have hOw2:OwX 248 3 EItN W2 W1.heap.size (.slice (some ⟨W1.heap.size,0,none⟩) 1 1) ([((0,0),[])]:List It).length [((0,0),[])]:=owNode hit (Nat.le_refl _)
 have hQ0:Hid (QB2 bb.length aa.length [((0,0),[])]):=⟨⟨by simp,fun p hp=>by simp only[List.map_cons,List.map_nil,List.mem_singleton] at hp;subst hp;exact⟨wb.pos,wa.pos⟩⟩,fun j=>by
  match j with
  | 0=>simp
  | _+1=>simp⟩
 have hD0:Hid (fsGo aa bb F 0 (([((0,0),[])]:List It).map Prod.fst)=some R):=hR;have hmx : Tryz.prog.follows .mixedOrders=true:=by kernel_rfl
 have hKA:Hid (∀W,Below W1.heap.size W1 W→W.cell? ⟨w.heap.size,0,none⟩=some (.int .i64 m)∧W.cell? ⟨w.heap.size,1,none⟩=some (.slice xa aa.length xc)∧W.cell? ⟨w.heap.size+1,0,none⟩=some (.int .i64 n)∧W.cell? ⟨w.heap.size+1,1,none⟩=some (.slice (some ⟨yb,yo,none⟩) bb.length yc)):=fun W hW=>⟨cell_kept hW p0,cell_kept hW p1,cell_kept hW q0,cell_kept hW q1⟩
 have hys':Hid (∀W,Below W1.heap.size W1 W→∀p,p < bb.length→∃uy,W.cell? ⟨yb,yo+p,none⟩=some uy∧KSC 8 W uy (bb.getD p [])):=fun W hW p hp=>by
  obtain⟨uy,h1,h2⟩:=hys p hp;have hbw:=bt hb1 hW hb1.size;exact⟨uy,cell_kept hbw h1,h2.keep hbw⟩
 replace hlen:=qH hlen;replace hF:=qH hF;rw[hW1] at hW2;rw[hs1] at hOw2;replace hs1:=qH hs1;replace hW1:=qH hW1;clear hR hit p0 p1 q0 q1 hys hxs hxa hya mb wa wb;go_enter Tryz.func190, Tryz.ntmps190
 go_wp2_with fail
 rw[←hW2];replace hW2:=qH hW2;go_loopg [7,8] F (fun f lv iv wr=>∃(i:Nat) (Q:List It),iv = .int .i64 (i:Int)∧i≤Q.length∧OwX 248 3 EItN wr (w.heap.size+2) lv Q.length Q∧Below W1.heap.size W1 wr∧Hid (fsGo aa bb f i (Q.map Prod.fst)=some R)∧Hid (QB2 bb.length aa.length Q))
 case atStart=>exact⟨0,_,rfl,by simp,hOw2,hb2,hD0,hQ0⟩
 case round=>
  clear hOw2 hb2 hD0 hQ0;obtain⟨i,Q,rfl,hiQ,hwt,hbr,hg,hQB⟩:=hrel;obtain⟨lva,lvc,hlv⟩:=hwt.shape;subst hlv;have hQl:=hQB.out.len lb la;by_cases hlt:i < Q.length
  ·obtain⟨f,rfl⟩:∃f,gk=f+1:=by
    cases gk with
    | zero=>exact absurd hg (by intro h;simp[Hid,fsGo] at h)
    | succ f=>exact⟨f,rfl⟩
   obtain⟨gw,cw,hwe,hgw⟩:=hwt.form (by omega);obtain⟨rfl,rfl⟩:lva=some ⟨gw,0,none⟩∧lvc=cw:=(by injection hwe with h1 h2 h3;exact⟨h1,h3⟩);obtain⟨⟨⟨p,q⟩,wd⟩,hx⟩:∃x,Q.getD i ((0,0),[])=x:=⟨_,rfl⟩;have hxm:((p,q),wd)∈Q:=(by rw[←hx];exact getD_mem hlt);have hxq:(Q.map Prod.fst).getD i (0,0)=(p,q):=(by rw[getD_eq (by rw[List.length_map];exact hlt),List.getElem_map,←getD_eq hlt ((0,0),[]),hx]);obtain⟨hpB,hqA⟩:=hQB.out.1.2 (p,q) (List.mem_map_of_mem (f:=Prod.fst) hxm);simp only at hpB hqA
   obtain⟨ms,hms⟩:=exE (bb.getD p [])
   have hgi:Hid (fsIn aa q (fsGo aa bb f (i+1)) (ms.drop 0) (Q.map Prod.fst)=some R):=by
    have h1:=hg.out;rw[fsGo,if_pos (by rw[List.length_map];exact hlt),hxq,hms] at h1;exact h1
   have hm9:ms.length≤50000:=(by rw[←hms];exact hlen.out p);have hLm:=hLd.out p hpB;rw[hms] at hLm;replace hLm:=qH hLm;obtain⟨uy,hcy,hky⟩:=hys'.out W1 (Below.refl _ _) p hpB;rw[hms] at hky;obtain⟨ya',yc',mb,mo,rfl,hyb,hyc,_⟩:=hky;replace hcy:=cell_kept hbr hcy
   obtain⟨cs,hcl,⟨xu,hcs,hxu,hxn⟩,hcc⟩:=hwt.cells (j:=i) (x:=((p,q),wd)) (by
    rw[←hx,getD_eq hlt];exact List.getElem?_eq_some_iff.2 ⟨hlt,rfl⟩)
   subst hcs;have cx0:wr.cell? ⟨gw,i * 3,none⟩=some (.int .i64 (p:Int)):=hcc 0 _ rfl;obtain⟨a0,a1,b0,b1⟩:=hKA.out wr hbr;have hii:(i:Int) < (Q.length:Int):=(by omega);have hpi:(p:Int) < (bb.length:Int):=(by omega);have hp0:(0:Int)≤(p:Int):=(by omega);obtain⟨wo,hwo⟩:=exF (wr);subst hwo;replace hyc:Hid (∀j,j < ms.length→(ms.getD j []).length=8∧CI W1 mb (mo+j * 8) (ms.getD j [])):=hyc;replace hx:=qH hx;replace hyb:=qH hyb;clear hg hwe hcc hxu hxn hcl hxm hxq;go_wp2_with fail
   go_quiet (fail)
   go_wp2_with fail
   obtain⟨wa,hwa⟩:=exF (wo.drewN nq);have hbwa:Below wo.heap.size wo wa:=(by rw[hwa];exact below_drewN (Below.refl _ _) _);have hwta:=OwX.keep (eitN_stab (by decide)) hwt hbwa;have hbra:=bt hbr hbwa hbr.size;rw[←hwa];clear hwt cx0 a0 a1 b0 b1 hwa;go_loopg [7,10] ms.length (fun gg lv kv wr=>∃(k:Nat) (Qk:List It),kv = .int .i64 (k:Int)∧gg+k=ms.length∧OwX 248 3 EItN wr (w.heap.size+2) lv Qk.length Qk∧Below W1.heap.size W1 wr∧Hid (fsIn aa q (fsGo aa bb f (i+1)) (ms.drop k) (Qk.map Prod.fst)=some R)∧Hid (QB2 bb.length aa.length Qk)∧i < Qk.length∧Hid (Qk.getD i ((0,0),[])=((p,q),wd)))
   case atStart=>exact⟨0,Q,rfl,by omega,hwta,hbra,hgi,hQB,hlt,hx⟩
   case round=>
    clear hwta hbra hgi hbwa hcy;obtain⟨k,Qk,rfl,hgk,hwt,hbr2,hg,hQB2,hik,hxk⟩:=hrel;obtain⟨na,nc,hnv⟩:=hwt.shape;subst hnv;have hQkl:=hQB2.out.len lb la;by_cases hltk:k < ms.length
    ·obtain⟨gg,rfl⟩:∃gg,gk=gg+1:=⟨gk - 1,by omega⟩;obtain⟨gn,cn,hne,hgn⟩:=hwt.form (by omega);obtain⟨rfl,rfl⟩:na=some ⟨gn,0,none⟩∧nc=cn:=(by injection hne with h1 h2 h3;exact⟨h1,h3⟩);obtain rfl:=hyb.out (by omega);obtain⟨hy8,hyi⟩:=hyc.out k hltk;obtain⟨y,hy⟩:=exE (ms.getD k []);have hyL:=hLm.out y (by rw[←hy];exact getD_mem hltk);have hg2:=hg.out;rw[drop_cons hltk ([]:List Int),hy,fsIn] at hg2;rw[hy] at hy8 hyi;obtain⟨y0,y1,y2,y3,y4,y5,y6,y7,rfl⟩:=eight hy8;replace hyL:0≤y7∧y7 < (bb.length:Int):=hyL;obtain⟨pm,rfl⟩:∃pm:Nat,y7=(pm:Int):=⟨y7.toNat,by omega⟩;have hpmB:pm < bb.length:=(by omega);have hTq:=hTo.out q hqA (rdOf [y0,y1,y2,y3,y4,y5,y6,(pm:Int)]);have hrd:rdOf [y0,y1,y2,y3,y4,y5,y6,(pm:Int)] = [y0,y1,y2,y3,y4,y5,y6]:=rfl;have hmt:mvTo [y0,y1,y2,y3,y4,y5,y6,(pm:Int)]=pm:=(by show((pm:Int)).toNat=pm;omega);rw[hrd,hmt] at hg2;rw[hrd] at hTq;have HTq:=fun W (hW:Below wr.heap.size wr W)=>HT.out W (bt (bt hb1 hbr2 hb1.size) hW (bt hb1 hbr2 hb1.size).size) q hqA y0 y1 y2 y3 y4 y5 y6;obtain⟨P,hP⟩:=exE (toI [y0,y1,y2,y3,y4,y5,y6] (aa.getD q []));rw[hP] at hg2 hTq;simp only[hP] at HTq
     obtain⟨cs,hcl,⟨xu,hcs,hxu,hxn⟩,hcc⟩:=hwt.cells (j:=i) (x:=((p,q),wd)) (by
      rw[←hxk.out,getD_eq hik];exact List.getElem?_eq_some_iff.2 ⟨hik,rfl⟩)
     subst hcs;obtain⟨xua,xuc,hxus⟩:=hxu.shape;subst hxus;have hxu:OwX 87 7 EI wr 0 (.slice xua wd.length xuc) wd.length wd:=hxu;have hxn:wd = []→Value.slice xua wd.length xuc = .slice none 0 0:=hxn;have cx1:wr.cell? ⟨gn,i * 3+1,none⟩=some (.int .i64 (q:Int)):=hcc 1 _ rfl;have cx2:wr.cell? ⟨gn,i * 3+2,none⟩=some (.slice xua wd.length xuc):=hcc 2 _ rfl;obtain⟨c0,c1,c2,c3,c4,c5,c6,c7⟩:=(hyi.keep hbr2).all8;obtain⟨a0,a1,b0,b1⟩:=hKA.out wr hbr2;have hki:(k:Int) < (ms.length:Int):=(by omega);have hikI:(i:Int) < (Qk.length:Int):=(by omega);have hwdl:wd.length≤i:=(by have:=hQB2.out.2 i;rw[hxk.out] at this;exact this);have hq0:(0:Int)≤(q:Int):=(by omega);have HW:=longerC ((OwX.keep (EI.stab _) hxu ((Below.refl wr.heap.size wr).drew)).ks (by omega)) hxn (by omega) y0 y1 y2 y3 y4 y5 y6;replace HW:=qH HW;replace HTq:=qH HTq;replace hg2:=qH hg2;clear hy hyi hy8 hP hrd hmt hne hcc hxu hcl hxn;go_wp2_with fail
     go_region_held3 (fun w'=>w'.cell? ⟨gn,i * 3+2,none⟩=some (.slice xua wd.length xuc)∧w'.cell? ⟨mb,mo+k * 8,none⟩=some (.int .i64 y0)∧w'.cell? ⟨mb,mo+k * 8+1,none⟩=some (.int .i64 y1)∧w'.cell? ⟨mb,mo+k * 8+2,none⟩=some (.int .i64 y2)∧w'.cell? ⟨mb,mo+k * 8+3,none⟩=some (.int .i64 y3)∧w'.cell? ⟨mb,mo+k * 8+4,none⟩=some (.int .i64 y4)∧w'.cell? ⟨mb,mo+k * 8+5,none⟩=some (.int .i64 y5)∧w'.cell? ⟨mb,mo+k * 8+6,none⟩=some (.int .i64 y6))
      (first
       | go_keep
       | (exact⟨cell_kept hbd6 cx2,cell_kept hbd6 c0,cell_kept hbd6 c1,cell_kept hbd6 c2,cell_kept hbd6 c3,cell_kept hbd6 c4,cell_kept hbd6 c5,cell_kept hbd6 c6⟩))
      (first
       | (go_at_call 214;(with_reducible refine HW.out.mono ?_);rintro e w6 ⟨u6,rfl,ho6,hb6⟩;obtain⟨a6,c6',rfl⟩:=ho6.shape;have hbd6:Below wr.heap.size wr w6:=below_of_drew hb6))
     have hwt6:=OwX.keep (eitN_stab (by decide)) hwt hbd6;have hbr6:=bt hbr2 hbd6 hbr2.size;have hbw6:=bt hb1 hbr6 hb1.size;have ho6w:OwX 87 7 EI w6 w.heap.size (.slice a6 (wd.length+1) c6') (wd.length+1) (wd ++ [[y0,y1,y2,y3,y4,y5,y6]]):=ho6.base (Nat.le_trans (bt hb1 hbr2 hb1.size).size (by simp));have hf:=qH (fun wq (hC:Below w6.heap.size w6 wq)=>And.intro (cell_kept hC (cell_kept hbd6 a0)) (And.intro (cell_kept hC (cell_kept hbd6 a1)) (And.intro (cell_kept hC (cell_kept hbd6 cx1)) (And.intro (cell_kept hC (cell_kept hbd6 c0)) (And.intro (cell_kept hC (cell_kept hbd6 c1)) (And.intro (cell_kept hC (cell_kept hbd6 c2)) (And.intro (cell_kept hC (cell_kept hbd6 c3)) (And.intro (cell_kept hC (cell_kept hbd6 c4)) (And.intro (cell_kept hC (cell_kept hbd6 c5)) (And.intro (cell_kept hC (cell_kept hbd6 c6)) (cell_kept hC (cell_kept hbd6 c7))))))))))));have HTq6:=qH (fun wq (hC:Below w6.heap.size w6 wq)=>HTq.out wq (bt hbd6 hC hbd6.size));clear hwt a0 a1 b0 b1 cx1 cx2 c0 c1 c2 c3 c4 c5 c6 c7 HW HTq ho6 hbr2;go_wp2_with fail
     refine wp_region_bw hmx (by kernel_rfl) ?_
     repeat (refine WQ.step fun K hK=>?_;go_simp;first|(refine hK _ ?_;clear hK K)|(apply Exists.intro;refine⟨fun wq hC=>?_,hK _ ?_⟩;(·(first|with_reducible rfl|(obtain⟨f0,f1,f2,f3,f4,f5,f6,f7,f8,f9,f10⟩:=hf.out wq hC;go_simp;first|done|with_reducible rfl|with_reducible exact⟨rfl,rfl⟩)|(refine(HTq6.out wq hC).mono ?_;rintro e w' ⟨rfl,hb⟩;exact⟨rfl,bt hC hb hC.size⟩)));clear hK K))
     refine WQ.nil ?_;intro w7 hb7;have hbr7:=bt hbr6 hb7 hbr6.size;have hbw7:=bt hb1 hbr7 hb1.size;have hwt7:=OwX.keep (eitN_stab (by decide)) hwt6 hb7;have ho7:=ho6w.keep (EI.stab _) hb7;obtain⟨-,-,-,-,-,-,-,-,-,-,x7⟩:=hf.out w7 hb7;clear hf HTq6 hwt6 ho6w;by_cases hPn:P < 0
     ·have hd1:decide (P < 0)=true:=decide_eq_true hPn;have hRt:R=true:=(by have:=hg2.out;rw[if_pos hPn] at this;injection this with this;exact this.symm);have hfin:(true=false↔inW aa bb):=(by rw[←hRt];exact hRe.out);have hlw:(wd ++ [[y0,y1,y2,y3,y4,y5,y6]]).length=wd.length+1:=(by simp);replace hRt:=qH hRt;replace hfin:=qH hfin;clear hg2 hwt7;go_wp2_with fail
      go_ret3
      exact⟨_,true,_,wd ++ [[y0,y1,y2,y3,y4,y5,y6]],rfl,hfin.out,by rw[hlw];exact ho7,by rw[hlw];omega,hbw7⟩
     ·have hd1:decide (P < 0)=false:=decide_eq_false hPn;obtain⟨pq,rfl⟩:∃a:Nat,P=(a:Int):=⟨P.toNat,by omega⟩;have hpqA:pq < aa.length:=(by omega);have hg3:=hg2.out;rw[if_neg (by omega),Int.toNat_natCast] at hg3;obtain⟨W8,hW8⟩:=exF (w7.alloc (.cells #[.int .i64 (pm:Int),.int .i64 (pq:Int)] 93));have hb8:Below w7.heap.size w7 W8:=(by rw[hW8];exact(Below.refl _ _).alloc (Nat.le_refl _) _);have m8:W8.heap[w7.heap.size]? = some (.cells #[.int .i64 (pm:Int),.int .i64 (pq:Int)] 93):=(by rw[hW8];exact heap_alloc_new _ _);obtain⟨z0,z1⟩:=boxL2 m8;have hwt8:=OwX.keep (eitN_stab (by decide)) hwt7 hb8;have HN:=hasNd hwt8.toIt (by omega) pm pq;have hpm0:(0:Int)≤(pm:Int):=(by omega);clear hg2 hwt7 hPn m8;go_upto_region 14 with fail
      rw[←hW8];replace hW8:=qH hW8;by_cases hin:(pm,pq)∈Qk.map Prod.fst
      ·rw[decide_eq_true hin] at HN;rw[pushP,if_pos hin] at hg3;replace HN:=qH HN;replace hg3:=qH hg3;go_wp2_with fail
       refine HN.out.mono ?_;rintro e w9 ⟨rfl,hb9⟩;have hwt9:=OwX.keep (eitN_stab (by decide)) hwt8 hb9;have hbr9:=bt hbr7 (btt hb8 hb9) hbr7.size;clear hwt8 ho7;go_wp2_with fail
       go_roundg gg
       case measure=>omega
       case rel=>exact⟨k+1,Qk,by go_num,by omega,hwt9,hbr9,hg3,hQB2,hik,hxk⟩
      ·rw[decide_eq_false hin] at HN;rw[pushP,if_neg hin] at hg3;have hQB':Hid (QB2 bb.length aa.length (Qk ++ [((pm,pq),wd ++ [[y0,y1,y2,y3,y4,y5,y6]])])):=hQB2.out.snoc (t:=((pm,pq),wd ++ [[y0,y1,y2,y3,y4,y5,y6]])) hin hpmB hpqA (by simp only[List.length_append,List.length_cons,List.length_nil];omega);have hg4:Hid (fsIn aa q (fsGo aa bb f (i+1)) (ms.drop (k+1)) ((Qk ++ [((pm,pq),wd ++ [[y0,y1,y2,y3,y4,y5,y6]])]).map Prod.fst)=some R):=(by rw[List.map_append];exact hg3);have hxk':Hid ((Qk ++ [((pm,pq),wd ++ [[y0,y1,y2,y3,y4,y5,y6]])]).getD i ((0,0),[])=((p,q),wd)):=(by rw[getD_app2 hik];exact hxk);have hik':i < (Qk ++ [((pm,pq),wd ++ [[y0,y1,y2,y3,y4,y5,y6]])]).length:=(by rw[List.length_append];omega);replace HN:=qH HN;go_wp2_with fail
       refine HN.out.mono ?_;rintro e w9 ⟨rfl,hb9⟩;have hwt9:=OwX.keep (eitN_stab (by decide)) hwt8 hb9;have hbr9:=bt hbr7 (btt hb8 hb9) hbr7.size;have hbw9:=bt hb1 hbr9 hb1.size;have ho9:=ho7.keep (EI.stab _) (btt hb8 hb9);have x0:=cell_kept hb9 z0;have x1:=cell_kept hb9 z1;have hlw:wd.length+1=(wd ++ [[y0,y1,y2,y3,y4,y5,y6]]).length:=(by simp);have hEl:EItN w9 [.int .i64 (pm:Int),.int .i64 (pq:Int),.slice a6 (wd.length+1) c6'] ((pm,pq),wd ++ [[y0,y1,y2,y3,y4,y5,y6]]):=⟨_,rfl,by rw[←hlw];exact ho9.base (Nat.zero_le _),fun h=>by simp at h⟩
       have hc3:∀u∈(#[.int .i64 (pm:Int),.int .i64 (pq:Int),.slice a6 (wd.length+1) c6']:Array Value).toList,u.oneCell'=true:=fun u hu=>by
        simp only[List.mem_cons,List.not_mem_nil,or_false] at hu;rcases hu with rfl|rfl|rfl<;>rfl
       have hBb:w.heap.size+2≤w9.heap.size:=(by have:=hbr9.size;have:=hs1.out;omega);clear hwt8 ho7 z0 z1 hg3 hin ho9 hlw;go_wp2_with (at_builtin;refine wpAppX elemNd20 (by decide) (by decide) (eitN_stab (by decide)) rfl _ _ rfl rfl hwt9 rfl rfl rfl hc3 hEl (by omega) hBb ?_)
       intro v' w10 ho10 _ hb10 _;have ho11:OwX 248 3 EItN w10 (w.heap.size+2) v' (Qk ++ [((pm,pq),wd ++ [[y0,y1,y2,y3,y4,y5,y6]])]).length (Qk ++ [((pm,pq),wd ++ [[y0,y1,y2,y3,y4,y5,y6]])]):=(by rw[List.length_append];exact ho10);have hbr10:Below W1.heap.size W1 w10:=hbr9.trans (hb10.mono (by have:=hs1.out;omega));clear hwt9 ho10 x0 x1;go_wp2_with fail
       go_roundg gg
       case measure=>omega
       case rel=>exact⟨k+1,_,by go_num,by omega,ho11,hbr10,hg4,hQB',hik',hxk'⟩
    ·obtain rfl:k=ms.length:=(by omega);have hg2:=hg.out;rw[List.drop_eq_nil_of_le (Nat.le_refl _),fsIn] at hg2;have hg3:Hid (fsGo aa bb f (i+1) (Qk.map Prod.fst)=some R):=hg2;clear hg hg2;go_wp2_with fail
     go_roundg f
     case measure=>omega
     case rel=>exact⟨i+1,Qk,by go_num,by omega,hwt,hbr2,hg3,hQB2⟩
  ·have hRf:R=false:=by
    have h1:=hg.out;cases gk with
    | zero=>simp[fsGo] at h1
    | succ f=>rw[fsGo,if_neg (by rw[List.length_map];exact hlt)] at h1;injection h1 with h1;exact h1.symm
   have hfin:inW aa bb:=hRe.out.1 hRf;have hbw:=bt hb1 hbr hb1.size;have hge : ¬((i:Int) < (Q.length:Int)):=(by omega);replace hRf:=qH hRf;replace hfin:=qH hfin;clear hg hQB hwt;go_wp2_with fail
   go_ret3
   exact⟨_,false,_,[],rfl,⟨fun _=>hfin.out,fun _=>rfl⟩,OwX.nil _ _,by simp,hbw⟩
def FiOut (w:World) (aa bb:List (List (List Int))) (e:Ending) (w':World):Prop:=∃r R wd,e = .returned (.tuple #[r,.bool R])∧(R=false↔inW aa bb)∧OwX 87 7 EI w' w.heap.size r wd.length wd∧wd.length≤10001∧Below w.heap.size w w'
theorem firstC {w:World}{u v:Value}{m n:Int}{aa bb:List (List (List Int))}(ha:AdvC w u m aa) (hb:AdvC w v n bb) (wa:WfS aa) (wb:WfS bb) (la:aa.length≤100) (lb:bb.length≤100) (mb:∀s∈bb,s.length≤50000) :
  Calls Tryz.prog 140 #[u,v] w (FiOut w aa bb):=by
 have HA:=qH ha;have HB:=qH hb;obtain⟨xa,xc,hu⟩:=advShape' ha.adv;obtain⟨ya,yc,hv⟩:=advShape' hb.adv;subst hu hv;obtain⟨W1,hW1⟩:=exF ((w.alloc (.cells #[.int .i64 m,.slice xa aa.length xc] 24)).alloc (.cells #[.int .i64 n,.slice ya bb.length yc] 24));obtain⟨hb1,⟨p0,p1⟩,⟨q0,q1⟩,_,_⟩:=boxAdv2 hW1;have HS:=qH (fsearchC (HA.out.keep hb1) (HB.out.keep hb1) wa wb la lb mb);clear ha hb wa wb la lb mb;go_enter Tryz.func140, Tryz.ntmps140
 go_wp2_with fail
 rw[←hW1];replace hW1:=qH hW1;refine HS.out.mono ?_;rintro e W2 ⟨r,R,l,wd,rfl,hR,hO,hl,hb2⟩;obtain⟨ra,rc,rfl⟩:=hO.shape;have hfin:=qH (hO.base (B':=w.heap.size) hb1.size);replace hR:=qH hR;clear hO HS;go_wp2;go_ret2
 exact⟨_,R,wd,rfl,hR.out,hfin.out,hl,bt hb1 hb2 hb1.size⟩
def EqOut (w:World) (aa bb:List (List (List Int))) (e:Ending) (w':World):Prop:=∃l r,e = .returned (.tuple #[l,.bool r,.int .i64 0])∧(r=true↔eqW aa bb)∧Below w.heap.size w w'
theorem refEquivC {w:World}{u v:Value}{m n:Int}{aa bb:List (List (List Int))}(ha:AdvC w u m aa) (hb:AdvC w v n bb) (he:eqErr m n aa bb=0) (wa:WfS aa) (wb:WfS bb) (la:aa.length≤100) (lb:bb.length≤100) (ma:∀s∈aa,s.length≤50000) (mb:∀s∈bb,s.length≤50000) :
  Calls Tryz.prog 104 #[u,v] w (EqOut w aa bb):=by
 have HA:=qH ha;have HB:=qH hb;obtain⟨xa,xc,hu⟩:=advShape' ha.adv;obtain⟨ya,yc,hv⟩:=advShape' hb.adv;subst hu hv;obtain⟨W1,hW1⟩:=exF ((w.alloc (.cells #[.int .i64 m,.slice xa aa.length xc] 24)).alloc (.cells #[.int .i64 n,.slice ya bb.length yc] 24));obtain⟨hb1,⟨p0,p1⟩,⟨q0,q1⟩,_,_⟩:=boxAdv2 hW1;have HX:=refBoth20 (ha.adv.keep hb1) (hb.adv.keep hb1);rw[he] at HX;replace HX:=qH HX;have H1:=qH (fun W (h:Below W1.heap.size W1 W)=>firstC ((HA.out.keep hb1).keep h) ((HB.out.keep hb1).keep h) wa wb la lb mb);have H2:=qH (fun W (h:Below W1.heap.size W1 W)=>firstC ((HB.out.keep hb1).keep h) ((HA.out.keep hb1).keep h) wb wa lb la ma);have hK:=qH (fun W (hb:Below W1.heap.size W1 W)=>And.intro (cell_kept hb p0) (And.intro (cell_kept hb p1) (And.intro (cell_kept hb q0) (cell_kept hb q1))));clear ha hb he wa wb la lb ma mb;go_enter Tryz.func104, Tryz.ntmps104
 go_wp2_with fail
 rw[←hW1];replace hW1:=qH hW1;refine HX.out.mono ?_;rintro e W2 ⟨rfl,hb2⟩;clear p0 p1 q0 q1;obtain⟨k0,k1,k2,k3⟩:=hK.out W2 hb2;go_wp2_with fail
 refine(H1.out W2 hb2).mono ?_;rintro e W3 ⟨x,R1,wx,rfl,hR1,hOx,hlx,hb3⟩;clear k0 k1 k2 k3;have hb13:=btt hb2 hb3;obtain⟨k0,k1,k2,k3⟩:=hK.out W3 hb13;obtain⟨xa',xc',rfl⟩:=hOx.shape;go_wp2_with fail
 refine(H2.out W3 hb13).mono ?_;rintro e W4 ⟨y,R2,wy,rfl,hR2,hOy,hly,hb4⟩;clear k0 k1 k2 k3 hK H1 H2 HX HA HB;obtain⟨ya',yc',rfl⟩:=hOy.shape;have hb14:=btt hb13 hb4;have hfin:=bt hb1 hb14 hb1.size;have HO:=qH (orderC ((hOx.keep (EI.stab _) hb4).ks (by omega)) (hOy.ks (by omega)));obtain⟨z,hz⟩:=exE (cmpL wx.flatten wy.flatten);rw[hz] at HO;have hT:Hid (R1=false→R2=false→eqW aa bb):=fun h1 h2 u=>⟨hR2.1 h2 u,hR1.1 h1 u⟩
 have hF1:Hid (R1=true→¬eqW aa bb):=fun h1 h=>by
  have:=hR1.2 fun u=>(h u).2
  rw[h1] at this;cases this
 have hF2:Hid (R2=true→¬eqW aa bb):=fun h1 h=>by
  have:=hR2.2 fun u=>(h u).1
  rw[h1] at this;cases this
 clear hR1 hR2 hOx hOy hz;cases R1 with
 | false=>
  cases R2 with
  | false=>
   have hh:=qH (hT.out rfl rfl);clear hT hF1 hF2;go_wp2;go_ret3
   exact⟨_,true,rfl,⟨fun _=>hh.out,fun _=>rfl⟩,hfin⟩
  | true=>
   have hh:=qH (hF2.out rfl);clear hT hF1 hF2;go_wp2;go_ret3
   exact⟨_,false,rfl,⟨fun h=>(by cases h),fun h=>absurd h hh.out⟩,hfin⟩
 | true=>
  have hh:=qH (hF1.out rfl);cases R2 with
  | false=>
   clear hT hF1 hF2;go_wp2;go_ret3
   exact⟨_,false,rfl,⟨fun h=>(by cases h),fun h=>absurd h hh.out⟩,hfin⟩
  | true=>
   clear hT hF1 hF2;rcases Nat.lt_trichotomy wx.length wy.length with hlt|hlt|hlt
   ·have h1:((wx.length:Int) < (wy.length:Int)):=(by omega);go_wp2_with fail
    go_ret3
    exact⟨_,false,rfl,⟨fun h=>(by cases h),fun h=>absurd h hh.out⟩,hfin⟩
   ·have h1 : ¬((wx.length:Int) < (wy.length:Int)):=(by omega);have h2:((wx.length:Int) == (wy.length:Int))=true:=(by simp;omega);replace hlt:=qH hlt;by_cases hz:z < 0
    ·have hd:decide (z < 0)=true:=decide_eq_true hz;go_wp2_with fail
     refine HO.out.mono ?_;rintro e W5 ⟨rfl,hb5,_⟩;go_wp2_with fail
     go_ret3
     exact⟨_,false,rfl,⟨fun h=>(by cases h),fun h=>absurd h hh.out⟩,bt hfin hb5 hfin.size⟩
    ·have hd:decide (z < 0)=false:=decide_eq_false hz;go_wp2_with fail
     refine HO.out.mono ?_;rintro e W5 ⟨rfl,hb5,_⟩;go_wp2_with fail
     go_ret3
     exact⟨_,false,rfl,⟨fun h=>(by cases h),fun h=>absurd h hh.out⟩,bt hfin hb5 hfin.size⟩
   ·have h1 : ¬((wx.length:Int) < (wy.length:Int)):=(by omega);have h2:((wx.length:Int) == (wy.length:Int))=false:=(by simp;omega);go_wp2_with fail
    go_ret3
    exact⟨_,false,rfl,⟨fun h=>(by cases h),fun h=>absurd h hh.out⟩,hfin⟩
theorem refCheckT {w:World}{v:Value}{n i o:Int}{cs:List Cs}(h:TaskV w v n i o cs) :
  Calls Tryz.prog 82 #[v] w fun e w'=>e = .returned (.int .i64 (chkT n i o cs))∧Below w.heap.size w w':=by
 have HT:=qH (fun W (hb:Below w.heap.size w W)=>h.keep hb);obtain⟨sv,rfl,hS⟩:=h;obtain⟨sa,sc,hs⟩:=hS.shape;subst hs;obtain⟨W1,hW1⟩:=exF (w.alloc (.cells #[.int .i64 n,.int .i64 i,.int .i64 o,.slice sa cs.length sc] 64));have hb1:Below w.heap.size w W1:=by rw[hW1];exact(Below.refl _ w).alloc (Nat.le_refl _) _
 have kT:W1.heap[w.heap.size]? = some (.cells #[.int .i64 n,.int .i64 i,.int .i64 o,.slice sa cs.length sc] 64):=by rw[hW1];exact heap_alloc_new _ _
 have HK:=qH (fun W (hb:Below W1.heap.size W1 W)=>keep4 hb (box4' kT));obtain⟨E,hE⟩:=exE (chkT n i o cs);rw[hE];unfold chkT at hE;have hNl:cs.length≤1954687338268:=by obtain⟨_,_,_,_,_,_,_,h⟩:=hS;exact h
 clear kT hS;obtain⟨g0,g1,g2,g3⟩:=HK.out W1 (Below.refl _ _);rw[hW1] at g0 g1 g2 g3;by_cases qn0:n < 1
 ·have dn0:decide ((n:Int) < 1)=true:=decide_eq_true qn0;rw[if_pos (by omega)] at hE;replace hE:=qH hE;clear qn0;go_enter Tryz.func82, Tryz.ntmps82
  go_wp2;go_ret;exact⟨ret_int hE.out,by rw[←hW1];exact hb1⟩
 have dn0:decide ((n:Int) < 1)=false:=decide_eq_false qn0;by_cases qn1:5 < n
 ·have dn1:decide ((5:Int) < n)=true:=decide_eq_true qn1;rw[if_pos (by omega)] at hE;replace hE:=qH hE;clear qn1;clear qn0;go_enter Tryz.func82, Tryz.ntmps82
  go_wp2;go_ret;exact⟨ret_int hE.out,by rw[←hW1];exact hb1⟩
 have dn1:decide ((5:Int) < n)=false:=decide_eq_false qn1;by_cases qi0:i < 1
 ·have di0:decide ((i:Int) < 1)=true:=decide_eq_true qi0;rw[if_pos (by omega)] at hE;replace hE:=qH hE;clear qi0;clear qn0 qn1;go_enter Tryz.func82, Tryz.ntmps82
  go_wp2;go_ret;exact⟨ret_int hE.out,by rw[←hW1];exact hb1⟩
 have di0:decide ((i:Int) < 1)=false:=decide_eq_false qi0;by_cases qi1:8 < i
 ·have di1:decide ((8:Int) < i)=true:=decide_eq_true qi1;rw[if_pos (by omega)] at hE;replace hE:=qH hE;clear qi1;clear qn0 qn1 qi0;go_enter Tryz.func82, Tryz.ntmps82
  go_wp2;go_ret;exact⟨ret_int hE.out,by rw[←hW1];exact hb1⟩
 have di1:decide ((8:Int) < i)=false:=decide_eq_false qi1;by_cases qo0:o < 1
 ·have do0:decide ((o:Int) < 1)=true:=decide_eq_true qo0;rw[if_pos (by omega)] at hE;replace hE:=qH hE;clear qo0;clear qn0 qn1 qi0 qi1;go_enter Tryz.func82, Tryz.ntmps82
  go_wp2;go_ret;exact⟨ret_int hE.out,by rw[←hW1];exact hb1⟩
 have do0:decide ((o:Int) < 1)=false:=decide_eq_false qo0;by_cases qo1:8 < o
 ·have do1:decide ((8:Int) < o)=true:=decide_eq_true qo1;rw[if_pos (by omega)] at hE;replace hE:=qH hE;clear qo1;clear qn0 qn1 qi0 qi1 qo0;go_enter Tryz.func82, Tryz.ntmps82
  go_wp2;go_ret;exact⟨ret_int hE.out,by rw[←hW1];exact hb1⟩
 have do1:decide ((8:Int) < o)=false:=decide_eq_false qo1;rw[if_neg (by omega)] at hE;clear qn0 qn1 qi0 qi1 qo0 qo1;by_cases qe0:cs.length < 1
 ·have de0:decide ((cs.length:Int) < 1)=true:=decide_eq_true (by omega);rw[if_pos (by omega)] at hE;replace hE:=qH hE;go_enter Tryz.func82, Tryz.ntmps82
  go_wp2;go_ret;exact⟨ret_int hE.out,by rw[←hW1];exact hb1⟩
 have de0:decide ((cs.length:Int) < 1)=false:=decide_eq_false (by omega);by_cases qe1:1024 < cs.length
 ·have de1:decide ((1024:Int) < (cs.length:Int))=true:=decide_eq_true (by omega);rw[if_pos (by omega)] at hE;replace hE:=qH hE;go_enter Tryz.func82, Tryz.ntmps82
  go_wp2;go_ret;exact⟨ret_int hE.out,by rw[←hW1];exact hb1⟩
 have de1:decide ((1024:Int) < (cs.length:Int))=false:=decide_eq_false (by omega);rw[if_neg (by omega)] at hE;have hlb:cs.length≤1024:=by omega
 have s1:Hid (firstE (caseE n i o cs) (cs.length - 0) 0=E):=hE;clear hE qe0 qe1;go_enter Tryz.func82, Tryz.ntmps82
 go_wp2_with fail
 rw[←hW1];replace hW1:=qH hW1;clear g0 g1 g2 g3 dn0 dn1 di0 di1 do0 do1 de0 de1;go_loopw [3] (fun iv wr=>∃k:Nat,iv = .int .i64 k∧k≤cs.length∧Hid (firstE (caseE n i o cs) (cs.length - k) k=E)∧Below W1.heap.size W1 wr) (fun iv _=>cs.length - (intOf iv).toNat)
 case atStart=>exact⟨0,rfl,by omega,s1,Below.refl _ _⟩
 case round=>
  clear s1;obtain⟨k,rfl,hk,ht,hbr⟩:=hrel;obtain⟨g0,g1,g2,g3⟩:=HK.out wr hbr;by_cases hlt:k < cs.length
  ·have ht1:=ht.out;rw[show cs.length - k=(cs.length - (k+1))+1 by omega] at ht1;have HV:=refOneC (HT.out wr (btt hb1 hbr)) hlt;obtain⟨z,hz⟩:=exE (caseE n i o cs k);rw[hz] at HV;replace HV:=qH HV;clear ht;by_cases hz0:z=0
   ·have hn:=qH (firstE_step ht1 (by rw[hz,hz0]));subst hz0;clear ht1 hz;go_wp2_with fail
    refine HV.out.mono ?_;rintro e w2 ⟨rfl,hb2⟩;have hbf:=btt hbr hb2;go_wp2_with fail
    go_roundw
    case rel=>exact⟨k+1,by go_num,hlt,hn,hbf⟩
    case measure=>simp[intOf];omega
   ·have hn:=firstE_stop ht1 (by rw[hz];exact hz0);rw[hz] at hn;replace hn:=qH hn;have hz1:(z != 0)=true:=(by simpa using hz0);clear ht1 hz;go_wp2_with fail
    refine HV.out.mono ?_;rintro e w2 ⟨rfl,hb2⟩;have hbf:=btt hb1 (btt hbr hb2);go_wp2_with fail
    go_ret;exact⟨ret_int hn.out,hbf⟩
  ·have hE0:Hid ((0:Int)=E):=by
    have:=ht.out
    rw[show cs.length - k=0 by omega] at this;exact this
   have hbf:=btt hb1 hbr;clear ht;go_wp2_with fail
   go_ret;exact⟨ret_int hE0.out,hbf⟩
def fewV (l:List (List Int)):Bool:=decide (l.length≤30) && l.all (fun x=>decide (x.length≤10))
def fewC (c:Cs):Bool:=decide (c.1.length≤10) && (fewV c.2.1 && fewV c.2.2)
def fewT (cs:List Cs):Bool:=decide (cs.length≤30) && cs.all fewC
theorem drop_consD {α:Type}{xs:List α}{i:Nat}{d x:α}(h:i < xs.length) (hx:xs.getD i d=x):xs.drop i=x::xs.drop (i+1):=by
 rw[List.drop_eq_getElem_cons h,←hx,getD_eq h]
theorem refFewV {w:World}{u:Value}{l:List (List Int)}(hx:Intss w u l) :
  Calls Tryz.prog 112 #[u,.int .i64 30] w fun e w'=>e = .returned (.bool (fewV l))∧w'=w:=by
 obtain⟨xa,xc,xb,xo,rfl,hxa,hxc,hxl⟩:=hx;unfold fewV;by_cases hn:l.length≤30
 ·rw[decide_eq_true hn,Bool.true_and];have dn:decide ((30:Int) < (l.length:Int))=false:=decide_eq_false (by omega);obtain⟨A,hA⟩:∃A,(l.all fun x=>decide (x.length≤10))=A:=⟨_,rfl⟩;rw[hA];have h0:Hid (((l.drop 0).all fun x=>decide (x.length≤10))=A):=hA;replace hxc:=qH hxc;clear hA;go_enter Tryz.func112, Tryz.ntmps112
  go_wp2_with fail
  clear dn;go_loopw [5] (fun iv wr=>∃k:Nat,iv = .int .i64 k∧k≤l.length∧Hid (((l.drop k).all fun x=>decide (x.length≤10))=A)∧wr=w) (fun iv _=>l.length - (intOf iv).toNat)
  case atStart=>exact⟨0,rfl,by omega,h0,rfl⟩
  case round=>
   clear h0;obtain⟨k,rfl,hk,ht,rfl⟩:=hrel;by_cases hlt:k < l.length
   ·obtain rfl:=hxa (by omega);obtain⟨u,cu,hu⟩:=hxc.out k hlt;obtain⟨x,hx⟩:=exE (l.getD k []);rw[hx] at hu;have ht2:=ht.out;rw[drop_consD hlt hx,List.all_cons] at ht2;obtain⟨ua,uc,hs⟩:=hu.shape;subst hs;clear hu hx ht;by_cases h10:x.length≤10
    ·rw[decide_eq_true h10,Bool.true_and] at ht2;replace ht2:=qH ht2;have d1:decide ((10:Int) < (x.length:Int))=false:=decide_eq_false (by omega);go_wp2_with fail
     go_roundw
     case rel=>exact⟨k+1,by go_num,hlt,ht2,by first|rfl|trivial⟩
     case measure=>simp[intOf];omega
    ·rw[decide_eq_false h10,Bool.false_and] at ht2;subst ht2;have d1:decide ((10:Int) < (x.length:Int))=true:=decide_eq_true (by omega);go_wp2_with fail
     go_ret;exact⟨rfl,rfl⟩
   ·have hE:true=A:=by
     have:=ht.out
     rw[List.drop_eq_nil_of_le (by omega)] at this;exact this
    clear ht;subst hE;go_wp2_with fail
    go_ret;exact⟨rfl,rfl⟩
 ·rw[decide_eq_false hn,Bool.false_and];have dn:decide ((30:Int) < (l.length:Int))=true:=decide_eq_true (by omega);clear hxc hn;go_enter Tryz.func112, Tryz.ntmps112
  go_wp2;go_ret;exact⟨rfl,rfl⟩
theorem refFewT {w:World}{v:Value}{n i o:Int}{cs:List Cs}(h:TaskV w v n i o cs) :
  Calls Tryz.prog 75 #[v] w fun e w'=>e = .returned (.bool (fewT cs))∧Below w.heap.size w w':=by
 obtain⟨sv,rfl,hS⟩:=h;obtain⟨sa,sc,hs⟩:=hS.shape;subst hs;obtain⟨W1,hW1⟩:=exF (w.alloc (.cells #[.int .i64 n,.int .i64 i,.int .i64 o,.slice sa cs.length sc] 64));have hb1:Below w.heap.size w W1:=by rw[hW1];exact(Below.refl _ w).alloc (Nat.le_refl _) _
 have kT:W1.heap[w.heap.size]? = some (.cells #[.int .i64 n,.int .i64 i,.int .i64 o,.slice sa cs.length sc] 64):=by rw[hW1];exact heap_alloc_new _ _
 have HK:=qH (fun W (hb:Below W1.heap.size W1 W)=>keep4 hb (box4' kT));have HS:=qH (fun W (hb:Below W1.heap.size W1 W)=>(hS.keep hb1).keep hb);clear kT hS;obtain⟨g0,g1,g2,g3⟩:=HK.out W1 (Below.refl _ _);rw[hW1] at g0 g1 g2 g3;unfold fewT;by_cases hn:cs.length≤30
 ·rw[decide_eq_true hn,Bool.true_and];have dn:decide ((30:Int) < (cs.length:Int))=false:=decide_eq_false (by omega);obtain⟨A,hA⟩:=exE (cs.all fewC);rw[hA];have h0:Hid ((cs.drop 0).all fewC=A):=hA;clear hA;go_enter Tryz.func75, Tryz.ntmps75
  go_wp2_with fail
  rw[←hW1];replace hW1:=qH hW1;clear dn g0 g1 g2 g3;go_loopw [3] (fun iv wr=>∃k:Nat,iv = .int .i64 k∧k≤cs.length∧Hid ((cs.drop k).all fewC=A)∧Below W1.heap.size W1 wr) (fun iv _=>cs.length - (intOf iv).toNat)
  case atStart=>exact⟨0,rfl,by omega,h0,Below.refl _ _⟩
  case round=>
   clear h0;obtain⟨k,rfl,hk,ht,hbr⟩:=hrel;obtain⟨g0,g1,g2,g3⟩:=HK.out wr hbr;by_cases hlt:k < cs.length
   ·obtain⟨b,off,rfl,hc⟩:=(HS.out wr hbr).at (by omega);obtain⟨u0,u1,u2,c0,c1,c2,i0,i1,i2⟩:=hc k hlt;obtain⟨c,hcc⟩:=exE (cs.getD k csNil);rw[hcc] at i0 i1 i2;have ht2:=ht.out;rw[drop_consD hlt hcc,List.all_cons] at ht2;obtain⟨l0,l1,l2⟩:=c;simp only at i0 i1 i2
    obtain⟨x0,y0,hs⟩:=i0.shape;subst hs;obtain⟨x1,y1,hs⟩:=i1.shape;subst hs;obtain⟨x2,y2,hs⟩:=i2.shape;subst hs;obtain⟨W2,hW2⟩:=exF (wr.alloc (.cells #[.slice x0 l0.length y0,.slice x1 l1.length y1,.slice x2 l2.length y2] 128));have hb2:Below wr.heap.size wr W2:=(by rw[hW2];exact(Below.refl _ _).alloc (Nat.le_refl _) _);have kC:W2.heap[wr.heap.size]? = some (.cells #[.slice x0 l0.length y0,.slice x1 l1.length y1,.slice x2 l2.length y2] 128):=(by rw[hW2];exact heap_alloc_new _ _);obtain⟨r0,r1,r2⟩:=box3' kC;have s0:=r0;have s1:=r1;have s2:=r2;rw[hW2] at r0 r1 r2;have F1:=qH (refFewV (i1.keep hb2));have F2:=qH (refFewV (i2.keep hb2));have hbf:=btt hbr hb2;have hbg:=btt hb1 hbf;clear i0 i1 i2 hcc ht kC hc;unfold fewC at ht2;simp only at ht2
    obtain⟨P1,hP1⟩:=exE (fewV l1);obtain⟨P2,hP2⟩:=exE (fewV l2);rw[hP1] at F1 ht2;rw[hP2] at F2 ht2;clear hP1 hP2;by_cases h10:l0.length≤10
    ·have d1:decide ((10:Int) < (l0.length:Int))=false:=decide_eq_false (by omega);rw[decide_eq_true h10,Bool.true_and] at ht2;cases P1
     ·rw[Bool.false_and,Bool.false_and] at ht2;subst ht2;go_wp2_with fail
      rw[←hW2];replace hW2:=qH hW2;refine F1.out.mono ?_;rintro e w3 ⟨rfl,rfl⟩;go_wp2_with fail
      go_ret;exact⟨rfl,hbg⟩
     ·rw[Bool.true_and] at ht2;cases P2
      ·rw[Bool.false_and] at ht2;subst ht2;go_wp2_with fail
       rw[←hW2];replace hW2:=qH hW2;refine F1.out.mono ?_;rintro e w3 ⟨rfl,rfl⟩;go_wp2_with fail
       refine F2.out.mono ?_;rintro e w3 ⟨rfl,rfl⟩;go_wp2_with fail
       go_ret;exact⟨rfl,hbg⟩
      ·rw[Bool.true_and] at ht2;replace ht2:=qH ht2;go_wp2_with fail
       rw[←hW2];replace hW2:=qH hW2;refine F1.out.mono ?_;rintro e w3 ⟨rfl,rfl⟩;go_wp2_with fail
       refine F2.out.mono ?_;rintro e w3 ⟨rfl,rfl⟩;go_wp2_with fail
       go_roundw
       case rel=>exact⟨k+1,by go_num,hlt,ht2,hbf⟩
       case measure=>simp[intOf];omega
    ·have d1:decide ((10:Int) < (l0.length:Int))=true:=decide_eq_true (by omega);rw[decide_eq_false h10,Bool.false_and,Bool.false_and] at ht2;subst ht2;go_wp2_with fail
     go_ret;exact⟨rfl,by rw[←hW2];exact hbg⟩
   ·have hE:true=A:=by
     have:=ht.out
     rw[List.drop_eq_nil_of_le (by omega)] at this;exact this
    have hbg:=btt hb1 hbr;clear ht;subst hE;go_wp2_with fail
    go_ret;exact⟨rfl,hbg⟩
 ·rw[decide_eq_false hn,Bool.false_and];have dn:decide ((30:Int) < (cs.length:Int))=true:=decide_eq_true (by omega);clear hn;go_enter Tryz.func75, Tryz.ntmps75
  go_wp2;go_ret;exact⟨rfl,by rw[←hW1];exact hb1⟩
def mk2 (p:List Int):List Int:=[2,p.getD 0 0,p.getD 1 0,0,0,0,0,0]
theorem CI.all2 {w:World}{b o:Nat}{x0 x1:Int}(h:CI w b o [x0,x1]):w.cell? ⟨b,o,none⟩=some (.int .i64 x0)∧w.cell? ⟨b,o+1,none⟩=some (.int .i64 x1):=⟨h 0 (show 0 < 2 by decide),h 1 (show 1 < 2 by decide)⟩
theorem OwX.one1 {α:Type}{E:TypeId}{El:World→List Value→α→Prop}{w:World}{g:Nat}{u:Value}{x:α}(h:w.heap[g]? = some (.cells #[u] E)) (h1:u.oneCell'=true) (hE:El w [u] x):OwX E 1 El w 0 (.slice (some ⟨g,0,none⟩) 1 1) 1 [x]:=by
 refine⟨[u],⟨rfl,.inr ⟨g,1,#[u],rfl,Nat.zero_le _,h,Nat.le_refl _,by decide,rfl,rfl⟩⟩,rfl,fun y hy=>by rw[List.mem_singleton.1 hy];exact h1,fun j y hj=>?_⟩;match j,hj with
 | 0,hj=>injection hj with hj;subst hj;exact hE
theorem two {x:List Int}(h:x.length=2):∃a b,x = [a,b]:=by
 match x,h with
 | [a,b],_=>exact⟨a,b,rfl⟩
theorem graphsC {w:World}{v:Value}{ps:List (List Int)}(h:KS 2 w v ps) (hl:ps.length≤1000) :
  Calls Tryz.prog 49 #[v] w fun e w'=>∃r,e = .returned r∧OwAdv w' r 2 [ps.map mk2]∧Below w.heap.size w w':=by
 obtain⟨va,vc,vb,vo,rfl,hva,hvc,_⟩:=h;replace hvc:Hid (∀j,j < ps.length→(ps.getD j []).length=2∧CI w vb (vo+j * 2) (ps.getD j [])):=hvc;obtain⟨M,hM⟩:=exE (ps.map mk2);have hMl:Hid (M.length=ps.length):=by rw[←hM,List.length_map];exact rfl
 have hMi:Hid (∀j,j < ps.length→M.getD j []=mk2 (ps.getD j [])):=fun j hj=>by rw[←hM,getD_eq (by rw[List.length_map];exact hj),List.getElem_map,getD_eq hj]
 rw[hM];replace hM:=qH hM;replace hva:=qH hva;obtain⟨W1,hW1⟩:=exF (w.alloc (.cells #[.int .i64 0,.slice none 0 0] 24));have hb1:Below w.heap.size w W1:=by rw[hW1];exact(Below.refl _ w).alloc (Nat.le_refl _) _
 have m1:W1.heap[w.heap.size]? = some (.cells #[.int .i64 0,.slice none 0 0] 24):=by rw[hW1];exact heap_alloc_new _ _
 have hs1:Hid (W1.heap.size=w.heap.size+1):=by rw[hW1,World.size_alloc];exact rfl
 have ho1:OwX 100 8 EI W1 W1.heap.size (.slice none 0 0) 0 (M.take 0):=OwX.nil _ _;have hbr:=Below.refl W1.heap.size W1;go_enter Tryz.func49, Tryz.ntmps49
 go_wp2_with fail
 rw[←hW1];replace hW1:=qH hW1;go_loopw [3,8] (fun ov jv wr=>∃j:Nat,jv = .int .i64 (j:Int)∧j≤ps.length∧OwX 100 8 EI wr W1.heap.size ov j (M.take j)∧Hid (Below W1.heap.size W1 wr)) (fun _ jv _=>ps.length - (intOf jv).toNat)
 case atStart=>exact⟨0,rfl,Nat.zero_le _,ho1,hbr⟩
 case round=>
  clear ho1 hbr;obtain⟨j,rfl,hj,ho,hb⟩:=hrel;obtain⟨oa,oc,hov⟩:=ho.shape;subst hov;by_cases hlt:j < ps.length
  ·have hltI:(j:Int) < (ps.length:Int):=(by omega);obtain rfl:=hva.out (by omega);obtain⟨hx2,hxc⟩:=hvc.out j hlt;obtain⟨x,hx⟩:=exE (ps.getD j []);have hstep:M.take (j+1)=M.take j ++ [mk2 x]:=(by rw[take_snoc (by rw[hMl.out];exact hlt) [],hMi.out j hlt,hx]);rw[hx] at hx2 hxc;obtain⟨x0,x1,rfl⟩:=two hx2;have hbw:=bt hb1 hb.out hb1.size;obtain⟨q0,q1⟩:=(hxc.keep hbw).all2;obtain⟨W5,hW5⟩:=exF (wr.alloc (.cells #[.int .i64 x0,.int .i64 x1] 93));have hb5:Below wr.heap.size wr W5:=(by rw[hW5];exact(Below.refl _ _).alloc (Nat.le_refl _) _);have m5:W5.heap[wr.heap.size]? = some (.cells #[.int .i64 x0,.int .i64 x1] 93):=(by rw[hW5];exact heap_alloc_new _ _);obtain⟨p0,p1⟩:=boxL2 m5;have ho5:=ho.keep (EI.stab _) hb5;have hbo5:Below W1.heap.size W1 W5:=hb.out.trans (hb5.mono hb.out.size);have hEI:EI W5 [.int .i64 2,.int .i64 x0,.int .i64 x1,.int .i64 0,.int .i64 0,.int .i64 0,.int .i64 0,.int .i64 0] [2,x0,x1,0,0,0,0,0]:=rfl
   have hc8:∀u∈(#[.int .i64 2,.int .i64 x0,.int .i64 x1,.int .i64 0,.int .i64 0,.int .i64 0,.int .i64 0,.int .i64 0]:Array Value).toList,u.oneCell'=true:=fun u hu=>by
    simp only[List.mem_cons,List.not_mem_nil,or_false] at hu;rcases hu with rfl|rfl|rfl|rfl|rfl|rfl|rfl|rfl<;>rfl
   have hstep2:Hid (M.take (j+1)=M.take j ++ [[2,x0,x1,0,0,0,0,0]]):=hstep;clear hx hxc hx2 ho m5 hstep hb5;go_upto_region 5 with fail
   rw[←hW5];replace hW5:=qH hW5;go_wp2_with (at_builtin;refine wpAppX elemMv (by decide) (by decide) (EI.stab _) rfl _ _ rfl rfl ho5 rfl rfl rfl hc8 hEI (by omega) hbo5.size ?_)
   intro v' w9 ho9 _ hb9 _;rw[←hstep2.out] at ho9;clear ho5 p0 p1;go_wp2_with fail
   go_roundw
   case rel=>exact⟨j+1,by go_num,by omega,ho9,hbo5.trans hb9⟩
   case measure=>simp[intOf];omega
  ·obtain rfl:j=ps.length:=(by omega);rw[List.take_of_length_le (by rw[hMl.out];exact Nat.le_refl _)] at ho;have hbw:=bt hb1 hb.out hb1.size;obtain⟨W5,hW5⟩:=exF (wr.alloc (.cells #[.slice oa ps.length oc] 98));have hb5:Below wr.heap.size wr W5:=(by rw[hW5];exact(Below.refl _ _).alloc (Nat.le_refl _) _);have m5:W5.heap[wr.heap.size]? = some (.cells #[.slice oa ps.length oc] 98):=(by rw[hW5];exact heap_alloc_new _ _);have hm1:=(hb.out.trans (hb5.mono hb.out.size)).block w.heap.size (by rw[hs1.out];omega);have c1:=hm1.trans m1;obtain⟨z0,z1⟩:=boxL2 c1;obtain⟨f0,f1⟩:=freeL2 c1;rw[hW5] at z0 z1 f0 f1;have ho5:=ho.keep (EI.stab _) hb5;have hbw5:=hbw.trans (hb5.mono hbw.size);clear ho m1 hm1;go_wp2;rw[←hW5];refine storeEnd2 (u0:=.int .i64 2) (u1:=.slice (some ⟨wr.heap.size,0,none⟩) 1 1) c1 ?_;intro W9 hW9 hb9 hk9 _ e0 e1;rw[←hW9];have hE9:ESt W9 [.slice oa ps.length oc] M:=⟨_,rfl,by rw[hMl.out];exact(ho5.other (E':=24) (EI.stab _) (by decide) hk9).base (Nat.zero_le _)⟩;have hfin:OwAdv W9 (.agg #[.int .i64 2,.slice (some ⟨wr.heap.size,0,none⟩) 1 1]) 2 [M]:=⟨_,rfl,OwX.one1 ((hk9 _ _ _ m5 (by decide)).trans m5) rfl hE9,show 1≤5864062014805 by decide,fun x hx=>by rw[List.mem_singleton.1 hx,hMl.out];omega⟩;refine bodyPost_ret (v:=.agg #[.int .i64 2,.slice (some ⟨wr.heap.size,0,none⟩) 1 1]) (by simp[results,Tryz.results49,go_sem,e0,e1]) rfl ?_;exact⟨_,rfl,hfin,hb9 _ _ (by omega) hbw5⟩
end Go.Proofs.YtmikofeildnpdaaGreat
