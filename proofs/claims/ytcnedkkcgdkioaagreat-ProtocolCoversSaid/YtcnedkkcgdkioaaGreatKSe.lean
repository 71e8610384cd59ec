/- Texts of this claim, put together: A8 A9 B2. -/
import Derived.Test.YtcnedkkcgdkioaaGreatKSd

set_option maxRecDepth 100000
set_option maxHeartbeats 12800000
namespace Go.Proofs.YtcnedkkcgdkioaaGreat
open Go.RowKit
def MvOK (len:Nat) (m:List Int):Prop:=m.length=8/\(0<=m.getD 6 0/\m.getD 6 0<=31)/\0<=m.getD 7 0/\m.getD 7 0 < (len:Int)
def StOK (ss:Jc):Prop:=∀s∈ss,∀m∈s,MvOK ss.length m
def gr3 (f:Int) (ks:Jb):Bool:=ks.all fun k=>insideB f (k.getD 6 0)
def gr2 (ss:Jc) (ms:Jb):Bool:=ms.all fun m=>gr3 (m.getD 6 0) (ss.getD (m.getD 7 0).toNat [])
def growsB (ss:Jc):Bool:=ss.all (gr2 ss)
theorem all_step {α:Type}{f:α->Bool}{l:List α}{k:Nat}(h:k < l.length) {d x:α}(hx:l.getD k d=x):(l.drop k).all f=(f x && (l.drop (k+1)).all f):=by rw[drop_cons h d,List.all_cons,hx]
theorem all_end {α:Type}{f:α->Bool}{l:List α}{k:Nat}(h : ¬k < l.length):(l.drop k).all f=true:=by rw[List.drop_eq_nil_of_le (by omega)];rfl
theorem box_cell {w:World}{b j:Nat}{cs:Array Value}{t:TypeId}{v:Value}(h:w.heap[b]? = some (.cells cs t)) (hj:cs[j]? = some v):w.cell? ⟨b,j,none⟩=some v:=by rw[cell_of_row _ _ j _ _ _ h];exact hj
theorem refGrows {w:World}{v:Value}{n:Int}{ss:Jc}(hA:AdvV w v n ss) (hl:ss.length<=256) (hO:StOK ss):Calls Tryz.prog 211 #[v] w fun e w'=>e = .returned (.bool (growsB ss))/\Below w.heap.size w w':=by
 obtain⟨sv,rfl,sa,sc,sb,so,rfl,hsa,hsc,_⟩:=hA;have hb:=(Below.refl w.heap.size w).alloc (Nat.le_refl _) (.cells #[.int .i64 n,.slice sa ss.length sc] 27);have k0:=heap_alloc_new w (.cells #[.int .i64 n,.slice sa ss.length sc] 27);replace hsc:=hsc.keep hb;obtain⟨W1,hW1⟩:=exF (w.alloc (.cells #[.int .i64 n,.slice sa ss.length sc] 27));obtain⟨b0,hb0⟩:=exF (w.heap.size);rw[<-hW1] at hb k0 hsc;rw[<-hb0] at k0;have hb0s:=(Array.getElem?_eq_some_iff.1 k0).1;replace hW1:=qH hW1;replace hb0:=qH hb0;obtain⟨E,hE⟩:=exE (growsB ss);rw[hE];have hE0:=qH (show(ss.drop 0).all (gr2 ss)=E by rw[List.drop_zero];exact hE);replace hO:=qH hO;clear hE;go_enter Tryz.func211, Tryz.ntmps211
 go_wp2;rw[<-hW1.out,<-hb0.out];clear hW1 hb0;go_loopw [3] (fun sv wr=>∃s:Nat,s<=ss.length/\sv = .int .i64 s/\Hid ((ss.drop s).all (gr2 ss)=E)/\Below W1.heap.size W1 wr) (fun sv _=>ss.length - (intOf sv).toNat)
 case atStart=>exact⟨0,by omega,rfl,hE0,Below.refl _ _⟩
 case round=>
  clear hE0;obtain⟨s,hs,rfl,hg,hbr⟩:=hrel;have k1:=(hbr.block b0 hb0s).trans k0;have d1:wr.cell? ⟨b0,1,none⟩=some (.slice sa ss.length sc):=box_cell k1 rfl;by_cases hlt:s < ss.length
  ·obtain rfl:=hsa (by omega);obtain⟨ms,hms⟩:=exE (ss.getD s []);have hmem:ms∈ss:=(by rw[<-hms,getD_eq hlt];exact List.getElem_mem hlt);have hms':=hms;obtain⟨u,hcu,hu⟩:=hsc s hlt;rw[hms] at hu;have hst:=qH (all_step (f:=gr2 ss) hlt hms);have hOm:=qH (hO.out ms hmem);clear hms hmem hms';obtain⟨ma,mc,mb,mo,rfl,hma,hmc,hml⟩:=hu
   have hgm:Hid (((ms.drop 0).all (fun m=>gr3 (m.getD 6 0) (ss.getD (m.getD 7 0).toNat [])) && (ss.drop (s+1)).all (gr2 ss))=E):=by
    show _=E;rw[List.drop_zero,<-hg.out,hst.out];rfl
   clear hg hst;go_wp2;clear d1 k1;go_loopw [4] (fun iv wr=>∃i:Nat,i<=ms.length/\iv = .int .i64 i/\Hid (((ms.drop i).all (fun m=>gr3 (m.getD 6 0) (ss.getD (m.getD 7 0).toNat [])) && (ss.drop (s+1)).all (gr2 ss))=E)/\Below W1.heap.size W1 wr) (fun iv _=>ms.length - (intOf iv).toNat)
   case atStart=>exact⟨0,by omega,rfl,hgm,hbr⟩
   case round=>
    clear hgm hbr;obtain⟨i,hi,rfl,hg,hbr⟩:=hrel;have k1:=(hbr.block b0 hb0s).trans k0;have d1:wr.cell? ⟨b0,1,none⟩=some (.slice (some ⟨sb,so,none⟩) ss.length sc):=box_cell k1 rfl;have hcu1:=cell_kept hbr hcu;by_cases hlti:i < ms.length
    ·obtain rfl:=hma (by omega);obtain⟨hx8,hxc⟩:=hmc i hlti;obtain⟨x,hx⟩:=exE (ms.getD i []);have hxm:x∈ms:=(by rw[<-hx,getD_eq hlti];exact List.getElem_mem hlti);have hxO:=hOm.out x hxm;rw[hx] at hx8 hxc;have hst:=qH (all_step (f:=fun m=>gr3 (m.getD 6 0) (ss.getD (m.getD 7 0).toNat [])) hlti hx);obtain⟨y0,y1,y2,y3,y4,y5,y6,y7,rfl⟩:=eight hx8;obtain⟨_,⟨f0,f31⟩,t0,tl⟩:=hxO;have f0:0<=y6:=f0;have f31:y6<=31:=f31;have t0:0<=y7:=t0;have tl:y7 < (ss.length:Int):=tl;obtain⟨t,rfl⟩:∃t:Nat,y7=t:=⟨y7.toNat,by omega⟩;have htl:t < ss.length:=(by omega);obtain⟨c0,c1,c2,c3,c4,c5,c6,c7⟩:=(hxc.keep hbr).all8;obtain⟨ks,hks⟩:=exE (ss.getD t []);obtain⟨u2,hcu2,hu2⟩:=hsc t htl;rw[hks] at hu2;have hkO:=qH (hO.out ks (by rw[<-hks,getD_eq htl];exact List.getElem_mem htl))
     have hgk:Hid (((ks.drop 0).all (fun k=>insideB y6 (k.getD 6 0)) && ((ms.drop (i+1)).all (fun m=>gr3 (m.getD 6 0) (ss.getD (m.getD 7 0).toNat [])) && (ss.drop (s+1)).all (gr2 ss)))=E):=by
      show _=E;rw[<-hg.out,hst.out,<-Bool.and_assoc,List.drop_zero];show _=(gr3 y6 (ss.getD ((t:Int)).toNat []) && _ && _);rw[Int.toNat_natCast,hks];rfl
     clear hg hst hks hx hxm hx8 hxc;obtain⟨ka,kc,kb,ko,rfl,hka,hkc,hkl⟩:=hu2;have hbx:=hbr.alloc hbr.size (.cells #[.int .i64 y0,.int .i64 y1,.int .i64 y2,.int .i64 y3,.int .i64 y4,.int .i64 y5,.int .i64 y6,.int .i64 t] 178);have kx:=heap_alloc_new wr (.cells #[.int .i64 y0,.int .i64 y1,.int .i64 y2,.int .i64 y3,.int .i64 y4,.int .i64 y5,.int .i64 y6,.int .i64 t] 178);obtain⟨W2,hW2⟩:=exF (wr.alloc (.cells #[.int .i64 y0,.int .i64 y1,.int .i64 y2,.int .i64 y3,.int .i64 y4,.int .i64 y5,.int .i64 y6,.int .i64 t] 178));obtain⟨bx,hbxe⟩:=exF (wr.heap.size);rw[<-hW2] at hbx kx;rw[<-hbxe] at kx;have hbxs:=(Array.getElem?_eq_some_iff.1 kx).1;replace hW2:=qH hW2;replace hbxe:=qH hbxe;clear hbr;go_wp2;rw[<-hW2.out,<-hbxe.out];clear hW2 hbxe c0 c1 c2 c3 c4 c5 c6 c7 d1 k1 hcu1;go_loopw [6] (fun kv wr=>∃k:Nat,k<=ks.length/\kv = .int .i64 k/\Hid (((ks.drop k).all (fun k=>insideB y6 (k.getD 6 0)) && ((ms.drop (i+1)).all (fun m=>gr3 (m.getD 6 0) (ss.getD (m.getD 7 0).toNat [])) && (ss.drop (s+1)).all (gr2 ss)))=E)/\∃q,wr=W2.drewN q) (fun kv _=>ks.length - (intOf kv).toNat)
     case atStart=>exact⟨0,by omega,rfl,hgk,0,rfl⟩
     case round=>
      clear hgk;obtain⟨k,hk,rfl,hg,q,rfl⟩:=hrel;have hbq:=below_drewN hbx q;have k1:=(hbx.block b0 hb0s).trans k0;have d1:W2.cell? ⟨b0,1,none⟩=some (.slice (some ⟨sb,so,none⟩) ss.length sc):=box_cell k1 rfl;have kx1:W2.heap[bx]? = some (.cells #[.int .i64 y0,.int .i64 y1,.int .i64 y2,.int .i64 y3,.int .i64 y4,.int .i64 y5,.int .i64 y6,.int .i64 t] 178):=kx;have x6:W2.cell? ⟨bx,6,none⟩=some (.int .i64 y6):=box_cell kx1 rfl;have x7:W2.cell? ⟨bx,7,none⟩=some (.int .i64 t):=box_cell kx1 rfl;have hcu3:=cell_kept hbx hcu2;by_cases hltk:k < ks.length
      ·obtain rfl:=hka (by omega);obtain⟨hz8,hzc⟩:=hkc k hltk;obtain⟨z,hz⟩:=exE (ks.getD k []);have hzO:=hkO.out z (by rw[<-hz,getD_eq hltk];exact List.getElem_mem hltk);rw[hz] at hz8 hzc;have hst:=qH (all_step (f:=fun k=>insideB y6 (k.getD 6 0)) hltk hz);obtain⟨z0,z1,z2,z3,z4,z5,z6,z7,rfl⟩:=eight hz8;obtain⟨_,⟨g0,g31⟩,_⟩:=hzO;have g0:0<=z6:=g0;have g31:z6<=31:=g31;obtain⟨_,_,_,_,_,_,e6,_⟩:=(hzc.keep hbx).all8;have HI:=fun W=>refInside y6 z6 W f0 (by omega) g0 (by omega);clear hz hz8 hzc hka hkc;by_cases hin:insideB y6 z6=true
       ·simp only[hin] at HI;have HQ:=qH (fun W=>(HI W).mono fun _ _ (h:_/\_)=>(⟨h.1,0,h.2.symm⟩:_/\Qt _ _));clear HI;replace hin:=qH hin;go_wp2;go_quiet ((go_at_call 243;exact quietOn (HQ.out _)))
        go_wp2;go_roundw
        case rel=>exact⟨k+1,by omega,by go_num,by show _=E;rw[<-hg.out,hst.out];show _=(insideB y6 z6 && _ && _);rw[hin.out,Bool.true_and],_,rfl⟩
        case measure=>simp[intOf];omega
       ·replace hin:=eq_false_of_ne_true hin;simp only[hin] at HI;have HQ:=qH (fun W=>(HI W).mono fun _ _ (h:_/\_)=>(⟨h.1,0,h.2.symm⟩:_/\Qt _ _));clear HI;replace hin:=qH hin;go_wp2;go_quiet ((go_at_call 243;exact quietOn (HQ.out _)))
        go_wp2;go_ret;exact⟨ret_bool (by rw[<-hg.out,hst.out];show _=(insideB y6 z6 && _ && _);rw[hin.out,Bool.false_and,Bool.false_and]),below_drewN (below_drewN (bt hb hbx hb.size) _) _⟩
      ·obtain rfl:k=ks.length:=(by omega);have hen:=qH (all_end (f:=fun k=>insideB y6 (k.getD 6 0)) hltk);clear hka hkc;go_wp2;go_roundw
       case rel=>exact⟨i+1,by omega,by go_num,by show _=E;rw[<-hg.out,hen.out,Bool.true_and],hbq⟩
       case measure=>simp[intOf];omega
    ·obtain rfl:i=ms.length:=(by omega);have hen:=qH (all_end (f:=fun m=>gr3 (m.getD 6 0) (ss.getD (m.getD 7 0).toNat [])) hlti);clear hma hmc;go_wp2;go_roundw
     case rel=>exact⟨s+1,by omega,by go_num,by show _=E;rw[<-hg.out,hen.out,Bool.true_and],hbr⟩
     case measure=>simp[intOf];omega
  ·obtain rfl:s=ss.length:=(by omega);have hen:=qH (all_end (f:=gr2 ss) hlt);clear hsa hsc;go_wp2;go_ret;exact⟨ret_bool (by rw[<-hg.out,hen.out]),bt hb hbr hb.size⟩
def mvGo (n:Int) (len:Nat) (ms:Jb) (i:Nat):Nat->Int
 | 0=>0
 | k+1=>if mvErr n len ms i ≠ 0 then mvErr n len ms i else mvGo n len ms (i+1) k
def stErr (n:Int) (len:Nat) (ms:Jb):Int:=if ms.length=0 then 19 else mvGo n len ms 0 ms.length
def ssGo (n:Int) (len:Nat):Jc->Int
 | []=>0
 | s::r=>if stErr n len s ≠ 0 then stErr n len s else ssGo n len r
def chkA (n:Int) (ss:Jc):Int:=
 if n < 1\/5 < n then 2 else if ss.length < 1\/256 < ss.length\/4096 < movesN ss then 5 else if ssGo n ss.length ss ≠ 0 then ssGo n ss.length ss else if growsB ss then 0 else 21
theorem mvGo_stop {n:Int}{len:Nat}{ms:Jb}{i k:Nat}{e:Int}(h:mvErr n len ms i=e) (he:e ≠ 0):mvGo n len ms i (k+1)=e:=by rw[mvGo,h,if_pos he]
theorem mvGo_step {n:Int}{len:Nat}{ms:Jb}{i k:Nat}(h:mvErr n len ms i=0):mvGo n len ms i (k+1)=mvGo n len ms (i+1) k:=by rw[mvGo,if_neg (fun q=>q h)]
theorem mvGo_zero {n:Int}{len:Nat}{ms:Jb}:∀ {k i:Nat},mvGo n len ms i k=0->∀j,i<=j->j < i+k->mvErr n len ms j=0
 | 0,i,_,j,h1,h2=>by omega
 | k+1,i,h,j,h1,h2=>by
  by_cases he:mvErr n len ms i=0
  ·rw[mvGo_step he] at h;by_cases hj:j=i
   ·subst hj;exact he
   ·exact mvGo_zero h j (by omega) (by omega)
  ·rw[mvGo_stop rfl he] at h;exact absurd h he
theorem ssGo_stop {n:Int}{len:Nat}{s:Jb}{r:Jc}{e:Int}(h:stErr n len s=e) (he:e ≠ 0):ssGo n len (s::r)=e:=by rw[ssGo,h,if_pos he]
theorem ssGo_zero {n:Int}{len:Nat}:∀ {ss:Jc},ssGo n len ss=0->∀s∈ss,stErr n len s=0
 | [],_,s,hs=>by simp at hs
 | x::r,h,s,hs=>by
  by_cases he:stErr n len x=0
  ·rw[ssGo,if_neg (fun q=>q he)] at h;rcases List.mem_cons.1 hs with rfl|hs
   ·exact he
   ·exact ssGo_zero h s hs
  ·rw[ssGo,if_pos he] at h;exact absurd h he
theorem chkSet_zero {n x:Int}(h:chkSet n x=0):(1<=n/\n<=5)/\0<=x/\x < twoI n:=by
 unfold chkSet at h;by_cases hp:procE n ≠ 0
 ·rw[if_pos hp] at h;cases h
 ·rw[if_neg hp] at h;by_cases hx:x < 0\/twoI n<=x
  ·rw[if_pos hx] at h;cases h
  ·refine⟨?_,by omega⟩;by_cases hn:n < 1\/5 < n
   ·exact absurd (show procE n ≠ 0 by rw[procE,if_pos hn];decide) hp
   ·omega
theorem twoI_le {n:Int}:twoI n<=32:=by unfold twoI;split;omega;split;omega;split;omega;split;omega;split;omega;omega
theorem chkRd_zero {r:List Int}(h:chkRd r=0):chkSet (r.getD 0 0) (r.getD 6 0)=0:=by
 unfold chkRd at h;by_cases hc:chkGr (r.getD 0 0) ((r.drop 1).take 5) ≠ 0
 ·rw[if_pos hc] at h;exact absurd h hc
 ·rwa [if_neg hc] at h
theorem mvErr_zero {n:Int}{len:Nat}{ms:Jb}{i:Nat}(h:mvErr n len ms i=0) :
  chkRd ((ms.getD i []).take 7)=0/\(ms.getD i []).getD 0 0=n/\(0 < i->cmpL ((ms.getD (i - 1) []).take 7) ((ms.getD i []).take 7) < 0)/\0<=(ms.getD i []).getD 7 0/\(ms.getD i []).getD 7 0 < (len:Int):=by
 unfold mvErr at h;by_cases h1:chkRd ((ms.getD i []).take 7) ≠ 0
 ·rw[if_pos h1] at h;exact absurd h h1
 rw[if_neg h1] at h;by_cases h2:(ms.getD i []).getD 0 0 ≠ n
 ·rw[if_pos h2] at h;cases h
 rw[if_neg h2] at h;by_cases h3:0 < i/\0<=cmpL ((ms.getD (i - 1) []).take 7) ((ms.getD i []).take 7)
 ·rw[if_pos h3] at h;cases h
 rw[if_neg h3] at h;by_cases h4:(ms.getD i []).getD 7 0 < 0\/(len:Int)<=(ms.getD i []).getD 7 0
 ·rw[if_pos h4] at h;cases h
 exact⟨Decidable.not_not.1 h1,Decidable.not_not.1 h2,fun hi=>by
  by_cases hc:0<=cmpL ((ms.getD (i - 1) []).take 7) ((ms.getD i []).take 7)
  ·exact absurd ⟨hi,hc⟩ h3
  ·omega,by omega,by omega⟩
theorem getD_take7 {x:List Int}{j:Nat}(h:j < 7):(x.take 7).getD j 0=x.getD j 0:=by
 rw[List.getD_eq_getElem?_getD,List.getD_eq_getElem?_getD,List.getElem?_take_of_lt h]
theorem stOK_of {n:Int}{ss:Jc}(h8:∀s∈ss,∀m∈s,m.length=8) (h:ssGo n ss.length ss=0):StOK ss:=by
 intro s hs m hm;have h1:=ssGo_zero h s hs;unfold stErr at h1;by_cases he:s.length=0
 ·rw[if_pos he] at h1;cases h1
 rw[if_neg he] at h1;obtain⟨j,hj,rfl⟩:=List.mem_iff_getElem.1 hm;obtain⟨c1,_,_,c4,c5⟩:=mvErr_zero (mvGo_zero h1 j (by omega) (by omega));rw[getD_eq hj] at c1 c4 c5;obtain⟨_,d1,d2⟩:=chkSet_zero (chkRd_zero c1);rw[getD_take7 (by decide)] at d1 d2;have:=twoI_le (n:=(s[j].take 7).getD 0 0)
 exact⟨h8 s hs _ hm,⟨d1,by omega⟩,c4,c5⟩
theorem AdvV.len8 {w:World}{v:Value}{n:Int}{ss:Jc}(h:AdvV w v n ss):∀s∈ss,∀m∈s,m.length=8:=by
 obtain⟨sv,_,sa,sc,sb,so,_,_,hsc,_⟩:=h;intro s hs m hm;obtain⟨j,hj,rfl⟩:=List.mem_iff_getElem.1 hs;obtain⟨u,_,hu⟩:=hsc j hj;obtain⟨_,_,_,_,_,_,hc,_⟩:=hu;obtain⟨i,hi,rfl⟩:=List.mem_iff_getElem.1 hm;have:=(hc i (by rw[getD_eq hj];exact hi)).1
 rwa [getD_eq hj,getD_eq hi] at this
theorem refCheckA {w:World}{v:Value}{n:Int}{ss:Jc}(hA:AdvV w v n ss):Calls Tryz.prog 168 #[v] w fun e w'=>e = .returned (.int .i64 (chkA n ss))/\Below w.heap.size w w':=by
 have h8:=hA.len8;have hA':=hA;obtain⟨sv,rfl,sa,sc,sb,so,rfl,hsa,hsc,hsl⟩:=hA';have hb:=(Below.refl w.heap.size w).alloc (Nat.le_refl _) (.cells #[.int .i64 n,.slice sa ss.length sc] 27);have k0:=heap_alloc_new w (.cells #[.int .i64 n,.slice sa ss.length sc] 27);have hAb:=hA.keep hb;replace hsc:=hsc.keep hb;obtain⟨W1,hW1⟩:=exF (w.alloc (.cells #[.int .i64 n,.slice sa ss.length sc] 27));obtain⟨b0,hb0⟩:=exF (w.heap.size);rw[<-hW1] at hb k0 hsc hAb;rw[<-hb0] at k0;have hb0s:=(Array.getElem?_eq_some_iff.1 k0).1;have d0:W1.cell? ⟨b0,0,none⟩=some (.int .i64 n):=box_cell k0 rfl;have d1:W1.cell? ⟨b0,1,none⟩=some (.slice sa ss.length sc):=box_cell k0 rfl;have hbB:Below b0 w W1:=hb0▸hb;replace hW1:=qH hW1;replace hb0:=qH hb0;by_cases hn:n < 1\/5 < n
 ·have hE:=qH (show chkA n ss=2 by rw[chkA,if_pos hn]);by_cases hn1:n < 1
  ·have hn1':decide (n < 1)=true:=decide_eq_true hn1;clear hsc;go_enter Tryz.func168, Tryz.ntmps168
   go_wp2;rw[<-hW1.out,<-hb0.out];clear hW1 hb0;go_wp2;go_ret;first|exact⟨ret_int hE.out.symm,hb⟩|exact⟨ret_int hE.out.symm,hbB⟩
  ·have hn1':decide (n < 1)=false:=decide_eq_false hn1;have hn5':decide (5 < n)=true:=decide_eq_true (by omega);clear hsc;go_enter Tryz.func168, Tryz.ntmps168
   go_wp2;rw[<-hW1.out,<-hb0.out];clear hW1 hb0;go_wp2;go_ret;first|exact⟨ret_int hE.out.symm,hb⟩|exact⟨ret_int hE.out.symm,hbB⟩
 ·have hn1':decide (n < 1)=false:=decide_eq_false (by omega);have hn5':decide (5 < n)=false:=decide_eq_false (by omega);by_cases hl1:ss.length < 1
  ·have hE:=qH (show chkA n ss=5 by rw[chkA,if_neg hn,if_pos (.inl hl1)]);have hl1':decide ((ss.length:Int) < 1)=true:=decide_eq_true (by omega);clear hsc;go_enter Tryz.func168, Tryz.ntmps168
   go_wp2;rw[<-hW1.out,<-hb0.out];clear hW1 hb0;go_wp2;go_ret;first|exact⟨ret_int hE.out.symm,hb⟩|exact⟨ret_int hE.out.symm,hbB⟩
  ·have hl1':decide ((ss.length:Int) < 1)=false:=decide_eq_false (by omega);by_cases hl2:256 < ss.length
   ·have hE:=qH (show chkA n ss=5 by rw[chkA,if_neg hn,if_pos (.inr (.inl hl2))]);have hl2':decide (256 < (ss.length:Int))=true:=decide_eq_true (by omega);clear hsc;go_enter Tryz.func168, Tryz.ntmps168
    go_wp2;rw[<-hW1.out,<-hb0.out];clear hW1 hb0;go_wp2;go_ret;first|exact⟨ret_int hE.out.symm,hb⟩|exact⟨ret_int hE.out.symm,hbB⟩
   ·have hl2':decide (256 < (ss.length:Int))=false:=decide_eq_false (by omega);have hl:ss.length<=256:=(by omega);have HM:=refMoves hAb hl;obtain⟨M,hM⟩:=exE (movesN ss);rw[hM] at HM;replace HM:=qH HM;by_cases hm:4096 < M
    ·have hE:=qH (show chkA n ss=5 by rw[chkA,if_neg hn,if_pos (.inr (.inr (by omega)))]);have hm':decide (4096 < (M:Int))=true:=decide_eq_true (by omega);clear hsc;go_enter Tryz.func168, Tryz.ntmps168
     go_wp2_with fail
     rw[<-hW1.out,<-hb0.out];clear hW1 hb0;go_wp2_with fail
     refine HM.out.mono ?_;rintro e w1 ⟨rfl,hb1⟩;go_wp2;go_ret;first|exact⟨ret_int hE.out.symm,bt hb hb1 hb.size⟩|exact⟨ret_int hE.out.symm,bt hbB hb1 hbB.size⟩
    ·have hm':decide (4096 < (M:Int))=false:=decide_eq_false (by omega);obtain⟨G,hG⟩:=exE (chkA n ss);rw[hG];have hG2:(if ssGo n ss.length ss ≠ 0 then ssGo n ss.length ss else if growsB ss then 0 else 21)=G:=(by rw[<-hG,chkA,if_neg hn,if_neg (show ¬(ss.length < 1\/256 < ss.length\/4096 < movesN ss) by omega)]);have hst0:ssGo n ss.length ss=0->StOK ss:=stOK_of h8;replace hst0:=qH hst0;replace hG2:=qH hG2;have hE0:Hid (ssGo n ss.length (ss.drop 0)=ssGo n ss.length ss):=rfl;clear hG;go_enter Tryz.func168, Tryz.ntmps168
     go_wp2_with fail
     rw[<-hW1.out,<-hb0.out];clear hW1 hb0;go_wp2_with fail
     refine HM.out.mono ?_;rintro e w1 ⟨rfl,hb1⟩;go_wp2;clear d0 d1;go_loopw [3] (fun sv wr=>∃s:Nat,s<=ss.length/\sv = .int .i64 s/\Hid (ssGo n ss.length (ss.drop s)=ssGo n ss.length ss)/\Below W1.heap.size W1 wr) (fun sv _=>ss.length - (intOf sv).toNat)
     case atStart=>exact⟨0,by omega,rfl,hE0,hb1⟩
     case round=>
      clear hE0 hb1;obtain⟨s,hs,rfl,hg,hbr⟩:=hrel;have k1:=(hbr.block b0 hb0s).trans k0;have d1:wr.cell? ⟨b0,1,none⟩=some (.slice sa ss.length sc):=box_cell k1 rfl;have d0:wr.cell? ⟨b0,0,none⟩=some (.int .i64 n):=box_cell k1 rfl;by_cases hlt:s < ss.length
      ·obtain rfl:=hsa (by omega);obtain⟨ms,hms⟩:=exE (ss.getD s []);obtain⟨u,hcu,hu⟩:=(hsc.keep hbr) s hlt;rw[hms] at hu;have hdr:=drop_cons hlt ([]:Jb);rw[hms] at hdr;have hu':=hu;obtain⟨ma,mc,mb,mo,rfl,hma,hmc,hml⟩:=hu';by_cases hz:ms.length=0
       ·have hz':((ms.length:Int) == 0)=true:=(by simp[hz]);have hX:ssGo n ss.length ss=19:=(by rw[<-hg.out,hdr];exact ssGo_stop (by rw[stErr,if_pos hz]) (by decide));have hE:=qH (show G=19 by rw[<-hG2.out,if_pos (by rw[hX];decide),hX]);clear hX hG2 hdr hg hma hmc hu hsc hsa hz;go_wp2;go_ret;exact⟨ret_int hE.out.symm,bt hb hbr hb.size⟩
       ·have hz':((ms.length:Int) == 0)=false:=by
         have : ¬((ms.length:Int)=0):=(by omega);exact beq_eq_false_iff_ne.2 this
        have hgm:Hid ((if mvGo n ss.length ms 0 (ms.length - 0) ≠ 0 then mvGo n ss.length ms 0 (ms.length - 0) else ssGo n ss.length (ss.drop (s+1)))=ssGo n ss.length ss):=by
         show _=_;rw[<-hg.out,hdr,ssGo,stErr,if_neg hz];rfl
        replace hdr:=qH hdr;replace hz:=qH hz;clear hg;go_wp2;clear d0 d1 k1;go_loopw [4] (fun iv wr=>∃i:Nat,i<=ms.length/\iv = .int .i64 i/\Hid ((if mvGo n ss.length ms i (ms.length - i) ≠ 0 then mvGo n ss.length ms i (ms.length - i) else ssGo n ss.length (ss.drop (s+1)))=ssGo n ss.length ss)/\Below W1.heap.size W1 wr) (fun iv _=>ms.length - (intOf iv).toNat)
        case atStart=>exact⟨0,by omega,rfl,hgm,hbr⟩
        case round=>
         clear hgm hcu hu hma hmc hml hbr hz';obtain⟨i,hi,rfl,hg,hbr⟩:=hrel;obtain⟨u,hcu,hu⟩:=(hsc.keep hbr) s hlt;rw[hms] at hu;have hu':=hu;obtain⟨ma,mc,mb,mo,rfl,hma,hmc,hml⟩:=hu';have k1:=(hbr.block b0 hb0s).trans k0;have d1:wr.cell? ⟨b0,1,none⟩=some (.slice (some ⟨sb,so,none⟩) ss.length sc):=box_cell k1 rfl;have d0:wr.cell? ⟨b0,0,none⟩=some (.int .i64 n):=box_cell k1 rfl;by_cases hlti:i < ms.length
         ·have HV:=fun W (hW:Below wr.heap.size wr W)=>refMove ((hAb.keep hbr).keep hW) (hu.keep hW) hlti hl;obtain⟨e,he⟩:=exE (mvErr n ss.length ms i);rw[he] at HV;replace HV:=qH HV;have hi1:ms.length - i=(ms.length - (i+1))+1:=(by omega);by_cases hez:e=0
          ·subst hez
           have hg2:Hid ((if mvGo n ss.length ms (i+1) (ms.length - (i+1)) ≠ 0 then mvGo n ss.length ms (i+1) (ms.length - (i+1)) else ssGo n ss.length (ss.drop (s+1)))=ssGo n ss.length ss):=by
            show _=_;rw[<-hg.out,hi1,mvGo_step he]
           clear hg he hu hma hmc hi1;go_wp2;go_still_tail 7,(by kernel_rfl)
           change wpList _ _ _ _ _ wr.drew;go_wp2_with fail
           refine(HV.out _ (Below.refl _ _).drew).mono ?_;rintro e w2 ⟨rfl,hb2⟩;replace hb2:=bt hbr (below_of_drew hb2) hbr.size;go_wp2;go_roundw
           case rel=>exact⟨i+1,by omega,by go_num,hg2,hb2⟩
           case measure=>simp[intOf];omega
          ·have hez':(e != 0)=true:=(by simpa using hez);have hX:ssGo n ss.length ss=e:=(by rw[<-hg.out,hi1,mvGo_stop he hez,if_pos hez]);have hE:=qH (show G=e by rw[<-hG2.out,if_pos (by rw[hX];exact hez),hX]);clear hg he hu hma hmc hi1 hX hG2 hez;go_wp2;go_still_tail 7,(by kernel_rfl)
           change wpList _ _ _ _ _ wr.drew;go_wp2_with fail
           refine(HV.out _ (Below.refl _ _).drew).mono ?_;rintro e w2 ⟨rfl,hb2⟩;replace hb2:=bt hbr (below_of_drew hb2) hbr.size;go_wp2;go_ret;exact⟨ret_int hE.out.symm,bt hb hb2 hb.size⟩
         ·obtain rfl:i=ms.length:=by omega
          have hg2:Hid (ssGo n ss.length (ss.drop (s+1))=ssGo n ss.length ss):=by
           show _=_;rw[<-hg.out,Nat.sub_self,mvGo,if_neg (by decide)]
          clear hg hu hma hmc;go_wp2;go_roundw
          case rel=>exact⟨s+1,by omega,by go_num,hg2,hbr⟩
          case measure=>simp[intOf];omega
      ·obtain rfl:s=ss.length:=(by omega);have hX:ssGo n ss.length ss=0:=(by rw[<-hg.out,List.drop_length,ssGo]);have HG:=fun W (hW:Below wr.heap.size wr W)=>refGrows ((hAb.keep hbr).keep hW) hl (hst0.out hX);rw[hX,if_neg (by decide)] at hG2;clear hg hX hst0 hsc hsa;obtain⟨B,hB⟩:=exE (growsB ss);rw[hB] at HG hG2;replace HG:=qH HG;clear hB;by_cases hBt:B=true
       ·subst hBt;have hE:=qH (show G=0 from hG2.out.symm);clear hG2;go_wp2_with fail
        refine(HG.out _ (Below.refl _ _)).mono ?_;rintro e w2 ⟨rfl,hb2⟩;go_wp2;go_ret;exact⟨ret_int hE.out.symm,bt hb (bt hbr hb2 hbr.size) hb.size⟩
       ·obtain rfl:=eq_false_of_ne_true hBt;have hE:=qH (show G=21 from hG2.out.symm);clear hG2;go_wp2_with fail
        refine(HG.out _ (Below.refl _ _)).mono ?_;rintro e w2 ⟨rfl,hb2⟩;go_wp2;go_ret;exact⟨ret_int hE.out.symm,bt hb (bt hbr hb2 hbr.size) hb.size⟩
theorem box2 {w:World}{b:Nat}{t:TypeId}{u0 u1:Value}(h:w.heap[b]? = some (.cells #[u0,u1] t)):w.cell? ⟨b,0,none⟩=some u0/\w.cell? ⟨b,1,none⟩=some u1:=⟨box_cell h rfl,box_cell h rfl⟩
theorem box8 {w:World}{b:Nat}{t:TypeId}{u0 u1 u2 u3 u4 u5 u6 u7:Value}(h:w.heap[b]? = some (.cells #[u0,u1,u2,u3,u4,u5,u6,u7] t)) :
  w.cell? ⟨b,0,none⟩=some u0/\w.cell? ⟨b,1,none⟩=some u1/\w.cell? ⟨b,2,none⟩=some u2/\w.cell? ⟨b,3,none⟩=some u3/\w.cell? ⟨b,4,none⟩=some u4/\w.cell? ⟨b,5,none⟩=some u5/\w.cell? ⟨b,6,none⟩=some u6/\w.cell? ⟨b,7,none⟩=some u7:=
 ⟨box_cell h rfl,box_cell h rfl,box_cell h rfl,box_cell h rfl,box_cell h rfl,box_cell h rfl,box_cell h rfl,box_cell h rfl⟩
theorem stateCall {w:World}{v mv:Value}{n:Int}{ss:Jc}{ms:Jb}(hA:AdvV w v n ss) (hM:KS 8 w mv ms) (_hl:ss.length<=256) :
  Calls Tryz.prog 218 #[v,mv] w fun e w'=>e = .returned (.int .i64 (stErr n ss.length ms))/\Below w.heap.size w w':=by
 obtain⟨sv,rfl,sa,sc,sb,so,rfl,hsa,hsc,_⟩:=hA;obtain⟨ma,mc,mb,mo,rfl,hma,hmc,hml⟩:=hM;have hb:=(Below.refl w.heap.size w).alloc (Nat.le_refl _) (.cells #[.int .i64 n,.slice sa ss.length sc] 27);have k0:=heap_alloc_new w (.cells #[.int .i64 n,.slice sa ss.length sc] 27);obtain⟨W1,hW1⟩:=exF (w.alloc (.cells #[.int .i64 n,.slice sa ss.length sc] 27));obtain⟨b0,hb0⟩:=exF (w.heap.size);rw[<-hW1] at hb k0;rw[<-hb0] at k0;have hb0s:=(Array.getElem?_eq_some_iff.1 k0).1;replace hmc:CK 8 W1 mb mo ms:=hmc.keep hb;obtain⟨G,hG⟩:=exE (stErr n ss.length ms);have hbB:Below b0 w W1:=hb0▸hb;replace hW1:=qH hW1;replace hb0:=qH hb0;clear hsa hsc;by_cases hz:ms.length=0
 ·have hz':((ms.length:Int) == 0)=true:=by simp[hz]
  have hE:=qH (show stErr n ss.length ms=19 by rw[stErr,if_pos hz]);clear hz hG;go_enter Tryz.func218, Tryz.ntmps218
  go_wp2;rw[<-hW1.out,<-hb0.out];clear hW1 hb0;go_wp2;go_ret;first|exact⟨ret_int hE.out.symm,hb⟩|exact⟨ret_int hE.out.symm,hbB⟩
 ·have hz':((ms.length:Int) == 0)=false:=by
   have : ¬((ms.length:Int)=0):=(by omega);exact beq_eq_false_iff_ne.2 this
  have hg0:Hid (mvGo n ss.length ms 0 (ms.length - 0)=G):=by show _=_;rw[<-hG,stErr,if_neg hz];rfl
  replace hG:=qH hG;clear hz;go_enter Tryz.func218, Tryz.ntmps218
  go_wp2;rw[<-hW1.out,<-hb0.out];clear hW1 hb0;go_wp2;go_loopw [13] (fun iv wr=>∃i:Nat,i<=ms.length/\iv = .int .i64 i/\Hid (mvGo n ss.length ms i (ms.length - i)=G)/\Below W1.heap.size W1 wr) (fun iv _=>ms.length - (intOf iv).toNat)
  case atStart=>exact⟨0,by omega,rfl,hg0,Below.refl _ _⟩
  case round=>
   clear hg0;obtain⟨i,hi,rfl,hg,hbr⟩:=hrel;have k1:=(hbr.block b0 hb0s).trans k0;by_cases hlt:i < ms.length
   ·obtain rfl:=hma (by omega);obtain⟨hx8,hxc⟩:=hmc i hlt;obtain⟨x,hx⟩:=exE (ms.getD i []);rw[hx] at hx8 hxc;obtain⟨y0,y1,y2,y3,y4,y5,y6,y7,rfl⟩:=eight hx8;obtain⟨c0,c1,c2,c3,c4,c5,c6,c7⟩:=(hxc.keep hbr).all8;have hi1:ms.length - i=(ms.length - (i+1))+1:=(by omega);rw[hi1] at hg;clear hx8 hxc hi1;replace hx:=qH hx;obtain⟨E,hE⟩:=exE (chkRd [y0,y1,y2,y3,y4,y5,y6]);have HC:=fun W=>roundCheck y0 y1 y2 y3 y4 y5 y6 W;rw[hE] at HC;replace HC:=qH HC;replace hE:=qH hE;obtain⟨W2,hW2⟩:=exF (wr.alloc (.cells #[.int .i64 y0,.int .i64 y1,.int .i64 y2,.int .i64 y3,.int .i64 y4,.int .i64 y5,.int .i64 y6,.int .i64 y7] 178));obtain⟨b2,hb2⟩:=exF (wr.heap.size);have hbr2:Below W1.heap.size W1 W2:=(by rw[hW2];exact hbr.alloc hbr.size _);have m0:W2.heap[b2]? = some (.cells #[.int .i64 y0,.int .i64 y1,.int .i64 y2,.int .i64 y3,.int .i64 y4,.int .i64 y5,.int .i64 y6,.int .i64 y7] 178):=(by rw[hW2,hb2];exact heap_alloc_new _ _);have hb2s:=(Array.getElem?_eq_some_iff.1 m0).1;obtain⟨p0,p1,p2,p3,p4,p5,p6,p7⟩:=box8 m0;replace hW2:=qH hW2;replace hb2:=qH hb2;go_wp2_with fail
    rw[<-hW2.out,<-hb2.out];clear hW2 hb2 c0 c1 c2 c3 c4 c5 c6 c7;go_wp2_with fail
    clear p0 p1 p2 p3 p4 p5 p6 p7;refine(HC.out _).mono ?_;rintro e w3 ⟨rfl,hb3⟩;have hbr3:=bt hbr2 hb3 hbr2.size;have k3:=(hbr3.block b0 hb0s).trans k0;have m3:=(hb3.block b2 hb2s).trans m0;have hb2s3:=(Array.getElem?_eq_some_iff.1 m3).1;obtain⟨d0,d1⟩:=box2 k3;obtain⟨p0,p1,p2,p3,p4,p5,p6,p7⟩:=box8 m3;clear k1 m0 hb2s;by_cases hz:E=0
    ·subst hz;have hz1:((0:Int) != 0)=false:=rfl;by_cases hn:y0=n
     ·have hn':(y0 != n)=false:=(by simp[hn]);replace hn:=qH hn;by_cases hi0:0 < i
      ·have hi1:decide (0 < i)=true:=decide_eq_true hi0;obtain⟨hy8,hyc⟩:=hmc (i - 1) (by omega);obtain⟨y,hy⟩:=exE (ms.getD (i - 1) []);rw[hy] at hy8 hyc;obtain⟨z0,z1,z2,z3,z4,z5,z6,z7,rfl⟩:=eight hy8;obtain⟨j,rfl⟩:∃j,i=j+1:=⟨i - 1,by omega⟩;rw[Nat.add_sub_cancel] at hyc hy;have HM:=fun W=>roundCompare z0 z1 z2 z3 z4 z5 z6 y0 y1 y2 y3 y4 y5 y6 W;obtain⟨C,hC⟩:=exE (cmpL [z0,z1,z2,z3,z4,z5,z6] [y0,y1,y2,y3,y4,y5,y6]);rw[hC] at HM;replace HM:=qH HM;replace hC:=qH hC;replace hy:=qH hy;obtain⟨e0,e1,e2,e3,e4,e5,e6,_⟩:=(hyc.keep hbr3).all8;have hwr:IntKind.i64.wrap (j:Int)=(j:Int):=IntWalk.i64_in _ (by omega);have hj0:(0:Int)<=(j:Int):=Int.natCast_nonneg _;have hj1:(j:Int) < (ms.length:Int):=by omega
       have h3:Hid (mvErr n ss.length ms (j+1)=if 0<=C then 14 else if y7 < 0\/(ss.length:Int)<=y7 then 2 else 0):=by
        show _=_;have hy':ms.getD (j+1 - 1) [] = [z0,z1,z2,z3,z4,z5,z6,z7]:=(by rw[Nat.add_sub_cancel];exact hy.out);by_cases hc0:0<=C
        ·rw[if_pos hc0];exact mvErr_3 hx.out hy' hE.out hn.out (by omega) (by show 0<=cmpL [z0,z1,z2,z3,z4,z5,z6] [y0,y1,y2,y3,y4,y5,y6];rw[hC.out];exact hc0)
        ·have hc3 : ¬(0 < j+1/\0<=cmpL ((ms.getD (j+1 - 1) []).take 7) ([y0,y1,y2,y3,y4,y5,y6,y7].take 7)):=fun k=>by
          have k2:=k.2;rw[hy'] at k2;have k3:0<=cmpL [z0,z1,z2,z3,z4,z5,z6] [y0,y1,y2,y3,y4,y5,y6]:=k2;rw[hC.out] at k3;exact hc0 k3
         rw[if_neg hc0];by_cases hc4:y7 < 0\/(ss.length:Int)<=y7
         ·rw[if_pos hc4];exact mvErr_4 hx.out hE.out hn.out hc3 hc4
         ·rw[if_neg hc4];exact mvErr_5 hx.out hE.out hn.out hc3 hc4
       clear hy8 hyc hy hC;go_wp2;go_still_tail 11,(by kernel_rfl)
       change wpList _ _ _ _ _ w3.drew;clear hwr;go_wp2_with fail
       clear p0 p1 p2 p3 p4 p5 p6 p7 e0 e1 e2 e3 e4 e5 e6;refine(HM.out _).mono ?_;rintro e w4 ⟨rfl,hb4⟩;replace hb4:=below_of_drew hb4;have hbr4:=bt hbr3 hb4 hbr3.size;have m4:=(hb4.block b2 hb2s3).trans m3;have k4:=(hbr4.block b0 hb0s).trans k0;obtain⟨_,_,_,_,_,_,_,p7⟩:=box8 m4;obtain⟨_,d1⟩:=box2 k4;clear m4 k4 m3 k3 hb4 hbr3;by_cases hc0:0<=C
       ·have hc1:decide (0<=C)=true:=decide_eq_true hc0;have hF:=qH (show stErr n ss.length ms=14 by rw[hG.out,<-hg.out,mvGo_stop (h3.out.trans (if_pos hc0)) (by decide)]);clear h3 hg hc0;go_wp2;go_ret;exact⟨ret_int hF.out.symm,bt hb hbr4 hb.size⟩
       ·have hc1:decide (0<=C)=false:=decide_eq_false hc0;by_cases q1:y7 < 0
        ·have q1':decide (y7 < 0)=true:=decide_eq_true q1;have hF:=qH (show stErr n ss.length ms=2 by rw[hG.out,<-hg.out,mvGo_stop (h3.out.trans ((if_neg hc0).trans (if_pos (.inl q1)))) (by decide)]);clear h3 hg hc0 q1;go_wp2;go_ret;exact⟨ret_int hF.out.symm,bt hb hbr4 hb.size⟩
        ·have q1':decide (y7 < 0)=false:=decide_eq_false q1;by_cases q2:(ss.length:Int)<=y7
         ·have q2':decide ((ss.length:Int)<=y7)=true:=decide_eq_true q2;have hF:=qH (show stErr n ss.length ms=2 by rw[hG.out,<-hg.out,mvGo_stop (h3.out.trans ((if_neg hc0).trans (if_pos (.inr q2)))) (by decide)]);clear h3 hg hc0 q1 q2;go_wp2;go_ret;exact⟨ret_int hF.out.symm,bt hb hbr4 hb.size⟩
         ·have q2':decide ((ss.length:Int)<=y7)=false:=decide_eq_false q2;have hF:Hid (mvGo n ss.length ms (j+1+1) (ms.length - (j+1+1))=G):=(by show _=_;rw[<-hg.out,mvGo_step (h3.out.trans ((if_neg hc0).trans (if_neg (by omega))))]);clear h3 hg hc0 q1 q2;go_wp2;go_roundw
          case rel=>exact⟨j+1+1,by omega,by go_num,hF,hbr4⟩
          case measure=>simp[intOf];omega
      ·have hi1:decide (0 < i)=false:=decide_eq_false hi0;have hc3 : ¬(0 < i/\0<=cmpL ((ms.getD (i - 1) []).take 7) ([y0,y1,y2,y3,y4,y5,y6,y7].take 7)):=fun k=>hi0 k.1
       have h3:Hid (mvErr n ss.length ms i=if y7 < 0\/(ss.length:Int)<=y7 then 2 else 0):=by
        show _=_;by_cases hc4:y7 < 0\/(ss.length:Int)<=y7
        ·rw[if_pos hc4];exact mvErr_4 hx.out hE.out hn.out hc3 hc4
        ·rw[if_neg hc4];exact mvErr_5 hx.out hE.out hn.out hc3 hc4
       clear hc3 hi0 m3 k3;go_wp2;go_quiet (fail)
       by_cases q1:y7 < 0
       ·have q1':decide (y7 < 0)=true:=decide_eq_true q1;have hF:=qH (show stErr n ss.length ms=2 by rw[hG.out,<-hg.out,mvGo_stop (h3.out.trans (if_pos (.inl q1))) (by decide)]);clear h3 hg q1;go_wp2;go_ret;exact⟨ret_int hF.out.symm,below_drewN (bt hb hbr3 hb.size) _⟩
       ·have q1':decide (y7 < 0)=false:=decide_eq_false q1;by_cases q2:(ss.length:Int)<=y7
        ·have q2':decide ((ss.length:Int)<=y7)=true:=decide_eq_true q2;have hF:=qH (show stErr n ss.length ms=2 by rw[hG.out,<-hg.out,mvGo_stop (h3.out.trans (if_pos (.inr q2))) (by decide)]);clear h3 hg q1 q2;go_wp2;go_ret;exact⟨ret_int hF.out.symm,below_drewN (bt hb hbr3 hb.size) _⟩
        ·have q2':decide ((ss.length:Int)<=y7)=false:=decide_eq_false q2;have hF:Hid (mvGo n ss.length ms (i+1) (ms.length - (i+1))=G):=(by show _=_;rw[<-hg.out,mvGo_step (h3.out.trans (if_neg (by omega)))]);clear h3 hg q1 q2;go_wp2;go_roundw
         case rel=>exact⟨i+1,by omega,by go_num,hF,below_drewN hbr3 _⟩
         case measure=>simp[intOf];omega
     ·have hn':(y0 != n)=true:=(by simpa using hn);have hF:=qH (show stErr n ss.length ms=22 by rw[hG.out,<-hg.out,mvGo_stop (mvErr_2 hx.out hE.out hn) (by decide)]);clear hg hx hE hn;go_wp2;go_ret;exact⟨ret_int hF.out.symm,bt hb hbr3 hb.size⟩
    ·have hz':(E != 0)=true:=by simpa using hz
     have hF:=qH (show stErr n ss.length ms=E by
      rw[hG.out,<-hg.out];have e1:=mvErr_1 (n:=n) (len:=ss.length) hx.out (by rw[show([y0,y1,y2,y3,y4,y5,y6,y7]:List Int).take 7 = [y0,y1,y2,y3,y4,y5,y6] from rfl,hE.out];exact hz);exact mvGo_stop (e1.trans hE.out) hz)
     clear hg hx hE hz;go_wp2;go_ret;exact⟨ret_int hF.out.symm,bt hb hbr3 hb.size⟩
   ·obtain rfl:i=ms.length:=(by omega);have hF:=qH (show stErr n ss.length ms=0 by rw[hG.out,<-hg.out,Nat.sub_self,mvGo]);clear hg;go_wp2;go_ret;exact⟨ret_int hF.out.symm,bt hb hbr hb.size⟩
end Go.Proofs.YtcnedkkcgdkioaaGreat
