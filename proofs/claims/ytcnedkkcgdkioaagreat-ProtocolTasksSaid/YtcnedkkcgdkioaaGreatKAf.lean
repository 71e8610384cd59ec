/- Texts of this claim, put together: P1 E5 E8 H0 TA H1 RQ RW TB. -/
import Derived.Test.YtcnedkkcgdkioaaGreatKAe

set_option maxRecDepth 100000
set_option maxHeartbeats 12800000
namespace Go.Proofs.YtcnedkkcgdkioaaGreat
open Go.RowKit
theorem hErr_zero {n p x:Int}(h:hErr n p x=0):0≤x∧x≤31:=by
 have hf:=(fullI_le n).2;unfold hErr at h;by_cases h1:n≤p
 ·rw[if_pos h1] at h;by_cases h2:x=0
  ·omega
  ·rw[if_neg h2] at h;cases h
 ·rw[if_neg h1] at h;by_cases h2:x < 0∨fullI n < x
  ·rw[if_pos h2] at h;cases h
  ·omega
theorem hGo_zero {n:Int}:∀ {hs:List Int}{i:Int},hGo n i hs=0→∀x∈hs,0≤x∧x≤31
 | [],_,_,x,hx=>by cases hx
 | y::r,i,h,x,hx=>by
  unfold hGo at h;by_cases he:hErr n i y=0
  ·rw[if_neg (fun k=>k he)] at h;rcases List.mem_cons.1 hx with rfl|hx
   ·exact hErr_zero he
   ·exact hGo_zero h x hx
  ·rw[if_pos he] at h;exact absurd h he
theorem chkGr_zero {n:Int}{hs:List Int}(h:chkGr n hs=0):(1≤n∧n≤5)∧∀x∈hs,0≤x∧x≤31:=by
 unfold chkGr at h;by_cases hn:n < 1∨5 < n
 ·rw[if_pos hn] at h;cases h
 ·rw[if_neg hn] at h;exact⟨by omega,hGo_zero h⟩
theorem wfR_of {r:List Int}(hl:r.length=7) (h:chkRd r=0):WfR r:=by
 obtain⟨n,h0,h1,h2,h3,h4,f,rfl⟩:=seven hl
 have hg:chkGr n [h0,h1,h2,h3,h4]=0:=by
  by_cases hc:chkGr n [h0,h1,h2,h3,h4]=0
  ·exact hc
  ·rw[chkRd_1 hc] at h;exact h
 obtain⟨hn,hh⟩:=chkGr_zero hg;obtain⟨_,hf0,hf1⟩:=chkSet_zero (chkRd_zero h);have h32:=twoI_le (n:=n);refine⟨rfl,fun x hx=>?_⟩;simp only[List.mem_cons,List.not_mem_nil,or_false] at hx;have hf0:0≤f:=hf0;have hf1:f < twoI n:=hf1;rcases hx with rfl|hx
 ·omega
 rcases hx with rfl|rfl|rfl|rfl|rfl|rfl
 ·have:=hh x (by simp);omega
 ·have:=hh x (by simp);omega
 ·have:=hh x (by simp);omega
 ·have:=hh x (by simp);omega
 ·have:=hh x (by simp);omega
 ·omega
theorem chkA_facts {n:Int}{ss:List (List (List Int))}(h:chkA n ss=0):(1≤n∧n≤5)∧(1≤ss.length∧ss.length≤256∧movesN ss≤4096)∧ssGo n ss.length ss=0∧growsB ss=true:=by
 unfold chkA at h;by_cases h1:n < 1∨5 < n
 ·rw[if_pos h1] at h;cases h
 rw[if_neg h1] at h;by_cases h2:ss.length < 1∨256 < ss.length∨4096 < movesN ss
 ·rw[if_pos h2] at h;cases h
 rw[if_neg h2] at h;by_cases h3:ssGo n ss.length ss ≠ 0
 ·rw[if_pos h3] at h;exact absurd h h3
 rw[if_neg h3] at h;by_cases h4:growsB ss=true
 ·exact⟨by omega,by omega,Decidable.not_not.1 h3,h4⟩
 ·rw[if_neg h4] at h;cases h
theorem clsOK_of {n:Int}{ss:List (List (List Int))}(h8:∀s∈ss,∀m∈s,m.length=8) (h:chkA n ss=0) (hl:ss.length≤90) (hm:movesN ss≤90):ClsOK ss:=by
 obtain⟨_,⟨h1,_,_⟩,h3,_⟩:=chkA_facts h;refine⟨hl,hm,h1,fun s hs=>?_⟩;have h4:=ssGo_zero h3 s hs;unfold stErr at h4;by_cases he:s.length=0
 ·rw[if_pos he] at h4;cases h4
 rw[if_neg he] at h4;refine⟨by omega,fun m hmm=>?_⟩;obtain⟨j,hj,rfl⟩:=List.mem_iff_getElem.1 hmm;obtain⟨c1,_,_,c4,c5⟩:=mvErr_zero (mvGo_zero h4 j (by omega) (by omega));rw[getD_eq hj] at c1 c4 c5;have hl8:=h8 s hs _ hmm;exact⟨wfR_of (by rw[rdOf,List.length_take,hl8];rfl) c1,hl8,c4,c5⟩
end Go.Proofs.YtcnedkkcgdkioaaGreat
namespace Go.Proofs.YtcnedkkcgdkioaaGreat
open Go.RowKit Go.ChangeMaps Go.MapKept
theorem boxAdv {w:World}{n:Int}{a:Option Addr}{l c:Nat}{w1:World}(hw:w1=w.alloc (.cells #[.int .i64 n,.slice a l c] 27)) :
  Below w.heap.size w w1∧w1.cell? ⟨w.heap.size,0,none⟩=some (.int .i64 n)∧w1.cell? ⟨w.heap.size,1,none⟩=some (.slice a l c)∧w1.heap[w.heap.size]? = some (.cells #[.int .i64 n,.slice a l c] 27):=by
 have h:=heap_alloc_new w (.cells #[.int .i64 n,.slice a l c] 27);rw[←hw] at h;refine⟨by rw[hw];exact(Below.refl _ w).alloc (Nat.le_refl _) _,?_,?_,h⟩
 ·rw[cell_of_row _ _ 0 _ _ _ h];rfl
 ·rw[cell_of_row _ _ 1 _ _ _ h];rfl
end Go.Proofs.YtcnedkkcgdkioaaGreat
namespace Go.Proofs.YtcnedkkcgdkioaaGreat
open Go.RowKit
def LeadOK (ss:List (List (List Int))):Prop:=∀s∈ss,∀m∈s,0≤m.getD 7 0∧m.getD 7 0 < (ss.length:Int)
theorem advShape' {w:World}{v:Value}{n:Int}{ss:List (List (List Int))}(h:AdvV w v n ss):∃a c,v = .agg #[.int .i64 n,.slice a ss.length c]:=by
 obtain⟨sv,rfl,hK⟩:=h;obtain⟨a,c,rfl⟩:=hK.shape;exact⟨a,c,rfl⟩
end Go.Proofs.YtcnedkkcgdkioaaGreat
namespace Go.Proofs.YtcnedkkcgdkioaaGreat
theorem cmpL_cons (a b:Int) (xs ys:List Int):cmpL (a::xs) (b::ys) < 0↔a < b∨(a=b∧cmpL xs ys < 0):=by
 simp only[cmpL,cmpI];by_cases h1:a < b
 ·simp[h1]
 ·by_cases h2:b < a
  ·simp[h1,h2,show a ≠ b by omega]
  ·obtain rfl:a=b:=(by omega);simp
theorem cmpL_nil_cons (b:Int) (ys:List Int):cmpL [] (b::ys) < 0:=by simp[cmpL]
theorem cmpL_any_nil:∀xs:List Int,¬cmpL xs [] < 0
 | []=>by simp[cmpL]
 | _::_=>by simp[cmpL]
theorem cmpL_asymm:∀a b:List Int,cmpL a b < 0→¬cmpL b a < 0
 | xs,[],h=>absurd h (cmpL_any_nil xs)
 | [],_::_,_=>cmpL_any_nil _
 | a::xs,b::ys,h=>by
  rw[cmpL_cons] at h⊢;rintro(h2|⟨h2,h3⟩)
  ·rcases h with h|⟨h,_⟩<;>omega
  ·rcases h with h|⟨_,h⟩
   ·omega
   ·exact cmpL_asymm xs ys h h3
theorem cmpL_trans:∀a b c:List Int,cmpL a b < 0→cmpL b c < 0→cmpL a c < 0
 | xs,[],_,h,_=>absurd h (cmpL_any_nil xs)
 | _,ys,[],_,h=>absurd h (cmpL_any_nil ys)
 | [],_::_,c::zs,_,_=>cmpL_nil_cons c zs
 | a::xs,b::ys,c::zs,h,k=>by
  rw[cmpL_cons] at h k⊢;rcases h with h|⟨rfl,h⟩<;>rcases k with k|⟨rfl,k⟩
  ·left;omega
  ·exact .inl h
  ·exact .inl k
  ·exact .inr ⟨rfl,cmpL_trans xs ys zs h k⟩
theorem cmpL_total:∀a b:List Int,cmpL a b < 0∨a=b∨cmpL b a < 0
 | [],[]=>.inr (.inl rfl)
 | [],b::ys=>.inl (cmpL_nil_cons b ys)
 | a::xs,[]=>.inr (.inr (cmpL_nil_cons a xs))
 | a::xs,b::ys=>by
  rw[cmpL_cons,cmpL_cons];rcases Int.lt_trichotomy a b with h|rfl|h
  ·exact .inl (.inl h)
  ·rcases cmpL_total xs ys with h|rfl|h
   ·exact .inl (.inr ⟨rfl,h⟩)
   ·exact .inr (.inl rfl)
   ·exact .inr (.inr (.inr ⟨rfl,h⟩))
  ·exact .inr (.inr (.inl h))
theorem cmpL_ntrans (a b c:List Int) (h : ¬cmpL a b < 0) (k : ¬cmpL b c < 0) : ¬cmpL a c < 0:=by
 intro hc;rcases cmpL_total a b with h1|rfl|h1
 ·exact h h1
 ·exact k hc
 ·exact k (cmpL_trans b a c h1 hc)
theorem sorted_unique {α:Type}{lt:α→α→Prop}(has:∀a b,lt a b→¬lt b a):∀ {l1 l2:List α},l1.Pairwise lt→l2.Pairwise lt→(∀x,x∈l1↔x∈l2)→l1=l2
 | [],[],_,_,_=>rfl
 | [],b::t2,_,_,h=>absurd ((h b).2 (List.mem_cons_self ..)) (by simp)
 | a::t1,[],_,_,h=>absurd ((h a).1 (List.mem_cons_self ..)) (by simp)
 | a::t1,b::t2,h1,h2,h=>by
  rw[List.pairwise_cons] at h1 h2
  have hab:a=b:=by
   rcases List.mem_cons.1 ((h a).1 (List.mem_cons_self ..)) with h3|h3
   ·exact h3
   ·rcases List.mem_cons.1 ((h b).2 (List.mem_cons_self ..)) with h4|h4
    ·exact h4.symm
    ·exact absurd (h2.1 a h3) (has _ _ (h1.1 b h4))
  subst hab;rw[sorted_unique has h1.2 h2.2 fun x=>⟨fun hx=>?_,fun hx=>?_⟩]
  ·rcases List.mem_cons.1 ((h x).1 (List.mem_cons_of_mem _ hx)) with h3|h3
   ·subst h3;exact absurd (h1.1 x hx) (fun h=>has _ _ h h)
   ·exact h3
  ·rcases List.mem_cons.1 ((h x).2 (List.mem_cons_of_mem _ hx)) with h3|h3
   ·subst h3;exact absurd (h2.1 x hx) (fun h=>has _ _ h h)
   ·exact h3
def AscL (l:List (List Int)):Prop:=l.Pairwise fun a b=>cmpL a b < 0
end Go.Proofs.YtcnedkkcgdkioaaGreat
namespace Go.Proofs.YtcnedkkcgdkioaaGreat
open Go.RowKit
abbrev Cs:=List Int × List (List Int) × List (List Int)
def csNil:Cs:=([],[],[])
def vecE (v:List Int) (n most:Int):Int:=if (v.length:Int) ≠ n then 15 else if ∃x∈v,x < 0∨most≤x then 2 else 0
def outE (n most:Int) (l:List (List Int)) (k:Nat):Int:=
 if vecE (l.getD k []) n most ≠ 0 then vecE (l.getD k []) n most else if 0 < k∧0≤cmpL (l.getD (k - 1) []) (l.getD k []) then 14 else 0
def calmE (outs l:List (List Int)) (k:Nat):Int:=
 if l.getD k [] ∉ outs then 6 else if 0 < k∧0≤cmpL (l.getD (k - 1) []) (l.getD k []) then 14 else 0
def firstE (f:Nat→Int):Nat→Nat→Int
 | 0,_=>0
 | m+1,k=>if f k ≠ 0 then f k else firstE f m (k+1)
def outsE (n most:Int) (c:Cs):Int:=
 if c.2.1.length < 1∨1024 < c.2.1.length then 5 else
  if firstE (outE n most c.2.1) c.2.1.length 0 ≠ 0 then firstE (outE n most c.2.1) c.2.1.length 0 else firstE (calmE c.2.1 c.2.2) c.2.2.length 0
def caseE (n ins outs:Int) (cs:List Cs) (k:Nat):Int:=
 if vecE (cs.getD k csNil).1 n ins ≠ 0 then vecE (cs.getD k csNil).1 n ins else
  if 0 < k∧0≤cmpL (cs.getD (k - 1) csNil).1 (cs.getD k csNil).1 then 14 else outsE n outs (cs.getD k csNil)
def chkT (n ins outs:Int) (cs:List Cs):Int:=
 if (n < 1∨5 < n)∨(ins < 1∨8 < ins)∨(outs < 1∨8 < outs) then 2 else
  if cs.length < 1∨1024 < cs.length then 5 else firstE (caseE n ins outs cs) cs.length 0
theorem firstE_zero {f:Nat→Int}:∀(m k:Nat),firstE f m k=0↔∀j,k≤j→j < k+m→f j=0
 | 0,k=>⟨fun _ j h1 h2=>absurd h2 (by omega),fun _=>rfl⟩
 | m+1,k=>by
  rw[firstE];by_cases h:f k=0
  ·rw[if_neg (fun g=>g h),firstE_zero m (k+1)];refine⟨fun g j h1 h2=>?_,fun g j h1 h2=>g j (by omega) (by omega)⟩;by_cases e:j=k
   ·rw[e];exact h
   ·exact g j (by omega) (by omega)
  ·rw[if_pos h];exact⟨fun g=>absurd g h,fun g=>absurd (g k (Nat.le_refl _) (by omega)) h⟩
def CsC (w:World) (b off:Nat) (cs:List Cs):Prop:=
 ∀j,j < cs.length→∃u0 u1 u2,w.cell? ⟨b,off+j * 3,none⟩=some u0∧w.cell? ⟨b,off+j * 3+1,none⟩=some u1∧w.cell? ⟨b,off+j * 3+2,none⟩=some u2∧
  Ints w u0 (cs.getD j csNil).1∧Intss w u1 (cs.getD j csNil).2.1∧Intss w u2 (cs.getD j csNil).2.2
theorem CsC.keep {w w':World}{b off:Nat}{cs:List Cs}(h:CsC w b off cs) (hb:Below w.heap.size w w'):CsC w' b off cs:=fun j hj=>by
 obtain⟨u0,u1,u2,h1,h2,h3,h4,h5,h6⟩:=h j hj;exact⟨u0,u1,u2,cell_kept hb h1,cell_kept hb h2,cell_kept hb h3,h4.keep hb,h5.keep hb,h6.keep hb⟩
def CsS (w:World) (v:Value) (cs:List Cs):Prop:=
 ∃a c b off,v = .slice a cs.length c∧(0 < cs.length→a=some ⟨b,off,none⟩)∧CsC w b off cs∧cs.length≤1954687338268
theorem CsS.keep {w w':World}{v:Value}{cs:List Cs}(h:CsS w v cs) (hb:Below w.heap.size w w'):CsS w' v cs:=by
 obtain⟨a,c,b,off,h1,h2,h3,h4⟩:=h;exact⟨a,c,b,off,h1,h2,h3.keep hb,h4⟩
theorem CsS.shape {w:World}{v:Value}{cs:List Cs}(h:CsS w v cs):∃a c,v = .slice a cs.length c:=by
 obtain⟨a,c,_,_,h1,_⟩:=h;exact⟨a,c,h1⟩
def TaskV (w:World) (v:Value) (n ins outs:Int) (cs:List Cs):Prop:=∃sv,v = .agg #[.int .i64 n,.int .i64 ins,.int .i64 outs,sv]∧CsS w sv cs
theorem TaskV.keep {w w':World}{v:Value}{n i o:Int}{cs:List Cs}(h:TaskV w v n i o cs) (hb:Below w.heap.size w w'):TaskV w' v n i o cs:=by
 obtain⟨sv,h1,h2⟩:=h;exact⟨sv,h1,h2.keep hb⟩
theorem eqInts {w:World}{u v:Value}{xs ys:List Int}(hx:Ints w u xs) (hy:Ints w v ys) :
  Calls Tryz.prog 18 #[u,v] w fun e w'=>e = .returned (.bool (decide (xs=ys)))∧Qt w w':=by
 obtain⟨xa,xc,xb,xo,rfl,hxa,hxc,_⟩:=hx;obtain⟨ya,yc,yb,yo,rfl,hya,hyc,_⟩:=hy;obtain⟨B,hB⟩:∃B,decide (xs=ys)=B:=⟨_,rfl⟩;rw[hB];replace hB:=qH hB;replace hxc:=qH hxc;replace hyc:=qH hyc;by_cases hlen:xs.length=ys.length
 ·rw[←hlen];replace hlen:=qH hlen;have h0:Hid (xs.take 0=ys.take 0):=rfl;go_enter Tryz.func18, Tryz.ntmps18
  go_wp2;go_loopw [13] (fun iv wr=>∃i:Nat,iv = .int .i64 i∧i≤xs.length∧Hid (xs.take i=ys.take i)∧Qt w wr) (fun iv _=>xs.length - (intOf iv).toNat)
  case atStart=>exact⟨0,rfl,by omega,h0,Qt.refl w⟩
  case round=>
   clear h0;obtain⟨i,rfl,hi,ht,n,rfl⟩:=hrel;by_cases hlt:i < xs.length
   ·obtain rfl:=hxa (by omega);obtain rfl:=hya (by rw[←hlen.out];omega);have hlt':i < ys.length:=(by rw[←hlen.out];exact hlt);have hxi:=hxc.out i hlt;have hyi:=hyc.out i hlt';obtain⟨x,hx⟩:=exE (xs.getD i 0);obtain⟨y,hy⟩:=exE (ys.getD i 0);rw[hx] at hxi;rw[hy] at hyi;by_cases he:x=y
    ·subst he;have ht2:Hid (xs.take (i+1)=ys.take (i+1)):=takes_next ht.out hlt hlt' (by rw[hx,hy]);clear hx hy ht;go_wp2;go_quiet (fail)
     go_wp2;go_roundw
     case rel=>exact⟨i+1,by go_num,hlt,ht2,by first|exact(Qt.mk' w n).step nq|exact Qt.mk' w _⟩
     case measure=>simp[intOf];omega
    ·have hE:(x == y)=false:=by simp[he]
     have hBf:Hid (B=false):=by
      show _=_;rw[←hB.out];refine decide_eq_false fun h=>he ?_;rw[←hx,←hy,h]
     clear hx hy he ht;go_wp2;go_quiet (fail)
     go_wp2;go_ret;exact⟨by rw[hBf.out];rfl,by first|exact(Qt.mk' w n).step nq|exact Qt.mk' w _⟩
   ·have hBt:Hid (B=true):=by
     show _=_;rw[←hB.out];exact decide_eq_true (takes_all ht.out (by omega) (by rw[←hlen.out];omega))
    clear ht;go_wp2;go_ret;exact⟨by rw[hBt.out];rfl,Qt.mk' w n⟩
 ·have hBf:B=false:=by rw[←hB.out];exact decide_eq_false fun h=>hlen (by rw[h])
  subst hBf;have h1:((xs.length:Int) == (ys.length:Int))=false:=by simp;omega
  go_enter Tryz.func18, Tryz.ntmps18
  go_wp2;go_ret;exact⟨rfl,Qt.refl w⟩
theorem sameRds {w:World}{u v:Value}{xs ys:List (List Int)}(hx:KS 7 w u xs) (hy:KS 7 w v ys) :
  Calls Tryz.prog 214 #[u,v] w fun e w'=>e = .returned (.bool (decide (xs=ys)))∧Qt w w':=by
 obtain⟨xa,xc,xb,xo,rfl,hxa,hxc,_⟩:=hx;obtain⟨ya,yc,yb,yo,rfl,hya,hyc,_⟩:=hy;obtain⟨B,hB⟩:∃B,decide (xs=ys)=B:=⟨_,rfl⟩;rw[hB];replace hB:=qH hB;replace hxc:=qH hxc;replace hyc:=qH hyc;by_cases hlen:xs.length=ys.length
 ·rw[←hlen];replace hlen:=qH hlen;have h0:Hid (xs.take 0=ys.take 0):=rfl;go_enter Tryz.func214, Tryz.ntmps214
  go_wp2;go_loopw [5] (fun iv wr=>∃i:Nat,iv = .int .i64 i∧i≤xs.length∧Hid (xs.take i=ys.take i)∧Qt w wr) (fun iv _=>xs.length - (intOf iv).toNat)
  case atStart=>exact⟨0,rfl,by omega,h0,Qt.refl w⟩
  case round=>
   clear h0;obtain⟨i,rfl,hi,ht,n,rfl⟩:=hrel;by_cases hlt:i < xs.length
   ·obtain rfl:=hxa (by omega);obtain rfl:=hya (by rw[←hlen.out];omega);have hlt':i < ys.length:=(by rw[←hlen.out];exact hlt);obtain⟨hx8,hxi⟩:=hxc.out i hlt;obtain⟨hy8,hyi⟩:=hyc.out i hlt';obtain⟨x,hx⟩:=exE (xs.getD i []);obtain⟨y,hy⟩:=exE (ys.getD i []);rw[hx] at hx8 hxi;rw[hy] at hy8 hyi;obtain⟨x0,x1,x2,x3,x4,x5,x6,rfl⟩:=seven hx8;obtain⟨y0,y1,y2,y3,y4,y5,y6,rfl⟩:=seven hy8;obtain⟨c0,c1,c2,c3,c4,c5,c6⟩:=hxi.all7;obtain⟨d0,d1,d2,d3,d4,d5,d6⟩:=hyi.all7;clear hxi hyi hx8 hy8;by_cases he : [x0,x1,x2,x3,x4,x5,x6] = [y0,y1,y2,y3,y4,y5,y6]
    ·have hE:eqL [x0,x1,x2,x3,x4,x5,x6] [y0,y1,y2,y3,y4,y5,y6]=true:=eqL_true.2 he;have ht2:Hid (xs.take (i+1)=ys.take (i+1)):=takes_next ht.out hlt hlt' (by rw[hx,hy,he]);clear hx hy he ht;go_wp2;go_quiet (fail)
     go_wp2;go_roundw
     case rel=>exact⟨i+1,by go_num,hlt,ht2,by first|exact(Qt.mk' w n).step nq|exact Qt.mk' w _⟩
     case measure=>simp[intOf];omega
    ·have hE:eqL [x0,x1,x2,x3,x4,x5,x6] [y0,y1,y2,y3,y4,y5,y6]=false:=eqL_false.2 he
     have hBf:Hid (B=false):=by
      show _=_;rw[←hB.out];refine decide_eq_false fun h=>he ?_;rw[←hx,←hy,h]
     clear hx hy he ht;go_wp2;go_quiet (fail)
     go_wp2;go_ret;exact⟨by rw[hBf.out];rfl,by first|exact(Qt.mk' w n).step nq|exact Qt.mk' w _⟩
   ·have hBt:Hid (B=true):=by
     show _=_;rw[←hB.out];exact decide_eq_true (takes_all ht.out (by omega) (by rw[←hlen.out];omega))
    clear ht;go_wp2;go_ret;exact⟨by rw[hBt.out];rfl,Qt.mk' w n⟩
 ·have hBf:B=false:=by rw[←hB.out];exact decide_eq_false fun h=>hlen (by rw[h])
  subst hBf;have h1:((xs.length:Int) == (ys.length:Int))=false:=by simp;omega
  go_enter Tryz.func214, Tryz.ntmps214
  go_wp2;go_ret;exact⟨rfl,Qt.refl w⟩
theorem eqRds {w:World}{u v:Value}{xs ys:List (List Int)}(hx:KS 7 w u xs) (hy:KS 7 w v ys) :
  Calls Tryz.prog 174 #[u,v] w fun e w'=>e = .returned (.bool (decide (xs=ys)))∧Qt w w':=by
 obtain⟨xa,xc,xb,xo,rfl,hxa,hxc,_⟩:=hx;obtain⟨ya,yc,yb,yo,rfl,hya,hyc,_⟩:=hy;obtain⟨B,hB⟩:∃B,decide (xs=ys)=B:=⟨_,rfl⟩;rw[hB];replace hB:=qH hB;replace hxc:=qH hxc;replace hyc:=qH hyc;by_cases hlen:xs.length=ys.length
 ·rw[←hlen];replace hlen:=qH hlen;have h0:Hid (xs.take 0=ys.take 0):=rfl;go_enter Tryz.func174, Tryz.ntmps174
  go_wp2;go_loopw [13] (fun iv wr=>∃i:Nat,iv = .int .i64 i∧i≤xs.length∧Hid (xs.take i=ys.take i)∧Qt w wr) (fun iv _=>xs.length - (intOf iv).toNat)
  case atStart=>exact⟨0,rfl,by omega,h0,Qt.refl w⟩
  case round=>
   clear h0;obtain⟨i,rfl,hi,ht,n,rfl⟩:=hrel;by_cases hlt:i < xs.length
   ·obtain rfl:=hxa (by omega);obtain rfl:=hya (by rw[←hlen.out];omega);have hlt':i < ys.length:=(by rw[←hlen.out];exact hlt);obtain⟨hx8,hxi⟩:=hxc.out i hlt;obtain⟨hy8,hyi⟩:=hyc.out i hlt';obtain⟨x,hx⟩:=exE (xs.getD i []);obtain⟨y,hy⟩:=exE (ys.getD i []);rw[hx] at hx8 hxi;rw[hy] at hy8 hyi;obtain⟨x0,x1,x2,x3,x4,x5,x6,rfl⟩:=seven hx8;obtain⟨y0,y1,y2,y3,y4,y5,y6,rfl⟩:=seven hy8;obtain⟨c0,c1,c2,c3,c4,c5,c6⟩:=hxi.all7;obtain⟨d0,d1,d2,d3,d4,d5,d6⟩:=hyi.all7;clear hxi hyi hx8 hy8;by_cases he : [x0,x1,x2,x3,x4,x5,x6] = [y0,y1,y2,y3,y4,y5,y6]
    ·have hE:eqL [x0,x1,x2,x3,x4,x5,x6] [y0,y1,y2,y3,y4,y5,y6]=true:=eqL_true.2 he;have ht2:Hid (xs.take (i+1)=ys.take (i+1)):=takes_next ht.out hlt hlt' (by rw[hx,hy,he]);clear hx hy he ht;go_wp2;go_quiet (fail)
     go_wp2;go_roundw
     case rel=>exact⟨i+1,by go_num,hlt,ht2,by first|exact(Qt.mk' w n).step nq|exact Qt.mk' w _⟩
     case measure=>simp[intOf];omega
    ·have hE:eqL [x0,x1,x2,x3,x4,x5,x6] [y0,y1,y2,y3,y4,y5,y6]=false:=eqL_false.2 he
     have hBf:Hid (B=false):=by
      show _=_;rw[←hB.out];refine decide_eq_false fun h=>he ?_;rw[←hx,←hy,h]
     clear hx hy he ht;go_wp2;go_quiet (fail)
     go_wp2;go_ret;exact⟨by rw[hBf.out];rfl,by first|exact(Qt.mk' w n).step nq|exact Qt.mk' w _⟩
   ·have hBt:Hid (B=true):=by
     show _=_;rw[←hB.out];exact decide_eq_true (takes_all ht.out (by omega) (by rw[←hlen.out];omega))
    clear ht;go_wp2;go_ret;exact⟨by rw[hBt.out];rfl,Qt.mk' w n⟩
 ·have hBf:B=false:=by rw[←hB.out];exact decide_eq_false fun h=>hlen (by rw[h])
  subst hBf;have h1:((xs.length:Int) == (ys.length:Int))=false:=by simp;omega
  go_enter Tryz.func174, Tryz.ntmps174
  go_wp2;go_ret;exact⟨rfl,Qt.refl w⟩
theorem wp_region_ball {P:Program}{id:Nat}{Q:Exit→Act→World→Prop}{a:Act}{w:World}{l:List Oper}(hm:P.follows .mixedOrders=true) (hB:Region.lexB .any l.toArray=true)
  (h:wpQuiet P l.toArray (Below w.heap.size w) (fun a'=>∀w',Below w.heap.size w w'→Q .normal a' w') l a) :
  (Code.region id l.toArray true).wp P Q a w:=
 wp_region_quiet (C:=Below w.heap.size w) hm hB (below_drewN (Below.refl _ w) 1) (by simpa using h)
structure WQ (P:Program) (ops:Array Oper) (C:World→Prop) (Q:Act→Prop) (l:List Oper) (a:Act):Prop where
 out:wpQuiet P ops C Q l a
theorem WQ.nil {P:Program}{ops:Array Oper}{C:World→Prop}{Q:Act→Prop}{a:Act}(h:Q a):WQ P ops C Q [] a:=⟨wpQuiet_nil h⟩
theorem WQ.step {P:Program}{ops:Array Oper}{C:World→Prop}{Q:Act→Prop}{a:Act}{o:Oper}{rest:List Oper}
  (h:∀K:Act→Prop,(∀a,WQ P ops C Q rest a→K a)→if Region.wanted o (yielded ops a.tmps) then o.quiet P a C K else K (a.put o.dst undef)):WQ P ops C Q (o::rest) a:=
 ⟨wpQuiet_step fun K hK=>h K fun a hq=>hK a hq.out⟩
theorem wp_region_bw {P:Program}{id:Nat}{Q:Exit→Act→World→Prop}{a:Act}{w:World}{l:List Oper}(hm:P.follows .mixedOrders=true) (hB:Region.lexB .any l.toArray=true)
  (h:WQ P l.toArray (Below w.heap.size w) (fun a'=>∀w',Below w.heap.size w w'→Q .normal a' w') l a) :
  (Code.region id l.toArray true).wp P Q a w:=wp_region_ball hm hB h.out
theorem dropEnd {xs:List Int}{i:Nat}(h:xs.length≤i):xs.drop i = []:=List.drop_eq_nil_of_le h
theorem drop_cons0 {xs:List Int}{i:Nat}{x:Int}(h:i < xs.length) (hx:xs.getD i 0=x):xs.drop i=x::xs.drop (i+1):=by
 rw[List.drop_eq_getElem_cons h,←hx,getD_eq h]
theorem cmpIntsC {w:World}{u v:Value}{xs ys:List Int}(hx:Ints w u xs) (hy:Ints w v ys) :
  Calls Tryz.prog 138 #[u,v] w fun e w'=>e = .returned (.int .i64 (cmpL xs ys))∧w'=w:=by
 obtain⟨xa,xc,xb,xo,rfl,hxa,hxc,hxl⟩:=hx;obtain⟨ya,yc,yb,yo,rfl,hya,hyc,hyl⟩:=hy;obtain⟨E,hE⟩:=exE (cmpL xs ys);rw[hE];have h0:Hid (cmpL (xs.drop 0) (ys.drop 0)=E):=hE;replace hxc:=qH hxc;replace hyc:=qH hyc;clear hE;go_enter Tryz.func138, Tryz.ntmps138
 go_wp2_with fail
 go_loopw [11] (fun iv wr=>∃i:Nat,iv = .int .i64 i∧i≤xs.length∧i≤ys.length∧Hid (cmpL (xs.drop i) (ys.drop i)=E)∧wr=w) (fun iv _=>xs.length - (intOf iv).toNat)
 case atStart=>exact⟨0,rfl,by omega,by omega,h0,rfl⟩
 case round=>
  clear h0;obtain⟨i,rfl,hi,hj,ht,rfl⟩:=hrel;by_cases hlt:i < xs.length
  ·obtain rfl:=hxa (by omega);have hxi:=hxc.out i hlt;obtain⟨x,hx⟩:=exE (xs.getD i 0);rw[hx] at hxi;by_cases hlu:i < ys.length
   ·obtain rfl:=hya (by omega);have hyi:=hyc.out i hlu;obtain⟨y,hy⟩:=exE (ys.getD i 0);rw[hy] at hyi;have ht2:=ht.out;rw[drop_cons0 hlt hx,drop_cons0 hlu hy] at ht2;have HC:=cmpInt x y wr;have hge : ¬ys.length≤i:=(by omega);clear hx hy ht;by_cases hz:cmpI x y=0
    ·rw[cmpL_hd hz] at ht2;rw[hz] at HC;replace ht2:=qH ht2;replace HC:=qH HC;clear hz;go_wp2_with fail
     refine HC.out.mono ?_;rintro e w' ⟨rfl,rfl⟩;go_wp2_with fail
     go_roundw
     case rel=>exact⟨i+1,by go_num,hlt,hlu,ht2,by first|rfl|trivial⟩
     case measure=>simp[intOf];omega
    ·rw[cmpL_ne hz] at ht2;obtain⟨z,hzz⟩:=exE (cmpI x y);rw[hzz] at HC ht2 hz;replace ht2:=qH ht2;replace HC:=qH HC;have hz1:(z != 0)=true:=(by simpa using hz);clear hzz;go_wp2_with fail
     refine HC.out.mono ?_;rintro e w' ⟨rfl,rfl⟩;go_wp2_with fail
     go_ret;exact⟨ret_int ht2.out,rfl⟩
   ·have hE:Hid ((1:Int)=E):=by
     have:=ht.out
     rw[drop_cons0 hlt hx,dropEnd (xs:=ys) (by omega)] at this;exact this
    have hge:ys.length≤i:=(by omega);clear ht hx;go_wp2_with fail
    go_ret;exact⟨ret_int hE.out,rfl⟩
  ·by_cases hlu:xs.length < ys.length
   ·have hE:Hid ((-1:Int)=E):=by
     have:=ht.out
     rw[dropEnd (xs:=xs) (by omega),drop_cons0 (xs:=ys) (x:=ys.getD i 0) (by omega) rfl] at this;exact this
    clear ht;go_wp2_with fail
    go_ret;exact⟨ret_int hE.out,rfl⟩
   ·have hE:Hid ((0:Int)=E):=by
     have:=ht.out
     rw[dropEnd (xs:=xs) (by omega),dropEnd (xs:=ys) (by omega)] at this;exact this
    clear ht;go_wp2_with fail
    go_ret;exact⟨ret_int hE.out,rfl⟩
def outR (most x:Int):Bool:=decide (x < 0∨most≤x)
theorem vecOne {w:World}{b:Nat}{x most:Int}(h:w.cell? ⟨b,0,none⟩=some (.int .i64 most)) :
  Calls Tryz.prog 191 #[.int .i64 x,.pointer (some ⟨b,0,none⟩)] w fun e w'=>e = .returned (.bool (outR most x))∧w'=w:=by
 by_cases h1:x < 0
 ·have hr:outR most x=true:=decide_eq_true (.inl h1);rw[hr];have d1:decide (x < 0)=true:=decide_eq_true h1;go_enter Tryz.func191, Tryz.ntmps191
  go_wp2;go_ret;exact⟨rfl,rfl⟩
 ·have d1:decide (x < 0)=false:=decide_eq_false h1;have hr:outR most x=decide (most≤x):=by unfold outR;simp[h1]
  rw[hr];obtain⟨B,hB⟩:=exE (decide (most≤x));rw[hB];clear hr h1;go_enter Tryz.func191, Tryz.ntmps191
  go_wp2;go_ret;exact⟨by first|rfl|(rw[←hB];rfl)|simp[←hB],rfl⟩
theorem vecIndex {w:World}{b:Nat}{u:Value}{xs:List Int}{most:Int}(hx:Ints w u xs) (h:w.cell? ⟨b,0,none⟩=some (.int .i64 most)) :
  Calls Tryz.prog 201 #[u,.func (.func 191) #[] #[.pointer (some ⟨b,0,none⟩)]] w fun e w'=>∃z:Int,e = .returned (.int .i64 z)∧decide (0≤z)=xs.any (outR most)∧w'=w:=by
 obtain⟨xa,xc,xb,xo,rfl,hxa,hxc,hxl⟩:=hx;obtain⟨A,hA⟩:=exE (xs.any (outR most));rw[hA];have h0:Hid ((xs.drop 0).any (outR most)=A):=hA;replace hxc:=qH hxc;have HC:=qH (fun x=>vecOne (x:=x) h);clear hA h;go_enter Tryz.func201, Tryz.ntmps201
 go_wp2_with fail
 go_loopw [8] (fun iv wr=>∃i:Nat,iv = .int .i64 i∧i≤xs.length∧Hid ((xs.drop i).any (outR most)=A)∧wr=w) (fun iv _=>xs.length - (intOf iv).toNat)
 case atStart=>exact⟨0,rfl,by omega,h0,rfl⟩
 case round=>
  clear h0;obtain⟨i,rfl,hi,ht,rfl⟩:=hrel;by_cases hlt:i < xs.length
  ·obtain rfl:=hxa (by omega);have hxi:=hxc.out i hlt;obtain⟨x,hx⟩:=exE (xs.getD i 0);rw[hx] at hxi;have ht2:=ht.out;rw[drop_cons0 hlt hx,List.any_cons] at ht2;have H1:=HC.out x;obtain⟨B,hB⟩:=exE (outR most x);rw[hB] at H1 ht2;replace H1:=qH H1;clear hx ht hB;cases B
   ·rw[Bool.false_or] at ht2;replace ht2:=qH ht2;go_wp2_with fail
    refine H1.out.mono ?_;rintro e w' ⟨rfl,rfl⟩;go_wp2_with fail
    go_roundw
    case rel=>exact⟨i+1,by go_num,hlt,ht2,by first|rfl|trivial⟩
    case measure=>simp[intOf];omega
   ·rw[Bool.true_or] at ht2;replace ht2:=qH ht2;go_wp2_with fail
    refine H1.out.mono ?_;rintro e w' ⟨rfl,rfl⟩;go_wp2_with fail
    go_ret;exact⟨_,rfl,by rw[←ht2.out];exact decide_eq_true (by omega),rfl⟩
  ·have hE:Hid (false=A):=by
    have:=ht.out
    rw[dropEnd (xs:=xs) (by omega)] at this;exact this
   clear ht;go_wp2_with fail
   go_ret;exact⟨_,rfl,by rw[←hE.out];rfl,rfl⟩
theorem vecContains {w:World}{b:Nat}{u:Value}{xs:List Int}{most:Int}(hx:Ints w u xs) (h:w.cell? ⟨b,0,none⟩=some (.int .i64 most)) :
  Calls Tryz.prog 149 #[u,.func (.func 191) #[] #[.pointer (some ⟨b,0,none⟩)]] w fun e w'=>e = .returned (.bool (xs.any (outR most)))∧w'=w:=by
 have HI:=qH (vecIndex hx h);obtain⟨xa,xc,xb,xo,rfl,_⟩:=hx;obtain⟨A,hA⟩:=exE (xs.any (outR most));rw[hA] at HI⊢;clear hA h;go_enter Tryz.func149, Tryz.ntmps149
 go_wp2_with fail
 refine HI.out.mono ?_;rintro e w' ⟨z,rfl,hz,rfl⟩;go_wp2;go_ret;exact⟨rfl,rfl⟩
theorem vecE_eq {v:List Int}{n most:Int}:vecE v n most=if (v.length:Int) ≠ n then 15 else if v.any (outR most)=true then 2 else 0:=by
 unfold vecE;by_cases h:∃x∈v,x < 0∨most≤x
 ·have h2:v.any (outR most)=true:=List.any_eq_true.2 (by obtain⟨x,hx,hh⟩:=h;exact⟨x,hx,decide_eq_true hh⟩);rw[if_pos h,if_pos h2]
 ·have h2 : ¬v.any (outR most)=true:=fun g=>h (by obtain⟨x,hx,hh⟩:=List.any_eq_true.1 g;exact⟨x,hx,of_decide_eq_true hh⟩);rw[if_neg h,if_neg h2]
theorem vectorC {w:World}{u:Value}{xs:List Int}{n most:Int}(hx:Ints w u xs) :
  Calls Tryz.prog 137 #[u,.int .i64 n,.int .i64 most] w fun e w'=>e = .returned (.int .i64 (vecE xs n most))∧Below w.heap.size w w':=by
 obtain⟨W1,hW1⟩:=exF (w.alloc (.cells #[.int .i64 most] 3));have hb1:Below w.heap.size w W1:=by rw[hW1];exact(Below.refl _ _).alloc (Nat.le_refl _) _
 have k1:W1.heap[w.heap.size]? = some (.cells #[.int .i64 most] 3 (0,0)):=by rw[hW1];exact heap_alloc_new _ _
 have HC:=vecContains (hx.keep hb1) (cell_of_one k1);obtain⟨xa,xc,xb,xo,rfl,_⟩:=hx;rw[vecE_eq];clear k1;by_cases hn:(xs.length:Int)=n
 ·rw[if_neg (fun h=>h hn)];subst hn;obtain⟨B,hB⟩:=exE (xs.any (outR most));rw[hB] at HC⊢;replace HC:=qH HC;clear hB;cases B
  ·go_enter Tryz.func137, Tryz.ntmps137
   go_wp2_with fail
   rw[←hW1];refine HC.out.mono ?_;rintro e w' ⟨rfl,rfl⟩;replace hW1:=qH hW1;go_wp2;go_ret;exact⟨rfl,hb1⟩
  ·go_enter Tryz.func137, Tryz.ntmps137
   go_wp2_with fail
   rw[←hW1];refine HC.out.mono ?_;rintro e w' ⟨rfl,rfl⟩;replace hW1:=qH hW1;go_wp2;go_ret;exact⟨rfl,hb1⟩
 ·rw[if_pos hn];have d1:((xs.length:Int) != n)=true:=by simpa using hn
  clear hn HC;go_enter Tryz.func137, Tryz.ntmps137
  go_wp2;go_ret;rw[hW1] at hb1;exact⟨rfl,hb1⟩
def unordB (l:List (List Int)) (i:Nat):Bool:=decide (0 < i∧0≤cmpL (l.getD (i - 1) []) (l.getD i []))
theorem unordC {w:World}{u:Value}{l:List (List Int)}{i:Nat}(hx:Intss w u l) (hi:i < l.length) :
  Calls Tryz.prog 192 #[u,.int .i64 (i:Int)] w fun e w'=>e = .returned (.bool (unordB l i))∧Below w.heap.size w w':=by
 have hmx : Tryz.prog.follows .mixedOrders=true:=by kernel_rfl
 obtain⟨xa,xc,xb,xo,rfl,hxa,hxc,hxl⟩:=hx;obtain rfl:=hxa (by omega);rcases Nat.eq_zero_or_pos i with h0|h0
 ·have hr:unordB l i=false:=decide_eq_false (fun h=>by omega);rw[hr];subst h0;clear hr hxc;go_enter Tryz.func192, Tryz.ntmps192
  go_wp2_with fail
  refine wp_region_bw hmx (by kernel_rfl) ?_
  repeat (refine WQ.step fun K hK=>?_;go_simp;first|(refine hK _ ?_;clear hK K)|(apply Exists.intro;refine⟨fun wq hC=>?_,hK _ ?_⟩;(·(first|with_reducible rfl|(go_simp;first|done|with_reducible rfl|with_reducible exact⟨rfl,rfl⟩)));clear hK K))
  refine WQ.nil ?_;intro w4 hb4;go_wp2;go_ret;exact⟨rfl,hb4⟩
 ·obtain⟨u1,c1,hu1⟩:=hxc (i - 1) (by omega);obtain⟨u2,c2,hu2⟩:=hxc i hi;have hr0:unordB l i=decide (0≤cmpL (l.getD (i - 1) []) (l.getD i [])):=by unfold unordB;simp[h0]
  obtain⟨p,hp⟩:=exE (l.getD (i - 1) []);obtain⟨q,hq⟩:=exE (l.getD i []);rw[hp,hq] at hr0;rw[hp] at hu1;rw[hq] at hu2;have HC:=qH (fun W (hb:Below w.heap.size w W)=>cmpIntsC (hu1.keep hb) (hu2.keep hb));obtain⟨z,hz⟩:=exE (cmpL p q);rw[hz] at hr0;simp only[hz] at HC;rw[hr0];obtain⟨a1,b1,rfl⟩:∃a c,u1 = .slice a p.length c:=by obtain⟨a,c,_,_,h,_⟩:=hu1;exact⟨a,c,h⟩
  obtain⟨a2,b2,rfl⟩:∃a c,u2 = .slice a q.length c:=by obtain⟨a,c,_,_,h,_⟩:=hu2;exact⟨a,c,h⟩
  obtain⟨n1,hn1⟩:=exE (p.length);obtain⟨n2,hn2⟩:=exE (q.length);rw[hn1] at c1;rw[hn2] at c2;simp only[hn1,hn2] at HC;have d1:decide ((0:Int) < (i:Int))=true:=decide_eq_true (by omega);obtain⟨k,hk⟩:=exE (i - 1);rw[hk] at c1;have hwr:IntKind.i64.wrap ((i:Int) - 1)=(k:Int):=by rw[show(i:Int) - 1=(k:Int) by omega];exact IntWalk.i64_in _ (by omega)
  have hi1:(k:Int) < (l.length:Int):=by omega
  have hi2:(i:Int) < (l.length:Int):=by omega
  obtain⟨B,hB⟩:=exE (decide (0≤z));rw[hB];have HK:=qH (fun W (hb:Below w.heap.size w W)=>And.intro (cell_kept hb c1) (cell_kept hb c2));clear hxc hu1 hu2 hz hr0 c1 c2 hp hq hk hn1 hn2;go_enter Tryz.func192, Tryz.ntmps192
  go_wp2_with fail
  refine wp_region_bw hmx (by kernel_rfl) ?_
  repeat (refine WQ.step fun K hK=>?_;go_simp;first|(refine hK _ ?_;clear hK K)|(apply Exists.intro;refine⟨fun wq hC=>?_,hK _ ?_⟩;(·(first|with_reducible rfl|(obtain⟨c1,c2⟩:=HK.out wq hC;go_simp;first|done|with_reducible rfl|with_reducible exact⟨rfl,rfl⟩)));clear hK K))
  (refine WQ.step fun K hK=>?_;go_simp;first|(refine hK _ ?_;clear hK K)|(apply Exists.intro;refine⟨fun wq hC=>?_,hK _ ?_⟩;(·(refine(HC.out wq hC).mono ?_;rintro e w' ⟨rfl,rfl⟩;exact⟨rfl,hC⟩));clear hK K))
  repeat (refine WQ.step fun K hK=>?_;go_simp;first|(refine hK _ ?_;clear hK K)|(apply Exists.intro;refine⟨fun wq hC=>?_,hK _ ?_⟩;(·(first|with_reducible rfl|(go_simp;first|done|with_reducible rfl|with_reducible exact⟨rfl,rfl⟩)));clear hK K))
  refine WQ.nil ?_;intro w4 hb4;go_wp2;go_ret;exact⟨by first|rfl|(rw[←hB];rfl)|simp[←hB],hb4⟩
end Go.Proofs.YtcnedkkcgdkioaaGreat
