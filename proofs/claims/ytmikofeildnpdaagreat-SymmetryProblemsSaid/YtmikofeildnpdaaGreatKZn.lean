/- Texts of this claim, put together: P1 E5 E7 E8 H0 AP J1 U0 L0 J2 J3 G5 M1 CB F3 E6 SI Y0. -/
import Derived.Test.YtmikofeildnpdaaGreatKZk
import Derived.Test.YtmikofeildnpdaaGreatKZl
import Derived.Deep.RegionHeld3
import Derived.Deep.DeepCutAuto
import Derived.Deep.AppendLies
import Derived.Lib.SliceRun
import Derived.Lib.AppendZeros
import Derived.Test.YtmikofeildnpdaaGreatKZb
import Derived.Lib.SmallJoins

set_option maxRecDepth 100000
set_option maxHeartbeats 12800000
namespace Go.Proofs.YtmikofeildnpdaaGreat
open Go.RowKit
theorem chkA_facts {n:Int}{ss:List (List (List Int))}(h:chkA n ss=0):(1≤n∧n≤5)∧(1≤ss.length∧ss.length≤256∧movesN ss≤4096)∧ssGo n ss.length ss=0∧growsB ss=true:=by
 unfold chkA at h;by_cases h1:n < 1∨5 < n
 ·rw[if_pos h1] at h;cases h
 rw[if_neg h1] at h;by_cases h2:ss.length < 1∨256 < ss.length∨4096 < movesN ss
 ·rw[if_pos h2] at h;cases h
 rw[if_neg h2] at h;by_cases h3:ssGo n ss.length ss ≠ 0
 ·rw[if_pos h3] at h;exact absurd h h3
 rw[if_neg h3] at h;by_cases h4:growsB ss=true
 ·exact⟨by omega,by omega,Decidable.not_not.1 h3,h4⟩
 ·rw[if_neg h4] at h;cases h
end Go.Proofs.YtmikofeildnpdaaGreat
namespace Go.Proofs.YtmikofeildnpdaaGreat
open Go.RowKit Go.ChangeMaps Go.MapKept
theorem boxAdv {w:World}{n:Int}{a:Option Addr}{l c:Nat}{w1:World}(hw:w1=w.alloc (.cells #[.int .i64 n,.slice a l c] 24)) :
  Below w.heap.size w w1∧w1.cell? ⟨w.heap.size,0,none⟩=some (.int .i64 n)∧w1.cell? ⟨w.heap.size,1,none⟩=some (.slice a l c)∧w1.heap[w.heap.size]? = some (.cells #[.int .i64 n,.slice a l c] 24):=by
 have h:=heap_alloc_new w (.cells #[.int .i64 n,.slice a l c] 24);rw[←hw] at h;refine⟨by rw[hw];exact(Below.refl _ w).alloc (Nat.le_refl _) _,?_,?_,h⟩
 ·rw[cell_of_row _ _ 0 _ _ _ h];rfl
 ·rw[cell_of_row _ _ 1 _ _ _ h];rfl
end Go.Proofs.YtmikofeildnpdaaGreat
namespace Go.Proofs.YtmikofeildnpdaaGreat
open Go.RowKit
def toI (r:List Int):List (List Int)→Int
 | []=>-1
 | m::ms=>if rdOf m=r then m.getD 7 0 else toI r ms
theorem box7CI {w:World}{b:Nat}{x0 x1 x2 x3 x4 x5 x6:Int}{t:TypeId}(h:w.heap[b]? = some (.cells #[.int .i64 x0,.int .i64 x1,.int .i64 x2,.int .i64 x3,.int .i64 x4,.int .i64 x5,.int .i64 x6] t)):CI w b 0 [x0,x1,x2,x3,x4,x5,x6]:=by
 intro j hj;rw[cell_of_row w b (0+j) _ _ _ h];match j,hj with
 | 0,_=>rfl
 | 1,_=>rfl
 | 2,_=>rfl
 | 3,_=>rfl
 | 4,_=>rfl
 | 5,_=>rfl
 | 6,_=>rfl
def LeadOK (ss:List (List (List Int))):Prop:=∀s∈ss,∀m∈s,0≤m.getD 7 0∧m.getD 7 0 < (ss.length:Int)
theorem toI_ge (r:List Int) {n:Int}:∀ {ms:List (List Int)},(∀m∈ms,0≤m.getD 7 0∧m.getD 7 0 < n)→0 < n→-1≤toI r ms∧toI r ms < n
 | [],_,_=>by simp only[toI];omega
 | m::ms,h,hn=>by
  unfold toI;split
  ·have:=h m (by simp);omega
  ·exact toI_ge r (fun x hx=>h x (by simp[hx])) hn
theorem toI_st {ss:List (List (List Int))}(h:LeadOK ss) {s:Nat}(hs:s < ss.length) (r:List Int) : -1≤toI r (ss.getD s [])∧toI r (ss.getD s []) < (ss.length:Int):=
 toI_ge r (fun m hm=>h _ (by rw[getD_eq hs] at hm;exact List.getElem_mem hs) m (by rw[getD_eq hs] at hm;exact hm)) (by omega)
theorem advShape' {w:World}{v:Value}{n:Int}{ss:List (List (List Int))}(h:AdvV w v n ss):∃a c,v = .agg #[.int .i64 n,.slice a ss.length c]:=by
 obtain⟨sv,rfl,hK⟩:=h;obtain⟨a,c,rfl⟩:=hK.shape;exact⟨a,c,rfl⟩
end Go.Proofs.YtmikofeildnpdaaGreat
namespace Go.Proofs.YtmikofeildnpdaaGreat
theorem cmpL_cons (a b:Int) (xs ys:List Int):cmpL (a::xs) (b::ys) < 0↔a < b∨(a=b∧cmpL xs ys < 0):=by
 simp only[cmpL,cmpI];by_cases h1:a < b
 ·simp[h1]
 ·by_cases h2:b < a
  ·simp[h1,h2,show a ≠ b by omega]
  ·obtain rfl:a=b:=(by omega);simp
theorem cmpL_nil_cons (b:Int) (ys:List Int):cmpL [] (b::ys) < 0:=by simp[cmpL]
theorem cmpL_any_nil:∀xs:List Int,¬cmpL xs [] < 0
 | []=>by simp[cmpL]
 | _::_=>by simp[cmpL]
theorem cmpL_asymm:∀a b:List Int,cmpL a b < 0→¬cmpL b a < 0
 | xs,[],h=>absurd h (cmpL_any_nil xs)
 | [],_::_,_=>cmpL_any_nil _
 | a::xs,b::ys,h=>by
  rw[cmpL_cons] at h⊢;rintro(h2|⟨h2,h3⟩)
  ·rcases h with h|⟨h,_⟩<;>omega
  ·rcases h with h|⟨_,h⟩
   ·omega
   ·exact cmpL_asymm xs ys h h3
theorem cmpL_trans:∀a b c:List Int,cmpL a b < 0→cmpL b c < 0→cmpL a c < 0
 | xs,[],_,h,_=>absurd h (cmpL_any_nil xs)
 | _,ys,[],_,h=>absurd h (cmpL_any_nil ys)
 | [],_::_,c::zs,_,_=>cmpL_nil_cons c zs
 | a::xs,b::ys,c::zs,h,k=>by
  rw[cmpL_cons] at h k⊢;rcases h with h|⟨rfl,h⟩<;>rcases k with k|⟨rfl,k⟩
  ·left;omega
  ·exact .inl h
  ·exact .inl k
  ·exact .inr ⟨rfl,cmpL_trans xs ys zs h k⟩
theorem cmpL_total:∀a b:List Int,cmpL a b < 0∨a=b∨cmpL b a < 0
 | [],[]=>.inr (.inl rfl)
 | [],b::ys=>.inl (cmpL_nil_cons b ys)
 | a::xs,[]=>.inr (.inr (cmpL_nil_cons a xs))
 | a::xs,b::ys=>by
  rw[cmpL_cons,cmpL_cons];rcases Int.lt_trichotomy a b with h|rfl|h
  ·exact .inl (.inl h)
  ·rcases cmpL_total xs ys with h|rfl|h
   ·exact .inl (.inr ⟨rfl,h⟩)
   ·exact .inr (.inl rfl)
   ·exact .inr (.inr (.inr ⟨rfl,h⟩))
  ·exact .inr (.inr (.inl h))
theorem cmpL_ntrans (a b c:List Int) (h : ¬cmpL a b < 0) (k : ¬cmpL b c < 0) : ¬cmpL a c < 0:=by
 intro hc;rcases cmpL_total a b with h1|rfl|h1
 ·exact h h1
 ·exact k hc
 ·exact k (cmpL_trans b a c h1 hc)
theorem sorted_unique {α:Type}{lt:α→α→Prop}(has:∀a b,lt a b→¬lt b a):∀ {l1 l2:List α},l1.Pairwise lt→l2.Pairwise lt→(∀x,x∈l1↔x∈l2)→l1=l2
 | [],[],_,_,_=>rfl
 | [],b::t2,_,_,h=>absurd ((h b).2 (List.mem_cons_self ..)) (by simp)
 | a::t1,[],_,_,h=>absurd ((h a).1 (List.mem_cons_self ..)) (by simp)
 | a::t1,b::t2,h1,h2,h=>by
  rw[List.pairwise_cons] at h1 h2
  have hab:a=b:=by
   rcases List.mem_cons.1 ((h a).1 (List.mem_cons_self ..)) with h3|h3
   ·exact h3
   ·rcases List.mem_cons.1 ((h b).2 (List.mem_cons_self ..)) with h4|h4
    ·exact h4.symm
    ·exact absurd (h2.1 a h3) (has _ _ (h1.1 b h4))
  subst hab;rw[sorted_unique has h1.2 h2.2 fun x=>⟨fun hx=>?_,fun hx=>?_⟩]
  ·rcases List.mem_cons.1 ((h x).1 (List.mem_cons_of_mem _ hx)) with h3|h3
   ·subst h3;exact absurd (h1.1 x hx) (fun h=>has _ _ h h)
   ·exact h3
  ·rcases List.mem_cons.1 ((h x).2 (List.mem_cons_of_mem _ hx)) with h3|h3
   ·subst h3;exact absurd (h2.1 x hx) (fun h=>has _ _ h h)
   ·exact h3
def AscL (l:List (List Int)):Prop:=l.Pairwise fun a b=>cmpL a b < 0
abbrev It:=(Nat × Nat) × List (List Int)
theorem toI_self {r:List Int}:∀ {ms:List (List Int)},(∀m∈ms,0≤m.getD 7 0)→r∈ms.map rdOf→0≤toI r ms
 | [],_,h=>by cases h
 | m::ms,h,hr=>by
  unfold toI;split
  ·exact h m (by simp)
  ·rename_i hne
   rw[List.map_cons] at hr;rcases List.mem_cons.1 hr with hr|hr
   ·exact absurd hr.symm hne
   ·exact toI_self (fun x hx=>h x (by simp[hx])) hr
end Go.Proofs.YtmikofeildnpdaaGreat
namespace Go.Proofs.YtmikofeildnpdaaGreat
open Go.RowKit
def NewAt (w:World) (v v':Value):Prop:=v'.ownBlock=v.ownBlock∨v'.ownBlock=some w.heap.size
section
variable {α:Type} {E:TypeId} {k:Nat} {El:World→List Value→α→Prop} {B n:Nat} {v:Value} {xs:List α}
theorem run_appX {P:Program}{T ty:TypeId}{z:Value}{bytes:Nat}(hE:ElemK P T E z k bytes) (hby:bytes≤128) (hk:0 < k) (hS:Stab E El) {w:World}{cs:List Value}{x:α}
  (hown:OwX E k El w B v n xs) (ad:Addr) (c:Nat) (hcs:cs.length=k) (hnews:∀j u,cs[j]? = some u→w.cell? (ad.add j)=some u) (hc1:∀u∈cs,u.oneCell'=true) (hEl:El w cs x) (hn:n≤1000000000000) (hB:B≤w.heap.size) :
  ∃v' w',(Builtin.append_ #[T,T] ty #[v,.slice (some ad) 1 c]).run P w = .ok v' w'∧OwX E k El w' B v' (n+1) (xs ++ [x])∧w.grownBy w' v.ownBlock∧NewAt w v v'∧Below B w w'∧KeepX E w w':=by
 obtain⟨i0,hi,hz0,hz1,hz2⟩:=info_parts hE.2.1;obtain⟨vs,k1,k2,k3,k4⟩:=hown;have hvl:vs.length=n * k:=k1.1
 have hbd:(n+1) * bytes≤140737488355328:=by
  have:(n+1) * bytes≤1000000000001 * 128:=Nat.mul_le_mul (by omega) hby
  omega
 obtain⟨v',w',hr,h1,hg,_,h5⟩:=run_append_own_at (P:=P) w B T ty E i0 z k bytes hE.1 hi hz0 hz1 hz2 hE.2.2 hk v n vs k1 ad 1 c cs (by simpa using hcs) hnews hc1 (by unfold maxLen;omega) hbd hB;have hX:KeepX E w w':=KeepX.own k1 hg;refine⟨v',w',hr,⟨vs++cs,h1,by simp[k2],?_,fun j x' hj=>?_⟩,hg,h5,(Below.refl B w).grown hg hB (fun k hk=>(k1.lt k hk).1),hX⟩
 ·intro u hu;rcases List.mem_append.1 hu with hu|hu
  ·exact k3 u hu
  ·exact hc1 u hu
 ·by_cases hjn:j < n
  ·rw[List.getElem?_append_left (by omega)] at hj;have hle:j * k+k≤n * k:=(by rw[←Nat.succ_mul];exact Nat.mul_le_mul_right _ hjn);rw[List.drop_append_of_le_length (by omega),List.take_append_of_le_length (by rw[List.length_drop];omega)];exact hS _ _ _ _ (k4 j x' hj) hX
  ·rw[List.getElem?_append_right (by omega)] at hj
   have hj0:j - xs.length=0:=by
    have:=(List.getElem?_eq_some_iff.1 hj).1
    simpa using this
   rw[hj0] at hj;simp only[List.getElem?_cons_zero,Option.some.injEq] at hj;subst hj;obtain rfl:j=n:=(by omega);rw[←hvl,List.drop_left,List.take_of_length_le (by omega)];exact hS _ _ _ _ hEl hX
theorem wp_appX {P:Program}{T:TypeId}{z:Value}{bytes:Nat}(hE:ElemK P T E z k bytes) (hby:bytes≤128) (hk:0 < k) (hS:Stab E El) {w:World}{cs:List Value}{x:α}{o:Oper}{a:Act}{K:Act→World→Prop}{Q:Exit→Act→World→Prop}(s y:Operand)
  (ho:o.op = .call { callee:=.builtin .append,args:=#[s,y],argTypes:=#[T,T] }) (hs:a.eval s=v) (hown:OwX E k El w B v n xs) (ad:Addr) (c:Nat) (hx:a.eval y = .slice (some ad) 1 c) (hcs:cs.length=k)
  (hnews:∀j u,cs[j]? = some u→w.cell? (ad.add j)=some u) (hc1:∀u∈cs,u.oneCell'=true) (hEl:El w cs x) (hn:n≤1000000000000) (hB:B≤w.heap.size)
  (h:∀v' w',OwX E k El w' B v' (n+1) (xs ++ [x])→w.grownBy w' v.ownBlock→NewAt w v v'→Below B w w'→KeepX E w w'→K (a.put o.dst v') w'):o.wp P a w K Q:=by
 obtain⟨v',w',hr,h2,h3,h4,h5,h6⟩:=run_appX (P:=P) (ty:=o.type) hE hby hk hS hown ad c hcs hnews hc1 hEl hn hB;unfold Oper.wp execOp;simp only[ho,resolve,invoke,builtin,Sem.run_bind,Sem.run_pure,Result.andThen_ok,List.map_toArray,List.map_cons,List.map_nil,hs,hx,hr];exact h v' w' h2 h3 h4 h5 h6
end
end Go.Proofs.YtmikofeildnpdaaGreat
namespace Go.Proofs.YtmikofeildnpdaaGreat
open Go.RowKit
theorem OwX.store7 {w:World}{B g n cap:Nat}{xs:List (List Int)}(h:OwX 87 7 EI w B (.slice (some ⟨g,0,none⟩) n cap) n xs) {j:Nat}(hj:j < n) (y0 y1 y2 y3 y4 y5 y6:Int) :
  OwX 87 7 EI (((((((w.setCell ⟨g,j * 7,none⟩ (.int .i64 y0)).setCell ⟨g,j * 7+1,none⟩ (.int .i64 y1)).setCell ⟨g,j * 7+2,none⟩ (.int .i64 y2)).setCell ⟨g,j * 7+3,none⟩ (.int .i64 y3)).setCell ⟨g,j * 7+4,none⟩ (.int .i64 y4)).setCell ⟨g,j * 7+5,none⟩ (.int .i64 y5)).setCell ⟨g,j * 7+6,none⟩ (.int .i64 y6)) B (.slice (some ⟨g,0,none⟩) n cap) n (xs.set j [y0,y1,y2,y3,y4,y5,y6]):=by
 have hl:=h.length;obtain⟨h7,_⟩:=h.intCells hj;have h0:=(h.storeI hj (i:=0) (by decide) y0).1;have h1:=(h0.storeI hj (i:=1) (by decide) y1).1;have h2:=(h1.storeI hj (i:=2) (by decide) y2).1;have h3:=(h2.storeI hj (i:=3) (by decide) y3).1;have h4:=(h3.storeI hj (i:=4) (by decide) y4).1;have h5:=(h4.storeI hj (i:=5) (by decide) y5).1;have h6:=(h5.storeI hj (i:=6) (by decide) y6).1
 have hg:∀(a:List Int),(xs.set j a).getD j []=a:=fun a=>by
  rw[List.getD_eq_getElem?_getD,List.getElem?_set_self (by omega)];rfl
 simp only[hg,List.set_set] at h6;obtain⟨a,b,c,d,e,f,i,hx⟩:=seven h7;rw[hx] at h6;exact h6
theorem below7 {w w':World}{B g:Nat}{a b c d e f i:Nat}{va vb vc vd ve vf vi:Value}(h:Below B w w') (hg:B≤g) :
  Below B w (((((((w'.setCell ⟨g,a,none⟩ va).setCell ⟨g,b,none⟩ vb).setCell ⟨g,c,none⟩ vc).setCell ⟨g,d,none⟩ vd).setCell ⟨g,e,none⟩ ve).setCell ⟨g,f,none⟩ vf).setCell ⟨g,i,none⟩ vi):=by
 have h1:=h.setCell (p:=⟨g,a,none⟩) hg va;have h2:=h1.setCell (p:=⟨g,b,none⟩) hg vb;have h3:=h2.setCell (p:=⟨g,c,none⟩) hg vc;have h4:=h3.setCell (p:=⟨g,d,none⟩) hg vd;have h5:=h4.setCell (p:=⟨g,e,none⟩) hg ve;have h6:=h5.setCell (p:=⟨g,f,none⟩) hg vf;exact h6.setCell (p:=⟨g,i,none⟩) hg vi
end Go.Proofs.YtmikofeildnpdaaGreat
namespace Go.Proofs.YtmikofeildnpdaaGreat
theorem ascL_of {n:Int}{ss:List (List (List Int))}(h:chkA n ss=0):∀s∈ss,AscL (s.map rdOf):=fun s hs=>by
 obtain⟨_,_,h3,_⟩:=chkA_facts h;have h4:=ssGo_zero h3 s hs;unfold stErr at h4;by_cases he:s.length=0
 ·rw[List.length_eq_zero_iff.1 he];exact List.Pairwise.nil
 rw[if_neg he] at h4
 have hadj:∀i,0 < i→i < s.length→cmpL (rdOf (s.getD (i - 1) [])) (rdOf (s.getD i [])) < 0:=fun i h0 hi=>by
  obtain⟨_,_,c3,_,_⟩:=mvErr_zero (mvGo_zero h4 i (by omega) (by omega));have:=c3 h0
  unfold rdOf;omega
 unfold AscL;rw[List.pairwise_iff_getElem];intro i j hi hj hij;rw[List.length_map] at hi hj;rw[List.getElem_map,List.getElem_map];obtain⟨d,rfl⟩:∃d,j=i+1+d:=⟨j - i - 1,by omega⟩;induction d with
 | zero=>
  have:=hadj (i+1) (by omega) hj
  rw[Nat.add_sub_cancel,getD_eq hi,getD_eq hj] at this;exact this
 | succ d ih=>
  have h1:=ih (by rw[List.length_map];omega) (by omega) (by omega);have h2:=hadj (i+1+(d+1)) (by omega) hj;rw[show i+1+(d+1) - 1=i+1+d by omega,getD_eq (by omega:i+1+d < s.length),getD_eq hj] at h2;exact cmpL_trans _ _ _ h1 h2
section
variable {α β:Type} {R:α→β→Prop}
end
section
variable {ρ:Nat→Nat→Prop} {kf kf':Nat→Nat} {ss tt:List (List (List Int))}
end
def alw (ss:List (List (List Int))):List (List Int)→Nat→Prop
 | [],_=>True
 | r::w,s=>0≤toI r (ss.getD s [])∧alw ss w (toI r (ss.getD s [])).toNat
section
variable {ρ:Nat→Nat→Prop} {ss tt:List (List (List Int))}
theorem toI_mem {m:List Int}:∀ {x:List (List Int)},AscL (x.map rdOf)→m∈x→toI (rdOf m) x=m.getD 7 0
 | [],_,h=>by cases h
 | a::x,ha,h=>by
  rw[List.map_cons] at ha;unfold AscL at ha;rw[List.pairwise_cons] at ha;rw[toI];rcases List.mem_cons.1 h with rfl|h
  ·rw[if_pos rfl]
  ·rw[if_neg,toI_mem ha.2 h];intro e;have h1:=ha.1 (rdOf m) (List.mem_map_of_mem h);rw[e] at h1;exact cmpL_asymm _ _ h1 h1
theorem toI_out {r:List Int}:∀ {x:List (List Int)},r ∉ x.map rdOf→toI r x = -1
 | [],_=>rfl
 | a::x,h=>by
  rw[List.map_cons,List.mem_cons,not_or] at h;rw[toI,if_neg (fun e=>h.1 e.symm),toI_out h.2]
theorem toI_in {r:List Int}{x:List (List Int)}(h0:∀m∈x,0≤m.getD 7 0):0≤toI r x↔r∈x.map rdOf:=by
 constructor
 ·intro h;by_cases hr:r∈x.map rdOf
  ·exact hr
  ·rw[toI_out hr] at h;exact absurd h (by decide)
 ·exact toI_self h0
end
end Go.Proofs.YtmikofeildnpdaaGreat
namespace Go.Proofs.YtmikofeildnpdaaGreat
open Go.RowKit
def KSC (k:Nat) (w:World) (v:Value) (xs:List (List Int)):Prop:=
 ∃a c b off,v = .slice a xs.length c∧(0 < xs.length→a=some ⟨b,off,none⟩)∧CK k w b off xs∧xs.length≤2199023255552∧xs.length≤c
theorem KSC.ks {k:Nat}{w:World}{v:Value}{xs:List (List Int)}(h:KSC k w v xs):KS k w v xs:=by
 obtain⟨a,c,b,off,h1,h2,h3,h4,_⟩:=h;exact⟨a,c,b,off,h1,h2,h3,h4⟩
theorem KSC.keep {k:Nat}{w w':World}{v:Value}{xs:List (List Int)}(h:KSC k w v xs) (hb:Below w.heap.size w w'):KSC k w' v xs:=by
 obtain⟨a,c,b,off,h1,h2,h3,h4⟩:=h;exact⟨a,c,b,off,h1,h2,h3.keep hb,h4⟩
theorem KSC.tl {k:Nat}{w:World}{b off n c:Nat}{x:List Int}{xs:List (List Int)}(h:KSC k w (.slice (some ⟨b,off,none⟩) n c) (x::xs)) :
  KSC k w (.slice (if c=1 then some ⟨b,off,none⟩ else some ⟨b,off+k,none⟩) (n - 1) (c - 1)) xs:=by
 obtain⟨a',c',b',off',h1,h2,h3,h4,h5⟩:=h;injection h1 with e1 e2 e3;subst e2 e3;have ha:=h2 (by simp);rw[←e1] at ha;injection ha with ha;injection ha with hb ho;subst hb ho;simp only[List.length_cons] at h4 h5⊢;refine⟨_,_,b,off+k,by rw[Nat.add_sub_cancel],fun hp=>if_neg (by omega),fun j hj=>?_,by omega,by omega⟩;have:=h3 (j+1) (by simp only[List.length_cons];omega)
 rw[List.getD_cons_succ] at this;refine⟨this.1,?_⟩;have e:off+(j+1) * k=off+k+j * k:=by rw[Nat.succ_mul];omega
 rw[←e];exact this.2
def AdvC (w:World) (v:Value) (n:Int) (ss:List (List (List Int))):Prop:=
 ∃a c b off,v = .agg #[.int .i64 n,.slice a ss.length c]∧(0 < ss.length→a=some ⟨b,off,none⟩)∧(∀j,j < ss.length→∃u,w.cell? ⟨b,off+j,none⟩=some u∧KSC 8 w u (ss.getD j []))∧ss.length≤5864062014805
theorem AdvC.adv {w:World}{v:Value}{n:Int}{ss:List (List (List Int))}(h:AdvC w v n ss):AdvV w v n ss:=by
 obtain⟨a,c,b,off,h1,h2,h3,h4⟩:=h;exact⟨_,h1,a,c,b,off,rfl,h2,fun j hj=>let ⟨u,k1,k2⟩:=h3 j hj;⟨u,k1,k2.ks⟩,h4⟩
theorem AdvC.keep {w w':World}{v:Value}{n:Int}{ss:List (List (List Int))}(h:AdvC w v n ss) (hb:Below w.heap.size w w'):AdvC w' v n ss:=by
 obtain⟨a,c,b,off,h1,h2,h3,h4⟩:=h;exact⟨a,c,b,off,h1,h2,fun j hj=>let ⟨u,k1,k2⟩:=h3 j hj;⟨u,cell_kept hb k1,k2.keep hb⟩,h4⟩
theorem graphCompareG (n h0 h1 h2 h3 h4 m g0 g1 g2 g3 g4:Int) (w:World):Calls Tryz.prog 135 #[.agg #[.int .i64 n,.int .i64 h0,.int .i64 h1,.int .i64 h2,.int .i64 h3,.int .i64 h4],.agg #[.int .i64 m,.int .i64 g0,.int .i64 g1,.int .i64 g2,.int .i64 g3,.int .i64 g4]] w fun e w'=>e = .returned (.int .i64 (cmpL [n,h0,h1,h2,h3,h4] [m,g0,g1,g2,g3,g4]))∧Below w.heap.size w w'∧w.drawn≤w'.drawn:=by
 by_cases he : [n,h0,h1,h2,h3,h4] = [m,g0,g1,g2,g3,g4]
 ·have hE:=qH (show cmpL [n,h0,h1,h2,h3,h4] [m,g0,g1,g2,g3,g4]=0 by rw[he];exact cmpL_self _);have he':=qH (eqL_true.2 he);clear he;go_enter Tryz.func135, Tryz.ntmps135
  have he1:=he'.out;go_wp2;go_ret;exact⟨ret_int hE.out.symm,(((Below.refl w.heap.size w).alloc (Nat.le_refl _) _).alloc (by simp) _),(by first|exact Nat.le_refl _|exact hd1|exact Nat.le_add_right _ _|exact Nat.le_trans (Nat.le_add_right _ _) (Nat.le_add_right _ _))⟩
 ·have he':=eqL_false.2 he;clear he;obtain⟨E,hE⟩:=exE (cmpL [n,h0,h1,h2,h3,h4] [m,g0,g1,g2,g3,g4]);rw[hE];by_cases hn:n=m
  ·have hE0:=qH (show cmpL [h0,h1,h2,h3,h4] [g0,g1,g2,g3,g4]=E by rw[←hE];exact(cmpL_hd (cmpI_zero.2 hn)).symm);have hn':(n != m)=false:=(by simp[hn]);replace hn:=qH hn;clear hE;go_enter Tryz.func135, Tryz.ntmps135
   go_wp2;go_loopw [20] (fun iv wr=>∃(k:Int) (dn:Nat),wr=((w.alloc (.cells #[.int .i64 n,.int .i64 h0,.int .i64 h1,.int .i64 h2,.int .i64 h3,.int .i64 h4] 85)).alloc (.cells #[.int .i64 m,.int .i64 g0,.int .i64 g1,.int .i64 g2,.int .i64 g3,.int .i64 g4] 85)).drewN dn∧iv = .int .i64 k∧((k=0∧Hid (cmpL [h0,h1,h2,h3,h4] [g0,g1,g2,g3,g4]=E))∨(k=1∧Hid (cmpL [h1,h2,h3,h4] [g1,g2,g3,g4]=E))∨(k=2∧Hid (cmpL [h2,h3,h4] [g2,g3,g4]=E))∨(k=3∧Hid (cmpL [h3,h4] [g3,g4]=E))∨(k=4∧Hid (cmpL [h4] [g4]=E))∨(k=5∧Hid (cmpL [] []=E)))) (fun iv _=>5 - (intOf iv).toNat)
   case atStart=>exact⟨0,0,(by first|rfl|simp),rfl,.inl ⟨rfl,hE0⟩⟩
   case round=>
    clear hE0;obtain⟨k,dn,rfl,rfl,hk⟩:=hrel;rcases hk with⟨rfl,hg⟩|⟨rfl,hg⟩|⟨rfl,hg⟩|⟨rfl,hg⟩|⟨rfl,hg⟩|⟨rfl,hg⟩
    ·obtain⟨c,hc⟩:=exE (cmpI h0 g0);have hq:=fun W=>cmpIntQ h0 g0 W;simp only[hc] at hq;replace hq:=qH hq;by_cases hz0:c=0
     ·subst hz0;have hz:=qH hc;clear hc;go_wp2;go_quiet ((go_at_call 111;exact quietOn (hq.out _)))
      go_wp2;go_roundw
      case rel=>exact⟨1,_,(by first|exact rfl|exact World.drewN_drewN _ _ _),rfl,.inr (.inl ⟨rfl,by show _=_;rw[←hg.out,cmpL_hd hz.out]⟩)⟩
      case measure=>simp[intOf]
     ·have hz':(c != 0)=true:=(by simpa using hz0);have hz:=qH (show ¬cmpI h0 g0=0 by rw[hc];exact hz0);replace hc:=qH hc;clear hz0;go_wp2;go_quiet ((go_at_call 111;exact quietOn (hq.out _)))
      go_wp2;go_ret;exact⟨ret_int (by rw[←hg.out,cmpL_ne hz.out,hc.out]),(by first|exact below_drewN (((Below.refl w.heap.size w).alloc (Nat.le_refl _) _).alloc (by simp) _) _|exact below_drewN (below_drewN (((Below.refl w.heap.size w).alloc (Nat.le_refl _) _).alloc (by simp) _) _) _|exact below_drewN (below_drewN (below_drewN (((Below.refl w.heap.size w).alloc (Nat.le_refl _) _).alloc (by simp) _) _) _) _),(by first|exact Nat.le_refl _|exact hd1|exact Nat.le_add_right _ _|exact Nat.le_trans (Nat.le_add_right _ _) (Nat.le_add_right _ _))⟩
    ·obtain⟨c,hc⟩:=exE (cmpI h1 g1);have hq:=fun W=>cmpIntQ h1 g1 W;simp only[hc] at hq;replace hq:=qH hq;by_cases hz0:c=0
     ·subst hz0;have hz:=qH hc;clear hc;go_wp2;go_quiet ((go_at_call 111;exact quietOn (hq.out _)))
      go_wp2;go_roundw
      case rel=>exact⟨2,_,(by first|exact rfl|exact World.drewN_drewN _ _ _),rfl,.inr (.inr (.inl ⟨rfl,by show _=_;rw[←hg.out,cmpL_hd hz.out]⟩))⟩
      case measure=>simp[intOf]
     ·have hz':(c != 0)=true:=(by simpa using hz0);have hz:=qH (show ¬cmpI h1 g1=0 by rw[hc];exact hz0);replace hc:=qH hc;clear hz0;go_wp2;go_quiet ((go_at_call 111;exact quietOn (hq.out _)))
      go_wp2;go_ret;exact⟨ret_int (by rw[←hg.out,cmpL_ne hz.out,hc.out]),(by first|exact below_drewN (((Below.refl w.heap.size w).alloc (Nat.le_refl _) _).alloc (by simp) _) _|exact below_drewN (below_drewN (((Below.refl w.heap.size w).alloc (Nat.le_refl _) _).alloc (by simp) _) _) _|exact below_drewN (below_drewN (below_drewN (((Below.refl w.heap.size w).alloc (Nat.le_refl _) _).alloc (by simp) _) _) _) _),(by first|exact Nat.le_refl _|exact hd1|exact Nat.le_add_right _ _|exact Nat.le_trans (Nat.le_add_right _ _) (Nat.le_add_right _ _))⟩
    ·obtain⟨c,hc⟩:=exE (cmpI h2 g2);have hq:=fun W=>cmpIntQ h2 g2 W;simp only[hc] at hq;replace hq:=qH hq;by_cases hz0:c=0
     ·subst hz0;have hz:=qH hc;clear hc;go_wp2;go_quiet ((go_at_call 111;exact quietOn (hq.out _)))
      go_wp2;go_roundw
      case rel=>exact⟨3,_,(by first|exact rfl|exact World.drewN_drewN _ _ _),rfl,.inr (.inr (.inr (.inl ⟨rfl,by show _=_;rw[←hg.out,cmpL_hd hz.out]⟩)))⟩
      case measure=>simp[intOf]
     ·have hz':(c != 0)=true:=(by simpa using hz0);have hz:=qH (show ¬cmpI h2 g2=0 by rw[hc];exact hz0);replace hc:=qH hc;clear hz0;go_wp2;go_quiet ((go_at_call 111;exact quietOn (hq.out _)))
      go_wp2;go_ret;exact⟨ret_int (by rw[←hg.out,cmpL_ne hz.out,hc.out]),(by first|exact below_drewN (((Below.refl w.heap.size w).alloc (Nat.le_refl _) _).alloc (by simp) _) _|exact below_drewN (below_drewN (((Below.refl w.heap.size w).alloc (Nat.le_refl _) _).alloc (by simp) _) _) _|exact below_drewN (below_drewN (below_drewN (((Below.refl w.heap.size w).alloc (Nat.le_refl _) _).alloc (by simp) _) _) _) _),(by first|exact Nat.le_refl _|exact hd1|exact Nat.le_add_right _ _|exact Nat.le_trans (Nat.le_add_right _ _) (Nat.le_add_right _ _))⟩
    ·obtain⟨c,hc⟩:=exE (cmpI h3 g3);have hq:=fun W=>cmpIntQ h3 g3 W;simp only[hc] at hq;replace hq:=qH hq;by_cases hz0:c=0
     ·subst hz0;have hz:=qH hc;clear hc;go_wp2;go_quiet ((go_at_call 111;exact quietOn (hq.out _)))
      go_wp2;go_roundw
      case rel=>exact⟨4,_,(by first|exact rfl|exact World.drewN_drewN _ _ _),rfl,.inr (.inr (.inr (.inr (.inl ⟨rfl,by show _=_;rw[←hg.out,cmpL_hd hz.out]⟩))))⟩
      case measure=>simp[intOf]
     ·have hz':(c != 0)=true:=(by simpa using hz0);have hz:=qH (show ¬cmpI h3 g3=0 by rw[hc];exact hz0);replace hc:=qH hc;clear hz0;go_wp2;go_quiet ((go_at_call 111;exact quietOn (hq.out _)))
      go_wp2;go_ret;exact⟨ret_int (by rw[←hg.out,cmpL_ne hz.out,hc.out]),(by first|exact below_drewN (((Below.refl w.heap.size w).alloc (Nat.le_refl _) _).alloc (by simp) _) _|exact below_drewN (below_drewN (((Below.refl w.heap.size w).alloc (Nat.le_refl _) _).alloc (by simp) _) _) _|exact below_drewN (below_drewN (below_drewN (((Below.refl w.heap.size w).alloc (Nat.le_refl _) _).alloc (by simp) _) _) _) _),(by first|exact Nat.le_refl _|exact hd1|exact Nat.le_add_right _ _|exact Nat.le_trans (Nat.le_add_right _ _) (Nat.le_add_right _ _))⟩
    ·obtain⟨c,hc⟩:=exE (cmpI h4 g4);have hq:=fun W=>cmpIntQ h4 g4 W;simp only[hc] at hq;replace hq:=qH hq;by_cases hz0:c=0
     ·subst hz0;have hz:=qH hc;clear hc;go_wp2;go_quiet ((go_at_call 111;exact quietOn (hq.out _)))
      go_wp2;go_roundw
      case rel=>exact⟨5,_,(by first|exact rfl|exact World.drewN_drewN _ _ _),rfl,.inr (.inr (.inr (.inr (.inr (⟨rfl,by show _=_;rw[←hg.out,cmpL_hd hz.out]⟩)))))⟩
      case measure=>simp[intOf]
     ·have hz':(c != 0)=true:=(by simpa using hz0);have hz:=qH (show ¬cmpI h4 g4=0 by rw[hc];exact hz0);replace hc:=qH hc;clear hz0;go_wp2;go_quiet ((go_at_call 111;exact quietOn (hq.out _)))
      go_wp2;go_ret;exact⟨ret_int (by rw[←hg.out,cmpL_ne hz.out,hc.out]),(by first|exact below_drewN (((Below.refl w.heap.size w).alloc (Nat.le_refl _) _).alloc (by simp) _) _|exact below_drewN (below_drewN (((Below.refl w.heap.size w).alloc (Nat.le_refl _) _).alloc (by simp) _) _) _|exact below_drewN (below_drewN (below_drewN (((Below.refl w.heap.size w).alloc (Nat.le_refl _) _).alloc (by simp) _) _) _) _),(by first|exact Nat.le_refl _|exact hd1|exact Nat.le_add_right _ _|exact Nat.le_trans (Nat.le_add_right _ _) (Nat.le_add_right _ _))⟩
    ·go_wp2;go_ret;exact⟨ret_int hg.out,(by first|exact below_drewN (((Below.refl w.heap.size w).alloc (Nat.le_refl _) _).alloc (by simp) _) _|exact below_drewN (below_drewN (((Below.refl w.heap.size w).alloc (Nat.le_refl _) _).alloc (by simp) _) _) _|exact below_drewN (below_drewN (below_drewN (((Below.refl w.heap.size w).alloc (Nat.le_refl _) _).alloc (by simp) _) _) _) _),(by first|exact Nat.le_refl _|exact hd1|exact Nat.le_add_right _ _|exact Nat.le_trans (Nat.le_add_right _ _) (Nat.le_add_right _ _))⟩
  ·have hE0:=qH (show cmpI n m=E by rw[←hE,cmpL_ne (fun h=>hn (cmpI_zero.1 h))]);have hn':(n != m)=true:=(by simpa using hn);clear hE hn;go_enter Tryz.func135, Tryz.ntmps135
   go_wp2_with (go_at_call 111;refine(cmpInt _ _ _).mono ?_;rintro e w1 ⟨rfl,rfl⟩)
   go_ret;exact⟨ret_int hE0.out,(((Below.refl w.heap.size w).alloc (Nat.le_refl _) _).alloc (by simp) _),(by first|exact Nat.le_refl _|exact hd1|exact Nat.le_add_right _ _|exact Nat.le_trans (Nat.le_add_right _ _) (Nat.le_add_right _ _))⟩
theorem roundCompareG (n h0 h1 h2 h3 h4 f m g0 g1 g2 g3 g4 g:Int) (w:World):Calls Tryz.prog 101 #[.agg #[.int .i64 n,.int .i64 h0,.int .i64 h1,.int .i64 h2,.int .i64 h3,.int .i64 h4,.int .i64 f],.agg #[.int .i64 m,.int .i64 g0,.int .i64 g1,.int .i64 g2,.int .i64 g3,.int .i64 g4,.int .i64 g]] w fun e w'=>e = .returned (.int .i64 (cmpL [n,h0,h1,h2,h3,h4,f] [m,g0,g1,g2,g3,g4,g]))∧Below w.heap.size w w'∧w.drawn≤w'.drawn:=by
 have hb:Below w.heap.size w ((w.alloc (.cells #[.int .i64 n,.int .i64 h0,.int .i64 h1,.int .i64 h2,.int .i64 h3,.int .i64 h4,.int .i64 f] 87)).alloc (.cells #[.int .i64 m,.int .i64 g0,.int .i64 g1,.int .i64 g2,.int .i64 g3,.int .i64 g4,.int .i64 g] 87)):=((Below.refl _ _).alloc (Nat.le_refl _) _).alloc (by simp) _;have HG:=qH (fun W=>graphCompareG n h0 h1 h2 h3 h4 m g0 g1 g2 g3 g4 W);by_cases he : [n,h0,h1,h2,h3,h4,f] = [m,g0,g1,g2,g3,g4,g]
 ·have hE:=qH (show cmpL [n,h0,h1,h2,h3,h4,f] [m,g0,g1,g2,g3,g4,g]=0 from cmpL_zero.2 he);have he':=qH (eqL_true.2 he);clear he;go_enter Tryz.func101, Tryz.ntmps101
  have he1:=he'.out;go_wp2;go_ret;exact⟨ret_int hE.out.symm,hb,(by first|exact Nat.le_refl _|exact hd1|exact Nat.le_add_right _ _|exact Nat.le_trans (Nat.le_add_right _ _) (Nat.le_add_right _ _))⟩
 ·have he':=eqL_false.2 he;clear he;by_cases hg : [n,h0,h1,h2,h3,h4] = [m,g0,g1,g2,g3,g4]
  ·have hE:=qH (cmp7_2 (f:=f) (g:=g) hg);have hg':=qH (eqL_true.2 hg);clear hg;go_enter Tryz.func101, Tryz.ntmps101
   have hg1:=hg'.out;go_wp2_with fail
   refine(cmpInt f g _).mono ?_;rintro e w1 ⟨rfl,rfl⟩;go_wp2;go_ret;exact⟨ret_int hE.out.symm,hb,(by first|exact Nat.le_refl _|exact hd1|exact Nat.le_add_right _ _|exact Nat.le_trans (Nat.le_add_right _ _) (Nat.le_add_right _ _))⟩
  ·have hE:=qH (cmp7_1 (f:=f) (g:=g) hg);have hg':=eqL_false.2 hg;clear hg;go_enter Tryz.func101, Tryz.ntmps101
   go_wp2_with fail
   refine(HG.out _).mono ?_;rintro e w1 ⟨rfl,hb1,hd1⟩;go_wp2;go_ret;exact⟨ret_int hE.out.symm,bt hb hb1 hb.size,(by first|exact Nat.le_refl _|exact hd1|exact Nat.le_add_right _ _|exact Nat.le_trans (Nat.le_add_right _ _) (Nat.le_add_right _ _))⟩
open Go.Shelf Go.Lib Go.Sort
theorem grown_of {w w':World}(hb:Go.RowKit.Below w.heap.size w w') (hd:w.drawn≤w'.drawn):∃q os,w'=grow (w.drewN q) os:=by
 refine⟨w'.drawn - w.drawn,w'.heap.extract w.heap.size w'.heap.size,?_⟩
 have hh:w'.heap=w.heap++w'.heap.extract w.heap.size w'.heap.size:=by
  apply Array.ext_getElem?
  intro k;by_cases hk:k < w.heap.size
  ·rw[Array.getElem?_append_left hk];exact hb.block k hk
  ·have hs:=hb.size;rw[Array.getElem?_append_right (by omega),Array.getElem?_extract];by_cases hk2:k < w'.heap.size
   ·rw[if_pos (by omega)];congr 1;omega
   ·rw[if_neg (by omega),Array.getElem?_eq_none (by omega)]
 have h1:=hb.os;have h2:=hb.tape;have h3:=hb.output;have hdd:w.drawn+(w'.drawn - w.drawn)=w'.drawn:=by omega
 cases w with
 | mk heap tape drawn os output=>
  cases w' with
  | mk heap' tape' drawn' os' output'=>
   simp only at h1 h2 h3 hh hdd
   subst h1 h2 h3;simp only[grow,World.drewN];rw[hdd,←hh]
theorem heap_sortWorld_other {α:Type} [Inhabited α] {enc:α→Value}{w:World}{blk k:Nat}(off n:Nat) (d:Array α) (os:Array Obj) (hne:k ≠ blk) (hk:k < w.heap.size):(sortWorld enc w blk off n d os).heap[k]? = w.heap[k]?:=by
 simp only[sortWorld,grow,putRow,mapBlock,Sort.ahead];rw[Array.getElem?_append_left (by simpa using hk),Array.getElem?_modify,if_neg (fun h=>hne h.symm)]
theorem heap_sortWorld_same {α:Type} [Inhabited α] {enc:α→Value}{w:World}{blk:Nat}(off n:Nat) (d:Array α) (os:Array Obj) {cs:Array Value}{t:TypeId}{fz:Nat × Nat}(h:w.heap[blk]? = some (.cells cs t fz)):(sortWorld enc w blk off n d os).heap[blk]? = some (.cells (putCells enc off d cs) t fz):=by
 simp only[sortWorld,grow,putRow,mapBlock,Sort.ahead];rw[Array.getElem?_append_left (by simpa using (Array.getElem?_eq_some_iff.1 h).1),Array.getElem?_modify,if_pos rfl,h];rfl
theorem below_sortWorld {α:Type} [Inhabited α] {enc:α→Value}{w:World}{blk:Nat}(n:Nat) (d:Array α) (os:Array Obj) {B:Nat}(hB:B≤blk) (hb:blk < w.heap.size):Go.RowKit.Below B w (sortWorld enc w blk 0 n d os):=by
 refine⟨rfl,rfl,rfl,?_,fun k hk=>heap_sortWorld_other _ _ _ _ (by omega) (by omega)⟩;simp[sortWorld,grow,putRow,mapBlock,Sort.ahead]
theorem putCells_take {α:Type} [Inhabited α] (enc:α→Value) (d:Array α) (cs:Array Value) (hd:d.size≤cs.size):(putCells enc 0 d cs).toList.take d.size=d.toList.map enc:=by
 apply List.ext_getElem?
 intro k;rw[List.getElem?_take];by_cases hk:k < d.size
 ·rw[if_pos hk,Array.getElem?_toList];simp only[putCells,Array.getElem?_mapIdx];rw[Array.getElem?_eq_getElem (by omega:k < cs.size)];simp[hk]
 ·rw[if_neg hk,List.getElem?_eq_none (by simp;omega)]
end Go.Proofs.YtmikofeildnpdaaGreat
namespace Go.Proofs.YtmikofeildnpdaaGreat
open Go.RowKit Go.ChangeMaps Go.MapKept Go.WideMaps
def EIt (w:World) (cs:List Value) (x:It):Prop:=∃u,cs = [.int .i64 (x.1.1:Int),.int .i64 (x.1.2:Int),u]∧OwX 87 7 EI w 0 u x.2.length x.2
theorem EIt.stab {E:TypeId}(h:87 ≠ E):Stab E EIt:=fun _ _ _ _ ⟨u,h1,h2⟩ hx=>⟨u,h1,h2.other (EI.stab _) h hx⟩
open Go.RowKit Go.ChangeMaps Go.MapKept
theorem boxAdv2 {w:World}{m n:Int}{a b:Option Addr}{l c l' c':Nat}{w1:World}(hw:w1=(w.alloc (.cells #[.int .i64 m,.slice a l c] 24)).alloc (.cells #[.int .i64 n,.slice b l' c'] 24)) :
  Below w.heap.size w w1∧(w1.cell? ⟨w.heap.size,0,none⟩=some (.int .i64 m)∧w1.cell? ⟨w.heap.size,1,none⟩=some (.slice a l c))∧(w1.cell? ⟨w.heap.size+1,0,none⟩=some (.int .i64 n)∧w1.cell? ⟨w.heap.size+1,1,none⟩=some (.slice b l' c'))∧
  w1.heap[w.heap.size+1]? = some (.cells #[.int .i64 n,.slice b l' c'] 24)∧w1.heap.size=w.heap.size+2:=by
 obtain⟨b1,p0,p1,_⟩:=boxAdv (w:=w) (n:=m) (a:=a) (l:=l) (c:=c) rfl;obtain⟨b2,q0,q1,q2⟩:=boxAdv hw;rw[World.size_alloc] at q0 q1 q2;exact⟨bt b1 b2 b1.size,⟨cell_kept b2 p0,cell_kept b2 p1⟩,⟨q0,q1⟩,q2,by rw[hw];simp⟩
theorem sameRef {w:World}{u v:Value}{m n:Int}{xs ys:List (List (List Int))}(hx:AdvV w u m xs) (hy:AdvV w v n ys) :
  Calls Tryz.prog 17 #[u,v] w fun e w'=>e = .returned (.bool (decide (m=n) && decide (xs=ys)))∧Below w.heap.size w w':=by
 obtain⟨su,rfl,hu⟩:=hx;obtain⟨sv,rfl,hv⟩:=hy;obtain⟨xa,xc,xb,xo,rfl,hxa,hxc,_⟩:=hu;obtain⟨ya,yc,yb,yo,rfl,hya,hyc,_⟩:=hv;obtain⟨W1,hW1⟩:=exF ((w.alloc (.cells #[.int .i64 m,.slice xa xs.length xc] 24)).alloc (.cells #[.int .i64 n,.slice ya ys.length yc] 24));obtain⟨hb1,⟨p0,p1⟩,⟨r0,r1⟩,_⟩:=boxAdv2 hW1;by_cases hmn:m=n
 ·subst hmn;rw[decide_eq_true rfl,Bool.true_and];obtain⟨B,hB⟩:∃B,decide (xs=ys)=B:=⟨_,rfl⟩;rw[hB];replace hB:=qH hB;by_cases hlen:xs.length=ys.length
  ·rw[←hlen] at hW1 r1⊢;replace hlen:=qH hlen;have hxc:=qH (fun j (hj:j < xs.length)=>show ∃u,W1.cell? ⟨xb,xo+j,none⟩=some u∧KS 8 W1 u (xs.getD j []) from let ⟨u,h1,h2⟩:=hxc j hj;⟨u,cell_kept hb1 h1,h2.keep hb1⟩);have hyc:=qH (fun j (hj:j < ys.length)=>show ∃u,W1.cell? ⟨yb,yo+j,none⟩=some u∧KS 8 W1 u (ys.getD j []) from let ⟨u,h1,h2⟩:=hyc j hj;⟨u,cell_kept hb1 h1,h2.keep hb1⟩);have h0:Hid (xs.take 0=ys.take 0):=rfl;go_enter Tryz.func17, Tryz.ntmps17
   go_wp2_with fail
   rw[←hW1];replace hW1:=qH hW1;go_wp2_with fail
   go_loopw [5] (fun iv wr=>∃i:Nat,iv = .int .i64 i∧i≤xs.length∧Hid (xs.take i=ys.take i)∧Qt W1 wr) (fun iv _=>xs.length - (intOf iv).toNat)
   case atStart=>exact⟨0,rfl,by omega,h0,Qt.refl _⟩
   case round=>
    clear h0;obtain⟨i,rfl,hi,ht,n,rfl⟩:=hrel;by_cases hlt:i < xs.length
    ·obtain rfl:=hxa (by omega);obtain rfl:=hya (by rw[←hlen.out];omega);have hlt':i < ys.length:=(by rw[←hlen.out];exact hlt);obtain⟨u1,hxi,hxk⟩:=hxc.out i hlt;obtain⟨u2,hyi,hyk⟩:=hyc.out i hlt';obtain⟨x,hx⟩:=exE (xs.getD i []);obtain⟨y,hy⟩:=exE (ys.getD i []);rw[hx] at hxk;rw[hy] at hyk;have hyes:Hid (x=y→xs.take (i+1)=ys.take (i+1)):=fun h=>takes_next ht.out hlt hlt' (d:=[]) (by rw[hx,hy,h])
     have hno:Hid (x ≠ y→B=false):=fun h=>by
      rw[←hB.out];exact decide_eq_false fun h2=>h (by rw[←hx,←hy,h2])
     obtain⟨ma,mc,mb,mo,rfl,hma,hmc,_⟩:=hxk;obtain⟨na,nc,nb,no,rfl,hna,hnc,_⟩:=hyk;replace hmc:=qH hmc;replace hnc:=qH hnc;have hix:(i:Int) < (xs.length:Int):=(by omega);clear hx hy ht;by_cases hl2:x.length=y.length
     ·rw[←hl2] at hyi;have hl2':=qH hl2;have h00:Hid (x.take 0=y.take 0):=rfl;clear hl2;go_wp2_with fail
      go_quiet (fail)
      go_wp2_with fail
      go_loopw [6] (fun jv wr=>∃j:Nat,jv = .int .i64 j∧j≤x.length∧Hid (x.take j=y.take j)∧Qt W1 wr) (fun jv _=>x.length - (intOf jv).toNat)
      case atStart=>exact⟨0,rfl,by omega,h00,by first|exact(Qt.mk' W1 n).step nq|exact Qt.mk' W1 _⟩
      case round=>
       clear h00;obtain⟨j,rfl,hj,ht,k,rfl⟩:=hrel;by_cases hltj:j < x.length
       ·obtain rfl:=hma (by omega);obtain rfl:=hna (by rw[←hl2'.out];omega);have hltj':j < y.length:=(by rw[←hl2'.out];exact hltj);obtain⟨hx8,hxj⟩:=hmc.out j hltj;obtain⟨hy8,hyj⟩:=hnc.out j hltj';obtain⟨p,hp⟩:=exE (x.getD j []);obtain⟨q,hq⟩:=exE (y.getD j []);rw[hp] at hx8 hxj;rw[hq] at hy8 hyj;obtain⟨x0,x1,x2,x3,x4,x5,x6,x7,rfl⟩:=eight hx8;obtain⟨y0,y1,y2,y3,y4,y5,y6,y7,rfl⟩:=eight hy8;obtain⟨c0,c1,c2,c3,c4,c5,c6,c7⟩:=hxj.all8;obtain⟨d0,d1,d2,d3,d4,d5,d6,d7⟩:=hyj.all8;have hjx:(j:Int) < (x.length:Int):=(by omega);clear hxj hyj hx8 hy8;by_cases he : [x0,x1,x2,x3,x4,x5,x6,x7] = [y0,y1,y2,y3,y4,y5,y6,y7]
        ·have hE:eqL [x0,x1,x2,x3,x4,x5,x6,x7] [y0,y1,y2,y3,y4,y5,y6,y7]=true:=eqL_true.2 he;have ht2:Hid (x.take (j+1)=y.take (j+1)):=takes_next ht.out hltj hltj' (by rw[hp,hq,he]);clear hp hq he ht;go_wp2_with fail
         go_quiet (fail)
         go_wp2_with fail
         go_roundw
         case rel=>exact⟨j+1,by go_num,hltj,ht2,by first|exact(Qt.mk' W1 k).step nq|exact Qt.mk' W1 _⟩
         case measure=>simp[intOf];omega
        ·have hE:eqL [x0,x1,x2,x3,x4,x5,x6,x7] [y0,y1,y2,y3,y4,y5,y6,y7]=false:=eqL_false.2 he;have hBf:Hid (B=false):=hno.out fun h=>he (by rw[←hp,←hq,h]);clear hp hq he ht hyes hno;go_wp2_with fail
         go_quiet (fail)
         go_wp2_with fail
         go_ret;exact⟨by rw[hBf.out];rfl,by first|exact below_drewN hb1 _|exact below_drewN (below_drewN hb1 _) _⟩
       ·have ht2:Hid (xs.take (i+1)=ys.take (i+1)):=hyes.out (takes_all ht.out (by omega) (by rw[←hl2'.out];omega));clear hyes hno ht;go_wp2_with fail
        go_roundw
        case rel=>exact⟨i+1,by go_num,hlt,ht2,Qt.mk' W1 _⟩
        case measure=>simp[intOf];omega
     ·have hBf:Hid (B=false):=hno.out fun h=>hl2 (by rw[h]);have h1:((x.length:Int) == (y.length:Int))=false:=(by simp;omega);clear hyes hno;go_wp2_with fail
      go_quiet (fail)
      go_wp2_with fail
      go_ret;exact⟨by rw[hBf.out];rfl,by first|exact below_drewN hb1 _|exact below_drewN (below_drewN hb1 _) _⟩
    ·have hBt:Hid (B=true):=by
      show _=_;rw[←hB.out];exact decide_eq_true (takes_all ht.out (by omega) (by rw[←hlen.out];omega))
     clear ht;go_wp2_with fail
     go_ret;exact⟨by rw[hBt.out];rfl,below_drewN hb1 _⟩
  ·have hBf:B=false:=(by rw[←hB.out];exact decide_eq_false fun h=>hlen (by rw[h]));subst hBf;have h1:((xs.length:Int) == (ys.length:Int))=false:=(by simp;omega);go_enter Tryz.func17, Tryz.ntmps17
   go_wp2_with fail
   rw[←hW1];go_ret;exact⟨rfl,hb1⟩
 ·have h1:(m == n)=false:=by simp[hmn]
  rw[decide_eq_false hmn,Bool.false_and];go_enter Tryz.func17, Tryz.ntmps17
  go_wp2_with fail
  rw[←hW1];go_ret;exact⟨rfl,hb1⟩
open Go.RowKit Go.ChangeMaps Go.MapKept
theorem OwX.same {E:TypeId}{k:Nat}{w w':World}{B n:Nat}{v:Value}{xs:List (List Int)}(h:OwX E k EI w B v n xs) (hk:∀g,v.ownBlock=some g→w'.heap[g]? = w.heap[g]?):OwX E k EI w' B v n xs:=by
 obtain⟨vs,h1,h2,h3,h4⟩:=h;refine⟨vs,⟨h1.1,?_⟩,h2,h3,h4⟩;rcases h1.2 with h'|⟨g,cap,cur,k1,k2,k3,k4⟩
 ·exact .inl h'
 ·exact .inr ⟨g,cap,cur,k1,k2,(hk g (by rw[k1];rfl)).trans k3,k4⟩
theorem asc_unique {l1 l2:List (List Int)}(h1:AscL l1) (h2:AscL l2) (h:∀x,x∈l1↔x∈l2):l1=l2:=sorted_unique (lt:=fun a b=>cmpL a b < 0) cmpL_asymm h1 h2 h
end Go.Proofs.YtmikofeildnpdaaGreat
namespace Go.Proofs.YtmikofeildnpdaaGreat
open Go.RowKit
theorem refTo {w:World}{v:Value}{n:Int}{ss:List (List (List Int))}(hA:AdvV w v n ss) {i:Nat}(hi:i < ss.length) (r0 r1 r2 r3 r4 r5 r6:Int) :
  Calls Tryz.prog 215 #[v,.int .i64 (i:Int),.agg #[.int .i64 r0,.int .i64 r1,.int .i64 r2,.int .i64 r3,.int .i64 r4,.int .i64 r5,.int .i64 r6]] w fun e w'=>
   e = .returned (.int .i64 (toI [r0,r1,r2,r3,r4,r5,r6] (ss.getD i [])))∧Below w.heap.size w w':=by
 obtain⟨sv,rfl,hK⟩:=hA;obtain⟨sa,sc,sb,so,rfl,hsa,hsc,_⟩:=hK;obtain rfl:=hsa (by omega);obtain⟨W1,hW1⟩:=exF (w.alloc (.cells #[.int .i64 n,.slice (some ⟨sb,so,none⟩) ss.length sc] 24));obtain⟨hb1,p0,p1,_⟩:=boxAdv hW1;have hs1:W1.heap.size=w.heap.size+1:=by rw[hW1];simp
 obtain⟨W2,hW2⟩:=exF (W1.alloc (.cells #[.int .i64 r0,.int .i64 r1,.int .i64 r2,.int .i64 r3,.int .i64 r4,.int .i64 r5,.int .i64 r6] 87));have hb2:Below W1.heap.size W1 W2:=by rw[hW2];exact(Below.refl _ _).alloc (Nat.le_refl _) _
 have m2:W2.heap[W1.heap.size]? = some (.cells #[.int .i64 r0,.int .i64 r1,.int .i64 r2,.int .i64 r3,.int .i64 r4,.int .i64 r5,.int .i64 r6] 87):=by rw[hW2];exact heap_alloc_new _ _
 have hc2:=box7CI m2;rw[hs1] at hc2;have hb02:=bt hb1 hb2 hb1.size;have q1:=cell_kept hb2 p1;obtain⟨u,hcu,hu⟩:=hsc i hi;have hcu:=cell_kept hb02 hcu;have hu:=hu.keep hb02;obtain⟨ms,hms⟩:=exE (ss.getD i []);rw[hms] at hu⊢;obtain⟨ma,mc,mb,mo,rfl,hma,hmc,_⟩:=hu;replace hmc:=qH hmc;replace hc2:=qH hc2;obtain⟨z,hz⟩:=exE (toI [r0,r1,r2,r3,r4,r5,r6] ms);have hz0:Hid (toI [r0,r1,r2,r3,r4,r5,r6] (ms.drop 0)=z):=by show _=_;rw[List.drop_zero];exact hz
 rw[hz];have hs2a:W2.heap.size≤w.heap.size+2:=by rw[hW2];simp;omega
 have hs2b:w.heap.size+2≤W2.heap.size:=by rw[hW2];simp;omega
 rw[hW1] at hW2;clear hsc hms hz m2 p0 p1 hb1;have q1':=q1;have hcu':=hcu;rw[hW2] at q1' hcu';go_enter Tryz.func215, Tryz.ntmps215
 go_wp2;rw[←hW2];replace hW2:=qH hW2;obtain⟨d0,d1,d2,d3,d4,d5,d6⟩:=hc2.out.all7;simp only[Nat.zero_add] at d0 d1 d2 d3 d4 d5 d6;go_loopw [8] (fun jv wr=>∃k:Nat,jv = .int .i64 k∧k≤ms.length∧Hid (toI [r0,r1,r2,r3,r4,r5,r6] (ms.drop k)=z)∧Qt W2 wr) (fun jv _=>ms.length - (intOf jv).toNat)
 case atStart=>exact⟨0,rfl,by omega,hz0,Qt.refl _⟩
 case round=>
  clear hz0;obtain⟨k,rfl,hk,hzk,nd,rfl⟩:=hrel;by_cases hlt:k < ms.length
  ·obtain rfl:=hma (by omega);obtain⟨hx8,hxi⟩:=hmc.out k hlt;obtain⟨x,hx⟩:=exE (ms.getD k []);have hdr:=drop_cons hlt ([]:List Int);rw[hx] at hx8 hxi hdr;rw[hdr] at hzk;obtain⟨x0,x1,x2,x3,x4,x5,x6,x7,rfl⟩:=eight hx8;obtain⟨c0,c1,c2,c3,c4,c5,c6,c7⟩:=hxi.all8;clear hxi hx8 hx hdr;by_cases he : [x0,x1,x2,x3,x4,x5,x6] = [r0,r1,r2,r3,r4,r5,r6]
   ·have hE:eqL [x0,x1,x2,x3,x4,x5,x6] [r0,r1,r2,r3,r4,r5,r6]=true:=eqL_true.2 he
    have hzx:x7=z:=by
     have h:=hzk.out;rw[toI,if_pos (show rdOf [x0,x1,x2,x3,x4,x5,x6,x7]=_ from he)] at h;exact h
    subst hzx;clear he hzk;go_wp2;go_quiet (fail)
    go_wp2;go_ret;exact⟨rfl,below_drewN hb02 _⟩
   ·have hE:eqL [x0,x1,x2,x3,x4,x5,x6] [r0,r1,r2,r3,r4,r5,r6]=false:=eqL_false.2 he
    have hz2:Hid (toI [r0,r1,r2,r3,r4,r5,r6] (ms.drop (k+1))=z):=by
     have h:=hzk.out;rwa [toI,if_neg (show ¬rdOf [x0,x1,x2,x3,x4,x5,x6,x7]=_ from he)] at h
    clear he hzk;go_wp2;go_quiet (fail)
    go_wp2;go_roundw
    case rel=>exact⟨k+1,by go_num,hlt,hz2,Qt.mk' _ _⟩
    case measure=>simp[intOf];omega
  ·have hzx : -1=z:=by
    have h:=hzk.out;rw[List.drop_eq_nil_of_le (by omega),toI] at h;exact h
   subst hzx;clear hzk;go_wp2;go_ret;exact⟨rfl,below_drewN hb02 _⟩
end Go.Proofs.YtmikofeildnpdaaGreat
namespace Go.Proofs.YtmikofeildnpdaaGreat
open Go.RowKit Go.ChangeMaps Go.MapKept
def eqErr (m n:Int) (xs ys:List (List (List Int))):Int:=if chkA m xs ≠ 0 then chkA m xs else if chkA n ys ≠ 0 then chkA n ys else if m ≠ n then 22 else 0
end Go.Proofs.YtmikofeildnpdaaGreat
namespace Go.Proofs.YtmikofeildnpdaaGreat
open Go.RowKit
def stB (c0 c1 c2 c3 c4 c5 c6 c7 c8:Int):Obj:=.cells #[.int .i64 c0,.int .i64 c1,.int .i64 c2,.int .i64 c3,.int .i64 c4,.int .i64 c5,.int .i64 c6,.int .i64 c7,.int .i64 c8] 134
theorem stB.cells {W:World}{b:Nat}{c0 c1 c2 c3 c4 c5 c6 c7 c8:Int}(h:W.heap[b]? = some (stB c0 c1 c2 c3 c4 c5 c6 c7 c8)):(W.cell? ⟨b,0,none⟩=some (.int .i64 c0)∧W.cell? ⟨b,1,none⟩=some (.int .i64 c1)∧W.cell? ⟨b,2,none⟩=some (.int .i64 c2)∧W.cell? ⟨b,3,none⟩=some (.int .i64 c3)∧W.cell? ⟨b,4,none⟩=some (.int .i64 c4)∧W.cell? ⟨b,5,none⟩=some (.int .i64 c5)∧W.cell? ⟨b,6,none⟩=some (.int .i64 c6))∧W.cell? ⟨b,7,none⟩=some (.int .i64 c7)∧W.cell? ⟨b,8,none⟩=some (.int .i64 c8):=by
 unfold stB at h;refine⟨⟨?_,?_,?_,?_,?_,?_,?_⟩,?_,?_⟩<;>(rw[cell_of_row _ b _ _ _ _ h];rfl)
theorem stB.round {W:World}{b:Nat}{c0 c1 c2 c3 c4 c5 c6 c7 c8:Int}(h:W.heap[b]? = some (stB c0 c1 c2 c3 c4 c5 c6 c7 c8)) (r0 r1 r2 r3 r4 r5 r6:Int):(((((((W.setCell ⟨b,0,none⟩ (.int .i64 r0)).setCell ⟨b,1,none⟩ (.int .i64 r1)).setCell ⟨b,2,none⟩ (.int .i64 r2)).setCell ⟨b,3,none⟩ (.int .i64 r3)).setCell ⟨b,4,none⟩ (.int .i64 r4)).setCell ⟨b,5,none⟩ (.int .i64 r5)).setCell ⟨b,6,none⟩ (.int .i64 r6)).heap[b]? = some (stB r0 r1 r2 r3 r4 r5 r6 c7 c8):=by
 have k0:(W.setCell ⟨b,0,none⟩ (.int .i64 r0)).heap[b]? = some (.cells #[.int .i64 r0,.int .i64 c1,.int .i64 c2,.int .i64 c3,.int .i64 c4,.int .i64 c5,.int .i64 c6,.int .i64 c7,.int .i64 c8] 134):=heap_setCell_same _ b 0 _ _ (.int .i64 r0) h;have k1:((W.setCell ⟨b,0,none⟩ (.int .i64 r0)).setCell ⟨b,1,none⟩ (.int .i64 r1)).heap[b]? = some (.cells #[.int .i64 r0,.int .i64 r1,.int .i64 c2,.int .i64 c3,.int .i64 c4,.int .i64 c5,.int .i64 c6,.int .i64 c7,.int .i64 c8] 134):=heap_setCell_same _ b 1 _ _ (.int .i64 r1) k0;have k2:(((W.setCell ⟨b,0,none⟩ (.int .i64 r0)).setCell ⟨b,1,none⟩ (.int .i64 r1)).setCell ⟨b,2,none⟩ (.int .i64 r2)).heap[b]? = some (.cells #[.int .i64 r0,.int .i64 r1,.int .i64 r2,.int .i64 c3,.int .i64 c4,.int .i64 c5,.int .i64 c6,.int .i64 c7,.int .i64 c8] 134):=heap_setCell_same _ b 2 _ _ (.int .i64 r2) k1;have k3:((((W.setCell ⟨b,0,none⟩ (.int .i64 r0)).setCell ⟨b,1,none⟩ (.int .i64 r1)).setCell ⟨b,2,none⟩ (.int .i64 r2)).setCell ⟨b,3,none⟩ (.int .i64 r3)).heap[b]? = some (.cells #[.int .i64 r0,.int .i64 r1,.int .i64 r2,.int .i64 r3,.int .i64 c4,.int .i64 c5,.int .i64 c6,.int .i64 c7,.int .i64 c8] 134):=heap_setCell_same _ b 3 _ _ (.int .i64 r3) k2;have k4:(((((W.setCell ⟨b,0,none⟩ (.int .i64 r0)).setCell ⟨b,1,none⟩ (.int .i64 r1)).setCell ⟨b,2,none⟩ (.int .i64 r2)).setCell ⟨b,3,none⟩ (.int .i64 r3)).setCell ⟨b,4,none⟩ (.int .i64 r4)).heap[b]? = some (.cells #[.int .i64 r0,.int .i64 r1,.int .i64 r2,.int .i64 r3,.int .i64 r4,.int .i64 c5,.int .i64 c6,.int .i64 c7,.int .i64 c8] 134):=heap_setCell_same _ b 4 _ _ (.int .i64 r4) k3;have k5:((((((W.setCell ⟨b,0,none⟩ (.int .i64 r0)).setCell ⟨b,1,none⟩ (.int .i64 r1)).setCell ⟨b,2,none⟩ (.int .i64 r2)).setCell ⟨b,3,none⟩ (.int .i64 r3)).setCell ⟨b,4,none⟩ (.int .i64 r4)).setCell ⟨b,5,none⟩ (.int .i64 r5)).heap[b]? = some (.cells #[.int .i64 r0,.int .i64 r1,.int .i64 r2,.int .i64 r3,.int .i64 r4,.int .i64 r5,.int .i64 c6,.int .i64 c7,.int .i64 c8] 134):=heap_setCell_same _ b 5 _ _ (.int .i64 r5) k4;have k6:(((((((W.setCell ⟨b,0,none⟩ (.int .i64 r0)).setCell ⟨b,1,none⟩ (.int .i64 r1)).setCell ⟨b,2,none⟩ (.int .i64 r2)).setCell ⟨b,3,none⟩ (.int .i64 r3)).setCell ⟨b,4,none⟩ (.int .i64 r4)).setCell ⟨b,5,none⟩ (.int .i64 r5)).setCell ⟨b,6,none⟩ (.int .i64 r6)).heap[b]? = some (.cells #[.int .i64 r0,.int .i64 r1,.int .i64 r2,.int .i64 r3,.int .i64 r4,.int .i64 r5,.int .i64 r6,.int .i64 c7,.int .i64 c8] 134):=heap_setCell_same _ b 6 _ _ (.int .i64 r6) k5;exact k6
theorem stB.set7 {W:World}{b:Nat}{c0 c1 c2 c3 c4 c5 c6 c7 c8:Int}(h:W.heap[b]? = some (stB c0 c1 c2 c3 c4 c5 c6 c7 c8)) (r:Int):(W.setCell ⟨b,7,none⟩ (.int .i64 r)).heap[b]? = some (stB c0 c1 c2 c3 c4 c5 c6 r c8):=heap_setCell_same W b 7 _ _ (.int .i64 r) h
theorem stB.set8 {W:World}{b:Nat}{c0 c1 c2 c3 c4 c5 c6 c7 c8:Int}(h:W.heap[b]? = some (stB c0 c1 c2 c3 c4 c5 c6 c7 c8)) (r:Int):(W.setCell ⟨b,8,none⟩ (.int .i64 r)).heap[b]? = some (stB c0 c1 c2 c3 c4 c5 c6 c7 r):=heap_setCell_same W b 8 _ _ (.int .i64 r) h
def SiG (w W:World) (b bx:Nat):Prop:=Only (fun k=>k=b∨k=bx) w W
def oSt9_0:Oper:=⟨some 35,.load 98 (.tmp 1),98,"inclusion.go:48",#[],none⟩
def oSt9_1:Oper:=⟨some 36,.indexAddr 98 (.tmp 35) (.const (.int .i64 0)),0,"inclusion.go:48",#[⟨0,.data⟩],none⟩
def oSt9_2:Oper:=⟨some 37,.fieldAddr 100 (.tmp 36) 0,0,"inclusion.go:48",#[⟨1,.data⟩],none⟩
def oSt9_3:Oper:=⟨some 38,.load 87 (.tmp 37),87,"inclusion.go:48",#[⟨2,.data⟩],none⟩
def oSt9_4:Oper:=⟨some 39,.load 98 (.tmp 1),98,"inclusion.go:48",#[{ on:=11,ground:=Ground.gcOnly Departure.lateStores }],none⟩
def oSt9_5:Oper:=⟨some 40,.indexAddr 98 (.tmp 39) (.const (.int .i64 0)),0,"inclusion.go:48",#[⟨4,.data⟩,{ on:=11,ground:=Ground.gcOnly Departure.lateStores }],none⟩
def oSt9_6:Oper:=⟨some 41,.fieldAddr 100 (.tmp 40) 1,0,"inclusion.go:48",#[⟨5,.data⟩,{ on:=11,ground:=Ground.gcOnly Departure.lateStores }],none⟩
def oSt9_7:Oper:=⟨some 42,.load 3 (.tmp 41),3,"inclusion.go:48",#[⟨6,.data⟩,{ on:=11,ground:=Ground.gcOnly Departure.lateStores }],none⟩
def oSt9_8:Oper:=⟨some 43,.load 98 (.tmp 1),98,"inclusion.go:48",#[],none⟩
def oSt9_9:Oper:=⟨some 44,.slice 98 (.tmp 43) (some (.const (.int .i64 1))) none none,98,"inclusion.go:48",#[⟨8,.data⟩],none⟩
def oSt9_10:Oper:=⟨some 45,.fieldAddr 134 (.tmp 5) 0,0,"inclusion.go:48",#[⟨0,.phase⟩,⟨1,.phase⟩,⟨2,.phase⟩,⟨3,.phase⟩,⟨4,.textOnly .lateStores⟩,⟨5,.textOnly .lateStores⟩,⟨6,.textOnly .lateStores⟩,⟨7,.textOnly .lateStores⟩,⟨8,.textOnly .lateStores⟩,⟨9,.textOnly .lateStoresUnsure⟩],none⟩
def oSt9_11:Oper:=⟨none,.store 87 (.tmp 45) (.tmp 38),0,"inclusion.go:48",#[⟨10,.data⟩,⟨3,.data⟩,⟨0,.phase⟩,⟨1,.phase⟩,⟨2,.phase⟩,⟨3,.phase⟩,⟨4,.textOnly .lateStores⟩,⟨5,.textOnly .lateStores⟩,⟨6,.textOnly .lateStores⟩,⟨7,.textOnly .lateStores⟩,⟨8,.textOnly .lateStores⟩,⟨9,.textOnly .lateStoresUnsure⟩],none⟩
def oSt9_12:Oper:=⟨some 46,.fieldAddr 134 (.tmp 5) 1,0,"inclusion.go:48",#[],none⟩
def oSt9_13:Oper:=⟨some 47,.indexAddr 93 (.tmp 46) (.const (.int .i64 0)),0,"inclusion.go:48",#[⟨12,.data⟩,⟨0,.phase⟩,⟨1,.phase⟩,⟨2,.phase⟩,⟨3,.phase⟩,⟨4,.phase⟩,⟨5,.phase⟩,⟨6,.phase⟩,⟨7,.phase⟩,⟨8,.textOnly .lateStores⟩,⟨9,.textOnly .lateStoresUnsure⟩,⟨10,.phase⟩,⟨11,.phase⟩],none⟩
def oSt9_14:Oper:=⟨none,.store 3 (.tmp 47) (.tmp 42),0,"inclusion.go:48",#[⟨13,.data⟩,⟨7,.data⟩,⟨11,.chain⟩,⟨0,.phase⟩,⟨1,.phase⟩,⟨2,.phase⟩,⟨3,.phase⟩,⟨4,.phase⟩,⟨5,.phase⟩,⟨6,.phase⟩,⟨7,.phase⟩,⟨8,.textOnly .lateStores⟩,⟨9,.textOnly .lateStoresUnsure⟩,⟨10,.phase⟩,⟨11,.phase⟩],none⟩
def oSt9_15:Oper:=⟨none,.store 98 (.tmp 1) (.tmp 44),0,"inclusion.go:48",#[⟨9,.data⟩,⟨14,.chain⟩,⟨0,.phase⟩,⟨1,.phase⟩,⟨2,.phase⟩,⟨3,.phase⟩,⟨4,.phase⟩,⟨5,.phase⟩,⟨6,.phase⟩,⟨7,.phase⟩,⟨8,.phase⟩,⟨9,.phase⟩,⟨10,.phase⟩,⟨11,.phase⟩,⟨12,.phase⟩,⟨13,.phase⟩,⟨14,.phase⟩],none⟩
def opsStep9:List Oper:=[oSt9_0,oSt9_1,oSt9_2,oSt9_3,oSt9_4,oSt9_5,oSt9_6,oSt9_7,oSt9_8,oSt9_9,oSt9_10,oSt9_11,oSt9_12,oSt9_13,oSt9_14,oSt9_15]
theorem regStep9 {w:World}{x0 x2 x3 x4 x6 x7 x8 x9 x10 x11 x12 x13 x14 x15 x16 x17 x18 x19 x20 x21 x22 x23 x24 x25 x26 x27 x28 x29 x30 x31 x32 x33 x34 x35 x36 x37 x38 x39 x40 x41 x42 x43 x44 x45 x46 x47 x48 x49 x50 x51 x52 x53 x54 x55 x56 x57 x58 x59 x60 x61 x62 x63 x64 x65 x66:Value}{Q:Exit→Act→World→Prop}{b bx mb mo n c:Nat}{tp:Option Addr}{c0 c1 c2 c3 c4 c5 c6 c7 c8 r0 r1 r2 r3 r4 r5 r6 r7:Int}
  (k1:w.heap[b]? = some (stB c0 c1 c2 c3 c4 c5 c6 c7 c8)) (k2:w.heap[bx]? = some (.cells #[.slice (some ⟨mb,mo,none⟩) n c] 98)) (hbb:b ≠ bx) (hmb : ¬(mb=b∨mb=bx))
  (q0:w.cell? ⟨mb,mo,none⟩=some (.int .i64 r0)) (q1:w.cell? ⟨mb,mo+1,none⟩=some (.int .i64 r1)) (q2:w.cell? ⟨mb,mo+2,none⟩=some (.int .i64 r2)) (q3:w.cell? ⟨mb,mo+3,none⟩=some (.int .i64 r3)) (q4:w.cell? ⟨mb,mo+4,none⟩=some (.int .i64 r4)) (q5:w.cell? ⟨mb,mo+5,none⟩=some (.int .i64 r5)) (q6:w.cell? ⟨mb,mo+6,none⟩=some (.int .i64 r6)) (q7:w.cell? ⟨mb,mo+7,none⟩=some (.int .i64 r7))
  (hn1:1≤n) (hnc:n≤c) (hif:(if c=1 then some (⟨mb,mo,none⟩:Addr) else some ⟨mb,mo+8,none⟩)=tp)
  (hfin:∀(_y11 _y14 _y15:Value) (W:World),(SiG w W b bx∧W.heap[b]? = some (stB (if (fun i=>decide (i < 16)) 11=true then r0 else c0) (if (fun i=>decide (i < 16)) 11=true then r1 else c1) (if (fun i=>decide (i < 16)) 11=true then r2 else c2) (if (fun i=>decide (i < 16)) 11=true then r3 else c3) (if (fun i=>decide (i < 16)) 11=true then r4 else c4) (if (fun i=>decide (i < 16)) 11=true then r5 else c5) (if (fun i=>decide (i < 16)) 11=true then r6 else c6) (if (fun i=>decide (i < 16)) 14=true then r7 else c7) c8)∧W.heap[bx]? = some (.cells #[if (fun i=>decide (i < 16)) 15=true then .slice tp (n - 1) (c - 1) else .slice (some ⟨mb,mo,none⟩) n c] 98))→(True)→(True)→(True)→Q .normal ⟨#[x0,.pointer (some ⟨bx,0,none⟩),x2,x3,x4,.pointer (some ⟨b,0,none⟩),x6,x7,x8,x9,x10,x11,x12,x13,x14,x15,x16,x17,x18,x19,x20,x21,x22,x23,x24,x25,x26,x27,x28,x29,x30,x31,x32,x33,x34,.slice (some ⟨mb,mo,none⟩) n c,.pointer (some ⟨mb,mo,none⟩),.pointer (some ⟨mb,mo,none⟩),.agg #[.int .i64 r0,.int .i64 r1,.int .i64 r2,.int .i64 r3,.int .i64 r4,.int .i64 r5,.int .i64 r6],.slice (some ⟨mb,mo,none⟩) n c,.pointer (some ⟨mb,mo,none⟩),.pointer (some ⟨mb,mo+7,none⟩),.int .i64 r7,.slice (some ⟨mb,mo,none⟩) n c,.slice tp (n - 1) (c - 1),.pointer (some ⟨b,0,none⟩),.pointer (some ⟨b,7,none⟩),.pointer (some ⟨b,7,none⟩),x48,x49,x50,x51,x52,x53,x54,x55,x56,x57,x58,x59,x60,x61,x62,x63,x64,x65,x66],[]⟩ W) :
  (Code.region 9 opsStep9.toArray true).wp Tryz.prog Q ⟨#[x0,.pointer (some ⟨bx,0,none⟩),x2,x3,x4,.pointer (some ⟨b,0,none⟩),x6,x7,x8,x9,x10,x11,x12,x13,x14,x15,x16,x17,x18,x19,x20,x21,x22,x23,x24,x25,x26,x27,x28,x29,x30,x31,x32,x33,x34,x35,x36,x37,x38,x39,x40,x41,x42,x43,x44,x45,x46,x47,x48,x49,x50,x51,x52,x53,x54,x55,x56,x57,x58,x59,x60,x61,x62,x63,x64,x65,x66],[]⟩ w:=by
 have hn1i:(1:Int)≤(n:Int):=by omega
 have hn0i:(0:Int) < (n:Int):=by omega
 have hnci:(n:Int)≤(c:Int):=by omega
 have h1c:(1:Int)≤(c:Int):=by omega
 have hn0n:0 < n:=by omega
 obtain⟨SG,hSG⟩:=exS (StepG Tryz.prog opsStep9.toArray (fun ys=>⟨#[x0,.pointer (some ⟨bx,0,none⟩),x2,x3,x4,.pointer (some ⟨b,0,none⟩),x6,x7,x8,x9,x10,x11,x12,x13,x14,x15,x16,x17,x18,x19,x20,x21,x22,x23,x24,x25,x26,x27,x28,x29,x30,x31,x32,x33,x34,ys 0,ys 1,ys 2,ys 3,ys 4,ys 5,ys 6,ys 7,ys 8,ys 9,ys 10,ys 12,ys 13,x48,x49,x50,x51,x52,x53,x54,x55,x56,x57,x58,x59,x60,x61,x62,x63,x64,x65,x66],[]⟩) [eqV (.slice (some ⟨mb,mo,none⟩) n c),eqV (.pointer (some ⟨mb,mo,none⟩)),eqV (.pointer (some ⟨mb,mo,none⟩)),eqV (.agg #[.int .i64 r0,.int .i64 r1,.int .i64 r2,.int .i64 r3,.int .i64 r4,.int .i64 r5,.int .i64 r6]),eqV (.slice (some ⟨mb,mo,none⟩) n c),eqV (.pointer (some ⟨mb,mo,none⟩)),eqV (.pointer (some ⟨mb,mo+7,none⟩)),eqV (.int .i64 r7),eqV (.slice (some ⟨mb,mo,none⟩) n c),eqV (.slice tp (n - 1) (c - 1)),eqV (.pointer (some ⟨b,0,none⟩)),anyV,eqV (.pointer (some ⟨b,7,none⟩)),eqV (.pointer (some ⟨b,7,none⟩)),anyV,anyV] (fun _ _=>True) (fun D _ W=>SiG w W b bx∧W.heap[b]? = some (stB (if D 11=true then r0 else c0) (if D 11=true then r1 else c1) (if D 11=true then r2 else c2) (if D 11=true then r3 else c3) (if D 11=true then r4 else c4) (if D 11=true then r5 else c5) (if D 11=true then r6 else c6) (if D 14=true then r7 else c7) c8)∧W.heap[bx]? = some (.cells #[if D 15=true then .slice tp (n - 1) (c - 1) else .slice (some ⟨mb,mo,none⟩) n c] 98)) Q)
 have st0:SG 0 oSt9_0:=by
  subst hSG;refine StepG.mk rfl fun ys D W K hD hcl _ hG hK=>?_;unfold oSt9_0;obtain⟨g1,g2,g3⟩:=hG;have d15:=hcl.no (j:=15) (i:=0) rfl (by kernel_rfl) hD;rw[if_neg (by rw[d15];decide)] at g3;have cx:=cell_of_one g3;go_simp;exact hK _ _ trivial ⟨g1,g2,by rw[show addG D 0 15=D 15 from rfl,d15];exact g3⟩ rfl
 have st1:SG 1 oSt9_1:=by
  subst hSG;refine StepG.mk rfl (openY 0 fun y0=>fun ys D W K _ _ hd hG hK=>?_);have e0:y0=_:=(hd.get 0 rfl).2;subst e0;simp only[updG,Nat.reduceEqDiff,reduceIte];unfold oSt9_1;obtain⟨g1,g2,g3⟩:=hG;go_simp;exact hK _ _ trivial ⟨g1,g2,g3⟩ rfl
 have st2:SG 2 oSt9_2:=by
  subst hSG;refine StepG.mk rfl (openY 1 fun y1=>fun ys D W K _ _ hd hG hK=>?_);have e1:y1=_:=(hd.get 1 rfl).2;subst e1;simp only[updG,Nat.reduceEqDiff,reduceIte];unfold oSt9_2;obtain⟨g1,g2,g3⟩:=hG;go_simp;exact hK _ _ trivial ⟨g1,g2,g3⟩ rfl
 have st3:SG 3 oSt9_3:=by
  subst hSG;refine StepG.mk rfl (openY 2 fun y2=>fun ys D W K _ _ hd hG hK=>?_);have e2:y2=_:=(hd.get 2 rfl).2;subst e2;simp only[updG,Nat.reduceEqDiff,reduceIte];unfold oSt9_3;obtain⟨g1,g2,g3⟩:=hG;have a0:=g1.cell (p:=⟨mb,mo,none⟩) hmb q0;have a1:=g1.cell (p:=⟨mb,mo+1,none⟩) hmb q1;have a2:=g1.cell (p:=⟨mb,mo+2,none⟩) hmb q2;have a3:=g1.cell (p:=⟨mb,mo+3,none⟩) hmb q3;have a4:=g1.cell (p:=⟨mb,mo+4,none⟩) hmb q4;have a5:=g1.cell (p:=⟨mb,mo+5,none⟩) hmb q5;have a6:=g1.cell (p:=⟨mb,mo+6,none⟩) hmb q6;go_simp;exact hK _ _ trivial ⟨g1,g2,g3⟩ rfl
 have st4:SG 4 oSt9_4:=by
  subst hSG;refine StepG.mk rfl fun ys D W K hD hcl _ hG hK=>?_;unfold oSt9_4;obtain⟨g1,g2,g3⟩:=hG;have d15:=hcl.no (j:=15) (i:=4) rfl (by kernel_rfl) hD;rw[if_neg (by rw[d15];decide)] at g3;have cx:=cell_of_one g3;go_simp;exact hK _ _ trivial ⟨g1,g2,by rw[show addG D 4 15=D 15 from rfl,d15];exact g3⟩ rfl
 have st5:SG 5 oSt9_5:=by
  subst hSG;refine StepG.mk rfl (openY 4 fun y4=>fun ys D W K _ _ hd hG hK=>?_);have e4:y4=_:=(hd.get 4 rfl).2;subst e4;simp only[updG,Nat.reduceEqDiff,reduceIte];unfold oSt9_5;obtain⟨g1,g2,g3⟩:=hG;go_simp;exact hK _ _ trivial ⟨g1,g2,g3⟩ rfl
 have st6:SG 6 oSt9_6:=by
  subst hSG;refine StepG.mk rfl (openY 5 fun y5=>fun ys D W K _ _ hd hG hK=>?_);have e5:y5=_:=(hd.get 5 rfl).2;subst e5;simp only[updG,Nat.reduceEqDiff,reduceIte];unfold oSt9_6;obtain⟨g1,g2,g3⟩:=hG;go_simp;exact hK _ _ trivial ⟨g1,g2,g3⟩ rfl
 have st7:SG 7 oSt9_7:=by
  subst hSG;refine StepG.mk rfl (openY 6 fun y6=>fun ys D W K _ _ hd hG hK=>?_);have e6:y6=_:=(hd.get 6 rfl).2;subst e6;simp only[updG,Nat.reduceEqDiff,reduceIte];unfold oSt9_7;obtain⟨g1,g2,g3⟩:=hG;have a7:=g1.cell (p:=⟨mb,mo+7,none⟩) hmb q7;go_simp;exact hK _ _ trivial ⟨g1,g2,g3⟩ rfl
 have st8:SG 8 oSt9_8:=by
  subst hSG;refine StepG.mk rfl fun ys D W K hD hcl _ hG hK=>?_;unfold oSt9_8;obtain⟨g1,g2,g3⟩:=hG;have d15:=hcl.no (j:=15) (i:=8) rfl (by kernel_rfl) hD;rw[if_neg (by rw[d15];decide)] at g3;have cx:=cell_of_one g3;go_simp;exact hK _ _ trivial ⟨g1,g2,by rw[show addG D 8 15=D 15 from rfl,d15];exact g3⟩ rfl
 have st9:SG 9 oSt9_9:=by
  subst hSG;refine StepG.mk rfl (openY 8 fun y8=>fun ys D W K _ _ hd hG hK=>?_);have e8:y8=_:=(hd.get 8 rfl).2;subst e8;simp only[updG,Nat.reduceEqDiff,reduceIte];unfold oSt9_9;obtain⟨g1,g2,g3⟩:=hG;go_simp;exact hK _ _ trivial ⟨g1,g2,g3⟩ rfl
 have st10:SG 10 oSt9_10:=by
  subst hSG;refine StepG.mk rfl fun ys D W K _ _ _ hG hK=>?_;unfold oSt9_10;obtain⟨g1,g2,g3⟩:=hG;go_simp;exact hK _ _ trivial ⟨g1,g2,g3⟩ rfl
 have st11:SG 11 oSt9_11:=by
  subst hSG;refine StepG.mk rfl (openY 10 fun y10=>openY 3 fun y3=>fun ys D W K hD _ hd hG hK=>?_);have e10:y10=_:=(hd.get 10 rfl).2;have e3:y3=_:=(hd.get 3 rfl).2;subst e10 e3;simp only[updG,Nat.reduceEqDiff,reduceIte];unfold oSt9_11;obtain⟨g1,g2,g3⟩:=hG;rw[hD] at g2;simp only[Bool.false_eq_true,if_false] at g2;obtain⟨⟨z0,z1,z2,z3,z4,z5,z6⟩,z7,z8⟩:=stB.cells g2;have fz:=row_free g2;have g4:=stB.round g2 r0 r1 r2 r3 r4 r5 r6;have hne:bx ≠ b:=fun e=>hbb e.symm;have g5:∀k,k ≠ b→(((((((W.setCell ⟨b,0,none⟩ (.int .i64 r0)).setCell ⟨b,1,none⟩ (.int .i64 r1)).setCell ⟨b,2,none⟩ (.int .i64 r2)).setCell ⟨b,3,none⟩ (.int .i64 r3)).setCell ⟨b,4,none⟩ (.int .i64 r4)).setCell ⟨b,5,none⟩ (.int .i64 r5)).setCell ⟨b,6,none⟩ (.int .i64 r6)).heap[k]? = W.heap[k]?:=fun k hk=>(Below.heap_setCell _ ⟨b,6,none⟩ _ k hk).trans ((Below.heap_setCell _ ⟨b,5,none⟩ _ k hk).trans ((Below.heap_setCell _ ⟨b,4,none⟩ _ k hk).trans ((Below.heap_setCell _ ⟨b,3,none⟩ _ k hk).trans ((Below.heap_setCell _ ⟨b,2,none⟩ _ k hk).trans ((Below.heap_setCell _ ⟨b,1,none⟩ _ k hk).trans (Below.heap_setCell _ ⟨b,0,none⟩ _ k hk))))));have g6:=((((((g1.setCell (p:=⟨b,0,none⟩) (.inl rfl) (.int .i64 r0)).setCell (p:=⟨b,1,none⟩) (.inl rfl) (.int .i64 r1)).setCell (p:=⟨b,2,none⟩) (.inl rfl) (.int .i64 r2)).setCell (p:=⟨b,3,none⟩) (.inl rfl) (.int .i64 r3)).setCell (p:=⟨b,4,none⟩) (.inl rfl) (.int .i64 r4)).setCell (p:=⟨b,5,none⟩) (.inl rfl) (.int .i64 r5)).setCell (p:=⟨b,6,none⟩) (.inl rfl) (.int .i64 r6);go_simp;exact hK undef _ trivial ⟨g6,by rw[show addG D 11 11=true from rfl,show addG D 11 14=D 14 from rfl];simpa only [if_true] using g4,by rw[show addG D 11 15=D 15 from rfl];exact(g5 bx hne).trans g3⟩ trivial
 have st12:SG 12 oSt9_12:=by
  subst hSG;refine StepG.mk rfl fun ys D W K _ _ _ hG hK=>?_;unfold oSt9_12;obtain⟨g1,g2,g3⟩:=hG;go_simp;exact hK _ _ trivial ⟨g1,g2,g3⟩ rfl
 have st13:SG 13 oSt9_13:=by
  subst hSG;refine StepG.mk rfl (openY 12 fun y12=>fun ys D W K _ _ hd hG hK=>?_);have e12:y12=_:=(hd.get 12 rfl).2;subst e12;simp only[updG,Nat.reduceEqDiff,reduceIte];unfold oSt9_13;obtain⟨g1,g2,g3⟩:=hG;go_simp;exact hK _ _ trivial ⟨g1,g2,g3⟩ rfl
 have st14:SG 14 oSt9_14:=by
  subst hSG;refine StepG.mk rfl (openY 13 fun y13=>openY 7 fun y7=>fun ys D W K hD _ hd hG hK=>?_);have e13:y13=_:=(hd.get 13 rfl).2;have e7:y7=_:=(hd.get 7 rfl).2;subst e13 e7;simp only[updG,Nat.reduceEqDiff,reduceIte];unfold oSt9_14;obtain⟨g1,g2,g3⟩:=hG;rw[hD] at g2;simp only[Bool.false_eq_true,if_false] at g2;obtain⟨⟨z0,z1,z2,z3,z4,z5,z6⟩,z7,z8⟩:=stB.cells g2;have fz:=row_free g2;have g4:=stB.set7 g2 r7;have hne:bx ≠ b:=fun e=>hbb e.symm;go_simp;exact hK undef _ trivial ⟨g1.setCell (p:=⟨b,7,none⟩) (.inl rfl) _,by rw[show addG D 14 11=D 11 from rfl,show addG D 14 14=true from rfl];simpa only [if_true] using g4,by rw[show addG D 14 15=D 15 from rfl];exact(Below.heap_setCell W ⟨b,7,none⟩ _ bx hne).trans g3⟩ trivial
 have st15:SG 15 oSt9_15:=by
  subst hSG;refine StepG.mk rfl (openY 9 fun y9=>fun ys D W K hD _ hd hG hK=>?_);have e9:y9=_:=(hd.get 9 rfl).2;subst e9;simp only[updG,Nat.reduceEqDiff,reduceIte];unfold oSt9_15;obtain⟨g1,g2,g3⟩:=hG;rw[hD] at g3;simp only[Bool.false_eq_true,if_false] at g3;have cx:=cell_of_one g3;have fz:=free_of_one g3;have g4:=one_setCell (u:=.slice tp (n - 1) (c - 1)) g3;go_simp;exact hK undef _ trivial ⟨g1.setCell (p:=⟨bx,0,none⟩) (.inr rfl) _,by rw[show addG D 15 11=D 11 from rfl,show addG D 15 14=D 14 from rfl];exact(Below.heap_setCell W ⟨bx,0,none⟩ _ b hbb).trans g2,by rw[show addG D 15 15=true from rfl];simpa only [if_true] using g4⟩ trivial
 subst hSG;refine wp_region_sg (l:=opsStep9) ⟨st0,st1,st2,st3,st4,st5,st6,st7,st8,st9,st10,st11,st12,st13,st14,st15,trivial⟩ (fun i=>([x35,x36,x37,x38,x39,x40,x41,x42,x43,x44,x45,undef,x46,x47,undef,undef]:List Value).getD i undef) (by kernel_rfl) (by kernel_rfl) ⟨sE,sE,sE,sE,sE,sE,sE,sE,sE,sE,sE,fun _ _ _ h _=>h,sE,sE,fun _ _ _ h _=>h,fun _ _ _ h _=>h,trivial⟩ ?g0 ?gx ?fin
 case g0=>exact⟨(Only.refl _ w).drewN 1,k1,k2⟩
 case gx=>exact fun D D' _ W h ⟨h1,h2,h3⟩=>⟨h1,by rw[←h 11 (by decide),←h 14 (by decide)];exact h2,by rw[←h 15 (by decide)];exact h3⟩
 case fin=>
  intro ys W hG hp;dsimp only
  rw[(hp 0 (by decide):ys 0=_),(hp 1 (by decide):ys 1=_),(hp 2 (by decide):ys 2=_),(hp 3 (by decide):ys 3=_),(hp 4 (by decide):ys 4=_),(hp 5 (by decide):ys 5=_),(hp 6 (by decide):ys 6=_),(hp 7 (by decide):ys 7=_),(hp 8 (by decide):ys 8=_),(hp 9 (by decide):ys 9=_),(hp 10 (by decide):ys 10=_),(hp 12 (by decide):ys 12=_),(hp 13 (by decide):ys 13=_)];exact hfin (ys 11) (ys 14) (ys 15) W hG (hp 11 (by decide)) (hp 14 (by decide)) (hp 15 (by decide))
def oSt11_0:Oper:=⟨some 50,.load 98 (.tmp 2),98,"inclusion.go:51",#[],none⟩
def oSt11_1:Oper:=⟨some 51,.indexAddr 98 (.tmp 50) (.const (.int .i64 0)),0,"inclusion.go:51",#[⟨0,.data⟩],none⟩
def oSt11_2:Oper:=⟨some 52,.fieldAddr 100 (.tmp 51) 0,0,"inclusion.go:51",#[⟨1,.data⟩],none⟩
def oSt11_3:Oper:=⟨some 53,.load 87 (.tmp 52),87,"inclusion.go:51",#[⟨2,.data⟩],none⟩
def oSt11_4:Oper:=⟨some 54,.load 98 (.tmp 2),98,"inclusion.go:51",#[{ on:=11,ground:=Ground.gcOnly Departure.lateStores }],none⟩
def oSt11_5:Oper:=⟨some 55,.indexAddr 98 (.tmp 54) (.const (.int .i64 0)),0,"inclusion.go:51",#[⟨4,.data⟩,{ on:=11,ground:=Ground.gcOnly Departure.lateStores }],none⟩
def oSt11_6:Oper:=⟨some 56,.fieldAddr 100 (.tmp 55) 1,0,"inclusion.go:51",#[⟨5,.data⟩,{ on:=11,ground:=Ground.gcOnly Departure.lateStores }],none⟩
def oSt11_7:Oper:=⟨some 57,.load 3 (.tmp 56),3,"inclusion.go:51",#[⟨6,.data⟩,{ on:=11,ground:=Ground.gcOnly Departure.lateStores }],none⟩
def oSt11_8:Oper:=⟨some 58,.load 98 (.tmp 2),98,"inclusion.go:51",#[],none⟩
def oSt11_9:Oper:=⟨some 59,.slice 98 (.tmp 58) (some (.const (.int .i64 1))) none none,98,"inclusion.go:51",#[⟨8,.data⟩],none⟩
def oSt11_10:Oper:=⟨some 60,.fieldAddr 134 (.tmp 5) 0,0,"inclusion.go:51",#[⟨0,.phase⟩,⟨1,.phase⟩,⟨2,.phase⟩,⟨3,.phase⟩,⟨4,.textOnly .lateStores⟩,⟨5,.textOnly .lateStores⟩,⟨6,.textOnly .lateStores⟩,⟨7,.textOnly .lateStores⟩,⟨8,.textOnly .lateStores⟩,⟨9,.textOnly .lateStoresUnsure⟩],none⟩
def oSt11_11:Oper:=⟨none,.store 87 (.tmp 60) (.tmp 53),0,"inclusion.go:51",#[⟨10,.data⟩,⟨3,.data⟩,⟨0,.phase⟩,⟨1,.phase⟩,⟨2,.phase⟩,⟨3,.phase⟩,⟨4,.textOnly .lateStores⟩,⟨5,.textOnly .lateStores⟩,⟨6,.textOnly .lateStores⟩,⟨7,.textOnly .lateStores⟩,⟨8,.textOnly .lateStores⟩,⟨9,.textOnly .lateStoresUnsure⟩],none⟩
def oSt11_12:Oper:=⟨some 61,.fieldAddr 134 (.tmp 5) 1,0,"inclusion.go:51",#[],none⟩
def oSt11_13:Oper:=⟨some 62,.indexAddr 93 (.tmp 61) (.const (.int .i64 1)),0,"inclusion.go:51",#[⟨12,.data⟩,⟨0,.phase⟩,⟨1,.phase⟩,⟨2,.phase⟩,⟨3,.phase⟩,⟨4,.phase⟩,⟨5,.phase⟩,⟨6,.phase⟩,⟨7,.phase⟩,⟨8,.textOnly .lateStores⟩,⟨9,.textOnly .lateStoresUnsure⟩,⟨10,.phase⟩,⟨11,.phase⟩],none⟩
def oSt11_14:Oper:=⟨none,.store 3 (.tmp 62) (.tmp 57),0,"inclusion.go:51",#[⟨13,.data⟩,⟨7,.data⟩,⟨11,.chain⟩,⟨0,.phase⟩,⟨1,.phase⟩,⟨2,.phase⟩,⟨3,.phase⟩,⟨4,.phase⟩,⟨5,.phase⟩,⟨6,.phase⟩,⟨7,.phase⟩,⟨8,.textOnly .lateStores⟩,⟨9,.textOnly .lateStoresUnsure⟩,⟨10,.phase⟩,⟨11,.phase⟩],none⟩
def oSt11_15:Oper:=⟨none,.store 98 (.tmp 2) (.tmp 59),0,"inclusion.go:51",#[⟨9,.data⟩,⟨14,.chain⟩,⟨0,.phase⟩,⟨1,.phase⟩,⟨2,.phase⟩,⟨3,.phase⟩,⟨4,.phase⟩,⟨5,.phase⟩,⟨6,.phase⟩,⟨7,.phase⟩,⟨8,.phase⟩,⟨9,.phase⟩,⟨10,.phase⟩,⟨11,.phase⟩,⟨12,.phase⟩,⟨13,.phase⟩,⟨14,.phase⟩],none⟩
def opsStep11:List Oper:=[oSt11_0,oSt11_1,oSt11_2,oSt11_3,oSt11_4,oSt11_5,oSt11_6,oSt11_7,oSt11_8,oSt11_9,oSt11_10,oSt11_11,oSt11_12,oSt11_13,oSt11_14,oSt11_15]
theorem regStep11 {w:World}{x0 x1 x3 x4 x6 x7 x8 x9 x10 x11 x12 x13 x14 x15 x16 x17 x18 x19 x20 x21 x22 x23 x24 x25 x26 x27 x28 x29 x30 x31 x32 x33 x34 x35 x36 x37 x38 x39 x40 x41 x42 x43 x44 x45 x46 x47 x48 x49 x50 x51 x52 x53 x54 x55 x56 x57 x58 x59 x60 x61 x62 x63 x64 x65 x66:Value}{Q:Exit→Act→World→Prop}{b bx mb mo n c:Nat}{tp:Option Addr}{c0 c1 c2 c3 c4 c5 c6 c7 c8 r0 r1 r2 r3 r4 r5 r6 r7:Int}
  (k1:w.heap[b]? = some (stB c0 c1 c2 c3 c4 c5 c6 c7 c8)) (k2:w.heap[bx]? = some (.cells #[.slice (some ⟨mb,mo,none⟩) n c] 98)) (hbb:b ≠ bx) (hmb : ¬(mb=b∨mb=bx))
  (q0:w.cell? ⟨mb,mo,none⟩=some (.int .i64 r0)) (q1:w.cell? ⟨mb,mo+1,none⟩=some (.int .i64 r1)) (q2:w.cell? ⟨mb,mo+2,none⟩=some (.int .i64 r2)) (q3:w.cell? ⟨mb,mo+3,none⟩=some (.int .i64 r3)) (q4:w.cell? ⟨mb,mo+4,none⟩=some (.int .i64 r4)) (q5:w.cell? ⟨mb,mo+5,none⟩=some (.int .i64 r5)) (q6:w.cell? ⟨mb,mo+6,none⟩=some (.int .i64 r6)) (q7:w.cell? ⟨mb,mo+7,none⟩=some (.int .i64 r7))
  (hn1:1≤n) (hnc:n≤c) (hif:(if c=1 then some (⟨mb,mo,none⟩:Addr) else some ⟨mb,mo+8,none⟩)=tp)
  (hfin:∀(_y11 _y14 _y15:Value) (W:World),(SiG w W b bx∧W.heap[b]? = some (stB (if (fun i=>decide (i < 16)) 11=true then r0 else c0) (if (fun i=>decide (i < 16)) 11=true then r1 else c1) (if (fun i=>decide (i < 16)) 11=true then r2 else c2) (if (fun i=>decide (i < 16)) 11=true then r3 else c3) (if (fun i=>decide (i < 16)) 11=true then r4 else c4) (if (fun i=>decide (i < 16)) 11=true then r5 else c5) (if (fun i=>decide (i < 16)) 11=true then r6 else c6) c7 (if (fun i=>decide (i < 16)) 14=true then r7 else c8))∧W.heap[bx]? = some (.cells #[if (fun i=>decide (i < 16)) 15=true then .slice tp (n - 1) (c - 1) else .slice (some ⟨mb,mo,none⟩) n c] 98))→(True)→(True)→(True)→Q .normal ⟨#[x0,x1,.pointer (some ⟨bx,0,none⟩),x3,x4,.pointer (some ⟨b,0,none⟩),x6,x7,x8,x9,x10,x11,x12,x13,x14,x15,x16,x17,x18,x19,x20,x21,x22,x23,x24,x25,x26,x27,x28,x29,x30,x31,x32,x33,x34,x35,x36,x37,x38,x39,x40,x41,x42,x43,x44,x45,x46,x47,x48,x49,.slice (some ⟨mb,mo,none⟩) n c,.pointer (some ⟨mb,mo,none⟩),.pointer (some ⟨mb,mo,none⟩),.agg #[.int .i64 r0,.int .i64 r1,.int .i64 r2,.int .i64 r3,.int .i64 r4,.int .i64 r5,.int .i64 r6],.slice (some ⟨mb,mo,none⟩) n c,.pointer (some ⟨mb,mo,none⟩),.pointer (some ⟨mb,mo+7,none⟩),.int .i64 r7,.slice (some ⟨mb,mo,none⟩) n c,.slice tp (n - 1) (c - 1),.pointer (some ⟨b,0,none⟩),.pointer (some ⟨b,7,none⟩),.pointer (some ⟨b,8,none⟩),x63,x64,x65,x66],[]⟩ W) :
  (Code.region 11 opsStep11.toArray true).wp Tryz.prog Q ⟨#[x0,x1,.pointer (some ⟨bx,0,none⟩),x3,x4,.pointer (some ⟨b,0,none⟩),x6,x7,x8,x9,x10,x11,x12,x13,x14,x15,x16,x17,x18,x19,x20,x21,x22,x23,x24,x25,x26,x27,x28,x29,x30,x31,x32,x33,x34,x35,x36,x37,x38,x39,x40,x41,x42,x43,x44,x45,x46,x47,x48,x49,x50,x51,x52,x53,x54,x55,x56,x57,x58,x59,x60,x61,x62,x63,x64,x65,x66],[]⟩ w:=by
 have hn1i:(1:Int)≤(n:Int):=by omega
 have hn0i:(0:Int) < (n:Int):=by omega
 have hnci:(n:Int)≤(c:Int):=by omega
 have h1c:(1:Int)≤(c:Int):=by omega
 have hn0n:0 < n:=by omega
 obtain⟨SG,hSG⟩:=exS (StepG Tryz.prog opsStep11.toArray (fun ys=>⟨#[x0,x1,.pointer (some ⟨bx,0,none⟩),x3,x4,.pointer (some ⟨b,0,none⟩),x6,x7,x8,x9,x10,x11,x12,x13,x14,x15,x16,x17,x18,x19,x20,x21,x22,x23,x24,x25,x26,x27,x28,x29,x30,x31,x32,x33,x34,x35,x36,x37,x38,x39,x40,x41,x42,x43,x44,x45,x46,x47,x48,x49,ys 0,ys 1,ys 2,ys 3,ys 4,ys 5,ys 6,ys 7,ys 8,ys 9,ys 10,ys 12,ys 13,x63,x64,x65,x66],[]⟩) [eqV (.slice (some ⟨mb,mo,none⟩) n c),eqV (.pointer (some ⟨mb,mo,none⟩)),eqV (.pointer (some ⟨mb,mo,none⟩)),eqV (.agg #[.int .i64 r0,.int .i64 r1,.int .i64 r2,.int .i64 r3,.int .i64 r4,.int .i64 r5,.int .i64 r6]),eqV (.slice (some ⟨mb,mo,none⟩) n c),eqV (.pointer (some ⟨mb,mo,none⟩)),eqV (.pointer (some ⟨mb,mo+7,none⟩)),eqV (.int .i64 r7),eqV (.slice (some ⟨mb,mo,none⟩) n c),eqV (.slice tp (n - 1) (c - 1)),eqV (.pointer (some ⟨b,0,none⟩)),anyV,eqV (.pointer (some ⟨b,7,none⟩)),eqV (.pointer (some ⟨b,8,none⟩)),anyV,anyV] (fun _ _=>True) (fun D _ W=>SiG w W b bx∧W.heap[b]? = some (stB (if D 11=true then r0 else c0) (if D 11=true then r1 else c1) (if D 11=true then r2 else c2) (if D 11=true then r3 else c3) (if D 11=true then r4 else c4) (if D 11=true then r5 else c5) (if D 11=true then r6 else c6) c7 (if D 14=true then r7 else c8))∧W.heap[bx]? = some (.cells #[if D 15=true then .slice tp (n - 1) (c - 1) else .slice (some ⟨mb,mo,none⟩) n c] 98)) Q)
 have st0:SG 0 oSt11_0:=by
  subst hSG;refine StepG.mk rfl fun ys D W K hD hcl _ hG hK=>?_;unfold oSt11_0;obtain⟨g1,g2,g3⟩:=hG;have d15:=hcl.no (j:=15) (i:=0) rfl (by kernel_rfl) hD;rw[if_neg (by rw[d15];decide)] at g3;have cx:=cell_of_one g3;go_simp;exact hK _ _ trivial ⟨g1,g2,by rw[show addG D 0 15=D 15 from rfl,d15];exact g3⟩ rfl
 have st1:SG 1 oSt11_1:=by
  subst hSG;refine StepG.mk rfl (openY 0 fun y0=>fun ys D W K _ _ hd hG hK=>?_);have e0:y0=_:=(hd.get 0 rfl).2;subst e0;simp only[updG,Nat.reduceEqDiff,reduceIte];unfold oSt11_1;obtain⟨g1,g2,g3⟩:=hG;go_simp;exact hK _ _ trivial ⟨g1,g2,g3⟩ rfl
 have st2:SG 2 oSt11_2:=by
  subst hSG;refine StepG.mk rfl (openY 1 fun y1=>fun ys D W K _ _ hd hG hK=>?_);have e1:y1=_:=(hd.get 1 rfl).2;subst e1;simp only[updG,Nat.reduceEqDiff,reduceIte];unfold oSt11_2;obtain⟨g1,g2,g3⟩:=hG;go_simp;exact hK _ _ trivial ⟨g1,g2,g3⟩ rfl
 have st3:SG 3 oSt11_3:=by
  subst hSG;refine StepG.mk rfl (openY 2 fun y2=>fun ys D W K _ _ hd hG hK=>?_);have e2:y2=_:=(hd.get 2 rfl).2;subst e2;simp only[updG,Nat.reduceEqDiff,reduceIte];unfold oSt11_3;obtain⟨g1,g2,g3⟩:=hG;have a0:=g1.cell (p:=⟨mb,mo,none⟩) hmb q0;have a1:=g1.cell (p:=⟨mb,mo+1,none⟩) hmb q1;have a2:=g1.cell (p:=⟨mb,mo+2,none⟩) hmb q2;have a3:=g1.cell (p:=⟨mb,mo+3,none⟩) hmb q3;have a4:=g1.cell (p:=⟨mb,mo+4,none⟩) hmb q4;have a5:=g1.cell (p:=⟨mb,mo+5,none⟩) hmb q5;have a6:=g1.cell (p:=⟨mb,mo+6,none⟩) hmb q6;go_simp;exact hK _ _ trivial ⟨g1,g2,g3⟩ rfl
 have st4:SG 4 oSt11_4:=by
  subst hSG;refine StepG.mk rfl fun ys D W K hD hcl _ hG hK=>?_;unfold oSt11_4;obtain⟨g1,g2,g3⟩:=hG;have d15:=hcl.no (j:=15) (i:=4) rfl (by kernel_rfl) hD;rw[if_neg (by rw[d15];decide)] at g3;have cx:=cell_of_one g3;go_simp;exact hK _ _ trivial ⟨g1,g2,by rw[show addG D 4 15=D 15 from rfl,d15];exact g3⟩ rfl
 have st5:SG 5 oSt11_5:=by
  subst hSG;refine StepG.mk rfl (openY 4 fun y4=>fun ys D W K _ _ hd hG hK=>?_);have e4:y4=_:=(hd.get 4 rfl).2;subst e4;simp only[updG,Nat.reduceEqDiff,reduceIte];unfold oSt11_5;obtain⟨g1,g2,g3⟩:=hG;go_simp;exact hK _ _ trivial ⟨g1,g2,g3⟩ rfl
 have st6:SG 6 oSt11_6:=by
  subst hSG;refine StepG.mk rfl (openY 5 fun y5=>fun ys D W K _ _ hd hG hK=>?_);have e5:y5=_:=(hd.get 5 rfl).2;subst e5;simp only[updG,Nat.reduceEqDiff,reduceIte];unfold oSt11_6;obtain⟨g1,g2,g3⟩:=hG;go_simp;exact hK _ _ trivial ⟨g1,g2,g3⟩ rfl
 have st7:SG 7 oSt11_7:=by
  subst hSG;refine StepG.mk rfl (openY 6 fun y6=>fun ys D W K _ _ hd hG hK=>?_);have e6:y6=_:=(hd.get 6 rfl).2;subst e6;simp only[updG,Nat.reduceEqDiff,reduceIte];unfold oSt11_7;obtain⟨g1,g2,g3⟩:=hG;have a7:=g1.cell (p:=⟨mb,mo+7,none⟩) hmb q7;go_simp;exact hK _ _ trivial ⟨g1,g2,g3⟩ rfl
 have st8:SG 8 oSt11_8:=by
  subst hSG;refine StepG.mk rfl fun ys D W K hD hcl _ hG hK=>?_;unfold oSt11_8;obtain⟨g1,g2,g3⟩:=hG;have d15:=hcl.no (j:=15) (i:=8) rfl (by kernel_rfl) hD;rw[if_neg (by rw[d15];decide)] at g3;have cx:=cell_of_one g3;go_simp;exact hK _ _ trivial ⟨g1,g2,by rw[show addG D 8 15=D 15 from rfl,d15];exact g3⟩ rfl
 have st9:SG 9 oSt11_9:=by
  subst hSG;refine StepG.mk rfl (openY 8 fun y8=>fun ys D W K _ _ hd hG hK=>?_);have e8:y8=_:=(hd.get 8 rfl).2;subst e8;simp only[updG,Nat.reduceEqDiff,reduceIte];unfold oSt11_9;obtain⟨g1,g2,g3⟩:=hG;go_simp;exact hK _ _ trivial ⟨g1,g2,g3⟩ rfl
 have st10:SG 10 oSt11_10:=by
  subst hSG;refine StepG.mk rfl fun ys D W K _ _ _ hG hK=>?_;unfold oSt11_10;obtain⟨g1,g2,g3⟩:=hG;go_simp;exact hK _ _ trivial ⟨g1,g2,g3⟩ rfl
 have st11:SG 11 oSt11_11:=by
  subst hSG;refine StepG.mk rfl (openY 10 fun y10=>openY 3 fun y3=>fun ys D W K hD _ hd hG hK=>?_);have e10:y10=_:=(hd.get 10 rfl).2;have e3:y3=_:=(hd.get 3 rfl).2;subst e10 e3;simp only[updG,Nat.reduceEqDiff,reduceIte];unfold oSt11_11;obtain⟨g1,g2,g3⟩:=hG;rw[hD] at g2;simp only[Bool.false_eq_true,if_false] at g2;obtain⟨⟨z0,z1,z2,z3,z4,z5,z6⟩,z7,z8⟩:=stB.cells g2;have fz:=row_free g2;have g4:=stB.round g2 r0 r1 r2 r3 r4 r5 r6;have hne:bx ≠ b:=fun e=>hbb e.symm;have g5:∀k,k ≠ b→(((((((W.setCell ⟨b,0,none⟩ (.int .i64 r0)).setCell ⟨b,1,none⟩ (.int .i64 r1)).setCell ⟨b,2,none⟩ (.int .i64 r2)).setCell ⟨b,3,none⟩ (.int .i64 r3)).setCell ⟨b,4,none⟩ (.int .i64 r4)).setCell ⟨b,5,none⟩ (.int .i64 r5)).setCell ⟨b,6,none⟩ (.int .i64 r6)).heap[k]? = W.heap[k]?:=fun k hk=>(Below.heap_setCell _ ⟨b,6,none⟩ _ k hk).trans ((Below.heap_setCell _ ⟨b,5,none⟩ _ k hk).trans ((Below.heap_setCell _ ⟨b,4,none⟩ _ k hk).trans ((Below.heap_setCell _ ⟨b,3,none⟩ _ k hk).trans ((Below.heap_setCell _ ⟨b,2,none⟩ _ k hk).trans ((Below.heap_setCell _ ⟨b,1,none⟩ _ k hk).trans (Below.heap_setCell _ ⟨b,0,none⟩ _ k hk))))));have g6:=((((((g1.setCell (p:=⟨b,0,none⟩) (.inl rfl) (.int .i64 r0)).setCell (p:=⟨b,1,none⟩) (.inl rfl) (.int .i64 r1)).setCell (p:=⟨b,2,none⟩) (.inl rfl) (.int .i64 r2)).setCell (p:=⟨b,3,none⟩) (.inl rfl) (.int .i64 r3)).setCell (p:=⟨b,4,none⟩) (.inl rfl) (.int .i64 r4)).setCell (p:=⟨b,5,none⟩) (.inl rfl) (.int .i64 r5)).setCell (p:=⟨b,6,none⟩) (.inl rfl) (.int .i64 r6);go_simp;exact hK undef _ trivial ⟨g6,by rw[show addG D 11 11=true from rfl,show addG D 11 14=D 14 from rfl];simpa only [if_true] using g4,by rw[show addG D 11 15=D 15 from rfl];exact(g5 bx hne).trans g3⟩ trivial
 have st12:SG 12 oSt11_12:=by
  subst hSG;refine StepG.mk rfl fun ys D W K _ _ _ hG hK=>?_;unfold oSt11_12;obtain⟨g1,g2,g3⟩:=hG;go_simp;exact hK _ _ trivial ⟨g1,g2,g3⟩ rfl
 have st13:SG 13 oSt11_13:=by
  subst hSG;refine StepG.mk rfl (openY 12 fun y12=>fun ys D W K _ _ hd hG hK=>?_);have e12:y12=_:=(hd.get 12 rfl).2;subst e12;simp only[updG,Nat.reduceEqDiff,reduceIte];unfold oSt11_13;obtain⟨g1,g2,g3⟩:=hG;go_simp;exact hK _ _ trivial ⟨g1,g2,g3⟩ rfl
 have st14:SG 14 oSt11_14:=by
  subst hSG;refine StepG.mk rfl (openY 13 fun y13=>openY 7 fun y7=>fun ys D W K hD _ hd hG hK=>?_);have e13:y13=_:=(hd.get 13 rfl).2;have e7:y7=_:=(hd.get 7 rfl).2;subst e13 e7;simp only[updG,Nat.reduceEqDiff,reduceIte];unfold oSt11_14;obtain⟨g1,g2,g3⟩:=hG;rw[hD] at g2;simp only[Bool.false_eq_true,if_false] at g2;obtain⟨⟨z0,z1,z2,z3,z4,z5,z6⟩,z7,z8⟩:=stB.cells g2;have fz:=row_free g2;have g4:=stB.set8 g2 r7;have hne:bx ≠ b:=fun e=>hbb e.symm;go_simp;exact hK undef _ trivial ⟨g1.setCell (p:=⟨b,8,none⟩) (.inl rfl) _,by rw[show addG D 14 11=D 11 from rfl,show addG D 14 14=true from rfl];simpa only [if_true] using g4,by rw[show addG D 14 15=D 15 from rfl];exact(Below.heap_setCell W ⟨b,8,none⟩ _ bx hne).trans g3⟩ trivial
 have st15:SG 15 oSt11_15:=by
  subst hSG;refine StepG.mk rfl (openY 9 fun y9=>fun ys D W K hD _ hd hG hK=>?_);have e9:y9=_:=(hd.get 9 rfl).2;subst e9;simp only[updG,Nat.reduceEqDiff,reduceIte];unfold oSt11_15;obtain⟨g1,g2,g3⟩:=hG;rw[hD] at g3;simp only[Bool.false_eq_true,if_false] at g3;have cx:=cell_of_one g3;have fz:=free_of_one g3;have g4:=one_setCell (u:=.slice tp (n - 1) (c - 1)) g3;go_simp;exact hK undef _ trivial ⟨g1.setCell (p:=⟨bx,0,none⟩) (.inr rfl) _,by rw[show addG D 15 11=D 11 from rfl,show addG D 15 14=D 14 from rfl];exact(Below.heap_setCell W ⟨bx,0,none⟩ _ b hbb).trans g2,by rw[show addG D 15 15=true from rfl];simpa only [if_true] using g4⟩ trivial
 subst hSG;refine wp_region_sg (l:=opsStep11) ⟨st0,st1,st2,st3,st4,st5,st6,st7,st8,st9,st10,st11,st12,st13,st14,st15,trivial⟩ (fun i=>([x50,x51,x52,x53,x54,x55,x56,x57,x58,x59,x60,undef,x61,x62,undef,undef]:List Value).getD i undef) (by kernel_rfl) (by kernel_rfl) ⟨sE,sE,sE,sE,sE,sE,sE,sE,sE,sE,sE,fun _ _ _ h _=>h,sE,sE,fun _ _ _ h _=>h,fun _ _ _ h _=>h,trivial⟩ ?g0 ?gx ?fin
 case g0=>exact⟨(Only.refl _ w).drewN 1,k1,k2⟩
 case gx=>exact fun D D' _ W h ⟨h1,h2,h3⟩=>⟨h1,by rw[←h 11 (by decide),←h 14 (by decide)];exact h2,by rw[←h 15 (by decide)];exact h3⟩
 case fin=>
  intro ys W hG hp;dsimp only
  rw[(hp 0 (by decide):ys 0=_),(hp 1 (by decide):ys 1=_),(hp 2 (by decide):ys 2=_),(hp 3 (by decide):ys 3=_),(hp 4 (by decide):ys 4=_),(hp 5 (by decide):ys 5=_),(hp 6 (by decide):ys 6=_),(hp 7 (by decide):ys 7=_),(hp 8 (by decide):ys 8=_),(hp 9 (by decide):ys 9=_),(hp 10 (by decide):ys 10=_),(hp 12 (by decide):ys 12=_),(hp 13 (by decide):ys 13=_)];exact hfin (ys 11) (ys 14) (ys 15) W hG (hp 11 (by decide)) (hp 14 (by decide)) (hp 15 (by decide))
end Go.Proofs.YtmikofeildnpdaaGreat
namespace Go.Proofs.YtmikofeildnpdaaGreat
open Go.RowKit Go.ChangeShapes Go.WideShapes Go.ChangeAt Go.Deep Go.WideElems
section
variable {H:Type} {enc:TypeId × Value→H} {w:World} {base:Nat} {spare:Nat→Bool} {held:Bool}
theorem eightL {cs:List Value}(h:cs.length=8):∃a b c d e f g i,cs = [a,b,c,d,e,f,g,i]:=by
 match cs,h with
 | [a,b,c,d,e,f,g,i],_=>exact⟨a,b,c,d,e,f,g,i,rfl⟩
theorem moveInts {fuel:Nat}{cs:List Value}{x:DataW H × List MemPlace}(h:DataW.trod enc Tryz.prog w base spare held fuel 100 cs=some x):∃xs:List Int,xs.length=8∧cs=xs.map (Value.int .i64):=by
 have k84 : Tryz.prog.cellsOf 100=8:=by kernel_rfl
 have k79 : Tryz.prog.cellsOf 87=7:=by kernel_rfl
 have k77 : Tryz.prog.cellsOf 85=6:=by kernel_rfl
 have k75 : Tryz.prog.cellsOf 83=5:=by kernel_rfl
 have k3 : Tryz.prog.cellsOf 3=1:=by kernel_rfl
 obtain⟨y0,y1,n,_,hl,h0,h1⟩:=trod_struct2 Tryz.underlying100 h;rw[k84] at hl;obtain⟨c0,c1,c2,c3,c4,c5,c6,c7,rfl⟩:=eightL hl;simp only[k79,k3,List.drop_zero,List.take_succ_cons,List.take_zero,List.drop_succ_cons] at h0 h1;obtain⟨i7,e7,_⟩:=DataW.trod_int Tryz.underlying3 h1;obtain⟨z0,z1,n2,_,_,g0,g1⟩:=trod_struct2 Tryz.underlying87 h0;simp only[k77,k3,List.drop_zero,List.take_succ_cons,List.take_zero,List.drop_succ_cons] at g0 g1;obtain⟨i6,e6,_⟩:=DataW.trod_int Tryz.underlying3 g1;obtain⟨q0,q1,n3,_,_,f0,f1⟩:=trod_struct2 Tryz.underlying85 g0;simp only[k75,k3,List.drop_zero,List.take_succ_cons,List.take_zero,List.drop_succ_cons] at f0 f1;obtain⟨i0,e0,_⟩:=DataW.trod_int Tryz.underlying3 f0;obtain⟨xs,m,_,_,_,hxl,hx⟩:=DataW.trod_array Tryz.underlying83 f1
 have hj:∀(i:Nat) (c:Value),i < 5→(([c1,c2,c3,c4,c5]:List Value).drop i).take 1 = [c]→∃k,c = .int .i64 k:=fun i c hi hc=>by
  have:=hx i hi
  rw[k3,Nat.mul_one,hc,List.getElem?_eq_getElem (by omega)] at this;obtain⟨k,e,_⟩:=DataW.trod_int Tryz.underlying3 this;exact⟨k,by simpa using e⟩
 obtain⟨i1,rfl⟩:=hj 0 c1 (by omega) rfl;obtain⟨i2,rfl⟩:=hj 1 c2 (by omega) rfl;obtain⟨i3,rfl⟩:=hj 2 c3 (by omega) rfl;obtain⟨i4,rfl⟩:=hj 3 c4 (by omega) rfl;obtain⟨i5,rfl⟩:=hj 4 c5 (by omega) rfl;obtain rfl:c0 = .int .i64 i0:=by simpa using e0
 obtain rfl:c6 = .int .i64 i6:=by simpa using e6
 obtain rfl:c7 = .int .i64 i7:=by simpa using e7
 exact⟨[i0,i1,i2,i3,i4,i5,i6,i7],rfl,rfl⟩
theorem ksc_of_trod {v:Value}{d:DataW H}{ps:List MemPlace}{fuel:Nat}(h:DataW.trod enc Tryz.prog w 0 (fun _=>true) true fuel 98 [v]=some (d,ps)) (hw:∀n∈d.weights Tryz.prog 98,n≤reachBytes):∃xs,KSC 8 w v xs:=by
 have k84 : Tryz.prog.cellsOf 100=8:=by kernel_rfl
 have b84 : Tryz.prog.bytesOf 100=64:=by kernel_rfl
 rcases open_slice Tryz.underlying98 h with⟨h1,_⟩|⟨a,len,cap,m,n,D,Pl,h1,_,hl,hm,hmm,h2,hx⟩
 ·obtain rfl:v = .slice none 0 0:=by simpa using h1
  exact⟨[],none,0,0,0,rfl,by simp,by intro j hj;simp at hj,by simp,by simp⟩
 ·obtain rfl:v = .slice (some a) len cap:=by simpa using h1
  simp only[if_true] at hmm;subst hmm;obtain⟨rfl,_⟩:=Prod.mk.injEq ..▸h2;have hsz:=hw ((len+(m - len)) * 64) (by simp[DataW.weights,Tryz.underlying98,b84]);unfold reachBytes at hsz;rw[k84] at hx
  obtain⟨X,hX⟩:=choose_lt (α:=List Int) (n:=len) (p:=fun i xs=>xs.length=8∧∀j,j < 8→w.cell? (a.add (i * 8+j))=some (.int .i64 (xs.getD j 0))) (fun i hi=>by
   obtain⟨cs',g1,g2⟩:=hx i (by omega);obtain⟨xs,hx8,rfl⟩:=moveInts g2;obtain⟨_,_,hcell⟩:=World.cells?_some g1;refine⟨xs,hx8,fun j hj=>?_⟩;have:=hcell j (by omega)
   rw[add_add] at this;rw[this,List.getElem?_map,List.getElem?_eq_getElem (by omega),getD_eq (by omega)];rfl)
  have hlen:len≤2199023255552:=by omega
  have hall:∀j,j < len→((List.range len).map X).getD j []=X j:=fun j hj=>by simp[hj]
  refine⟨(List.range len).map X,some a,m,a.block,a.off,by simp,fun h0=>?_,fun j hj=>?_,by simpa using hlen,by simpa using hl⟩
  ·have hk:=(hX 0 (by simpa using h0)).2 0 (by omega);rw[show a.add (0 * 8+0)=a by simp[Addr.add]] at hk;rw[←addr_spot hk]
  ·have hj':j < len:=(by simpa using hj);rw[hall j hj'];have hk0:=(hX 0 (by omega)).2 0 (by omega);rw[show a.add (0 * 8+0)=a by simp[Addr.add]] at hk0;refine⟨(hX j hj').1,fun i hi=>?_⟩;have h3:=(hX j hj').2 i (by have:=(hX j hj').1;omega)
   have e:a.add (j * 8+i)=⟨a.block,a.off+j * 8+i,none⟩:=by
    have:=addr_spot hk0
    rw[this,Nat.add_assoc];exact add_plain _ _ _
   rw[←e];exact h3
theorem weightsAll_mem {e:TypeId}:∀ {l:List (DataW H)}{x:DataW H},x∈l→∀n∈x.weights Tryz.prog e,n∈DataW.weightsAll Tryz.prog e l:=by
 intro l;induction l with
 | nil=>intro x hx;cases hx
 | cons y r ih=>
  intro x hx n hn;simp only[DataW.weightsAll,List.mem_append];rcases List.mem_cons.1 hx with rfl|hx
  ·exact .inl hn
  ·exact .inr (ih hx n hn)
theorem advC_of_trod {r:Reach}{b0:Nat}{v:Value}{d:DataW H}{p:List MemPlace}(hv:Value.okWide Tryz.prog w r b0 24 v) (h:DataW.Trod enc Tryz.prog w 0 (fun _=>true) true 24 v d p) (hw:∀n∈d.weights Tryz.prog 24,n≤reachBytes):∃n ss,AdvC w v n ss:=by
 have k82 : Tryz.prog.cellsOf 98=1:=by kernel_rfl
 have b82 : Tryz.prog.bytesOf 98=24:=by kernel_rfl
 obtain⟨v0,v1,y0,y1,n,rfl,rfl,rfl,h0,h1⟩:=Go.Joins.open_agg2 Tryz.underlying24 (by kernel_rfl) (by kernel_rfl) hv h;obtain⟨i0,e0,_⟩:=DataW.trod_int Tryz.underlying3 h0;obtain rfl:v0 = .int .i64 i0:=by simpa using e0
 have hw1:∀n∈y1.1.weights Tryz.prog 22,n≤reachBytes:=fun n hn=>hw n (by
  simp only[DataW.weights,Tryz.underlying24,DataW.weightsEach,List.map_cons,List.map_nil,List.mem_append];exact .inr (.inl hn))
 obtain⟨d1,p1⟩:=y1;rcases open_slice1 Tryz.underlying22 k82 h1 with⟨h2,_⟩|⟨a,len,cap,m,n,V,D,Pl,h2,_,hl,hm,hmm,h3,hx⟩
 ·obtain rfl:v1 = .slice none 0 0:=by simpa using h2
  exact⟨i0,[],none,0,0,0,rfl,by simp,by intro j hj;simp at hj,by simp⟩
 ·obtain rfl:v1 = .slice (some a) len cap:=by simpa using h2
  simp only[if_true] at hmm;subst hmm;obtain⟨rfl,_⟩:=Prod.mk.injEq ..▸h3;have hsz:=hw1 ((len+(m - len)) * 24) (by simp[DataW.weights,Tryz.underlying22,b82]);unfold reachBytes at hsz
  have hxs:∀i,i < len→∃xs,KSC 8 w (V i) xs:=fun i hi=>by
   obtain⟨g1,g2⟩:=hx i (by omega);refine ksc_of_trod g2 fun n hn=>hw1 n ?_;simp only[DataW.weights,Tryz.underlying22,List.mem_cons,List.mem_append];right;left
   exact weightsAll_mem (List.mem_map_of_mem (List.mem_range.2 hi)) n hn
  have hlen:len≤5864062014805:=by omega
  obtain⟨X,hX⟩:∃X:Nat→List (List Int),∀i,i < len→KSC 8 w (V i) (X i):=⟨fun i=>if h:i < len then (hxs i h).choose else [],fun i hi=>by simp only[hi,dif_pos];exact(hxs i hi).choose_spec⟩;refine⟨i0,(List.range len).map X,some a,m,a.block,a.off,by simp,fun h0=>?_,fun j hj=>?_,by simpa using hlen⟩
  ·have hk:=(hx 0 (by have:0 < len:=(by simpa using h0);omega)).1;rw[show a.add 0=a by simp[Addr.add]] at hk;rw[←addr_spot hk]
  ·have hj':j < len:=(by simpa using hj);have hk0:=(hx 0 (by omega)).1;rw[show a.add 0=a by simp[Addr.add]] at hk0
   have e1:a.add j=⟨a.block,a.off+j,none⟩:=by
    rw[addr_spot hk0];exact add_plain _ _ _
   refine⟨V j,by rw[←e1];exact(hx j (by omega)).1,?_⟩;have:((List.range len).map X).getD j []=X j:=by simp[hj']
   rw[this];exact hX j hj'
end
end Go.Proofs.YtmikofeildnpdaaGreat
