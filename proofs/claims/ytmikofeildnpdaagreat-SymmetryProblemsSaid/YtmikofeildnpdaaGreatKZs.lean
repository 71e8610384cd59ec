/- Texts of this claim, put together: SL SM SU SW SY. -/
import Derived.Test.YtmikofeildnpdaaGreatKZp
import Derived.Test.YtmikofeildnpdaaGreatKZo
import Derived.Test.YtmikofeildnpdaaGreatKZq

set_option maxRecDepth 100000
set_option maxHeartbeats 12800000
namespace Go.Proofs.YtmikofeildnpdaaGreat
open Go.RowKit Go.ChangeMaps Go.MapKept Go.WideMaps
def p2V (p:Nat × Nat):Value:=.agg #[.int .i64 (p.1:Int),.int .i64 (p.2:Int)]
theorem lawP2:Maps.Keyed Tryz.prog 93:=Maps.Keyed.of_law (deep_law_gate (by kernel_rfl) (of_decide_eq_true (by kernel_rfl)) (of_decide_eq_true (by kernel_rfl)) (by kernel_rfl) (by kernel_rfl))
theorem keyP2 {a b:Int}(ga:0≤a∧a≤1000000) (gb:0≤b∧b≤1000000):∃l,keyOf Tryz.prog 93 (.agg #[.int .i64 a,.int .i64 b])=some l:=by
 obtain⟨m,hm⟩:=typesSize;have c2 : Tryz.prog.cellsOf 93=2:=by kernel_rfl
 have c1 : Tryz.prog.cellsOf 3=1:=by kernel_rfl
 have hk : Tryz.prog.keyType 93=true:=by kernel_rfl
 have uR : Tryz.prog.underlying 93=some (.array 2 3):=by kernel_rfl
 refine⟨.string (keyBytes [.int .i64 a,.int .i64 b]),?_⟩;unfold keyOf;simp only[uR];rw[if_pos (by simp[hk,Value.formed,uR,c2]),hm];conv=>lhs;unfold Program.keyLits
 simp only[uR,c2,c1,Value.cells,show List.range 2 = [0,1] from rfl];rw[if_pos (by rfl)];simp only[List.mapM_cons,List.mapM_nil,List.drop,List.take,Nat.mul_one];rw[litI (m+2) ga,litI (m+2) gb];rfl
def SmP2 (p:Nat × Nat):Prop:=p.1≤1000000∧p.2≤1000000
theorem keyX_p2:KeyX Tryz.prog 93 p2V SmP2 where
 law:=lawP2
 has:=fun p ⟨h1,h2⟩=>keyP2 (by omega) (by omega)
 inj:=fun x y _ _ h=>by
  simp only[p2V,Value.agg.injEq,Array.mk.injEq,List.cons.injEq,Value.int.injEq,and_true,true_and] at h;exact Prod.ext (by omega) (by omega)
theorem umP2 : Tryz.prog.underlying 175=some (.map 93 4):=by kernel_rfl
theorem zBool2:∀w,(zeroValue 4).run Tryz.prog w = .ok (.bool false) w:=fun w=>by kernel_rfl
def SN2 (w:World) (b:Nat) (o:List (Nat × Nat)):Prop:=MX p2V Value.bool w b (o.map fun x=>(x,true))
theorem SN2.keep {w w':World}{b:Nat}{o:List (Nat × Nat)}(h:SN2 w b o) (hb:w'.heap[b]? = w.heap[b]?):SN2 w' b o:=MX.keep h hb
theorem SN2.look {w:World}{b:Nat}{o:List (Nat × Nat)}(h:SN2 w b o) (hs:∀y∈o,SmP2 y) {x:Nat × Nat}(hx:SmP2 x) :
  (Instr.lookup 175 (.map (some b)) (.agg #[.int .i64 (x.1:Int),.int .i64 (x.2:Int)]) false).run Tryz.prog w = .ok (.bool (decide (x∈o))) w:=by
 have hm:∀p∈o.map (fun y=>(y,true)),SmP2 p.1:=fun p hp=>by
  obtain⟨y,hy,rfl⟩:=List.mem_map.1 hp;exact hs y hy
 have hf:(o.map fun y=>(y,true)).map Prod.fst=o:=by rw[List.map_map];exact List.map_id o
 rcases MX.look keyX_p2 umP2 (zBool2 w) h hm hx with⟨h1,h2,_⟩|⟨v,h1,h2,_⟩
 ·rw[hf] at h1;rw[decide_eq_false h1];exact h2
 ·obtain⟨y,hy,e⟩:=List.mem_map.1 h1;injection e with e1 e2;have:x∈o:=by rw[←e1];exact hy
  rw[decide_eq_true this,e2];exact h2
theorem SN2.put {w:World}{b:Nat}{o:List (Nat × Nat)}(h:SN2 w b o) (hs:∀y∈o,SmP2 y) {x:Nat × Nat}(hx:SmP2 x) (hn:x ∉ o) :
  ∃ob,(Instr.mapUpdate 175 (.map (some b)) (.agg #[.int .i64 (x.1:Int),.int .i64 (x.2:Int)]) (.bool true)).run Tryz.prog w = .ok () (setBlock w b ob)∧SN2 (setBlock w b ob) b (o ++ [x]):=by
 have hm:∀p∈o.map (fun y=>(y,true)),SmP2 p.1:=fun p hp=>by
  obtain⟨y,hy,rfl⟩:=List.mem_map.1 hp;exact hs y hy
 have hf:(o.map fun y=>(y,true)).map Prod.fst=o:=by rw[List.map_map];exact List.map_id o
 obtain⟨ob,h1,h2⟩:=MX.put keyX_p2 umP2 h hm hx (by rw[hf];exact hn) true;refine⟨ob,h1,?_⟩;unfold SN2;rw[List.map_append];exact h2
theorem SN2.lt {w:World}{b:Nat}{o:List (Nat × Nat)}(h:SN2 w b o):b < w.heap.size:=MX.lt h
theorem SN2.made (w:World):SN2 (w.alloc (.map #[] 0)) w.heap.size []:=MX.made w
theorem elemVis:ElemK Tryz.prog 130 174 (.agg #[.int .i64 0,.int .i64 0,.int .i64 0,.int .i64 0,.int .i64 0,.int .i64 0,.int .i64 0,.int .i64 0,.int .i64 0,.int .i64 0]) 10 80:=⟨by kernel_rfl,by kernel_rfl,rfl⟩
def VisP (vis:List (List Int)) (Q:Pq):Prop:=vis.map (fun x=>(x.getD 0 0,x.getD 1 0))=Q.map fun p=>((p.1:Int),(p.2:Int))
theorem VisP.len {vis:List (List Int)}{Q:Pq}(h:VisP vis Q):vis.length=Q.length:=by have:=congrArg List.length h;simpa using this
theorem VisP.at {vis:List (List Int)}{Q:Pq}(h:VisP vis Q) {k:Nat}(hk:k < Q.length):(vis.getD k []).getD 0 0=((Q.getD k (0,0)).1:Int)∧(vis.getD k []).getD 1 0=((Q.getD k (0,0)).2:Int):=by
 have hl:=h.len;have:=congrArg (fun l=>l[k]?) h
 simp only[List.getElem?_map] at this;rw[List.getElem?_eq_getElem hk,List.getElem?_eq_getElem (show k < vis.length by omega)] at this;simp only[Option.map_some,Option.some.injEq,Prod.mk.injEq] at this;rw[getD_eq (show k < vis.length by omega),getD_eq hk];exact this
theorem VisP.snoc {vis:List (List Int)}{Q:Pq}(h:VisP vis Q) (p:Nat × Nat) (f r0 r1 r2 r3 r4 r5 r6:Int):VisP (vis ++ [[(p.1:Int),(p.2:Int),f,r0,r1,r2,r3,r4,r5,r6]]) (Q ++ [p]):=by
 unfold VisP at h⊢;rw[List.map_append,List.map_append,h];rfl
theorem VisOK.snoc {vis:List (List Int)}(h:VisOK vis) {a b f r0 r1 r2 r3 r4 r5 r6:Int}(h0:0≤f) (h1:f < (vis.length:Int)):VisOK (vis ++ [[a,b,f,r0,r1,r2,r3,r4,r5,r6]]):=by
 intro k hk h0k;rw[List.length_append] at hk;by_cases e:k < vis.length
 ·rw[getD_app2 e];exact h k e h0k
 ·obtain rfl:k=vis.length:=by simp at hk;omega
  have e:(vis ++ [[a,b,f,r0,r1,r2,r3,r4,r5,r6]]).getD vis.length [] = [a,b,f,r0,r1,r2,r3,r4,r5,r6]:=by simp
  rw[e];exact⟨h0,h1⟩
def esSt (k:Pq→Option Bool):List Stp→Pq→Option Bool
 | [],Q=>k Q
 | x::l,Q=>if x.2.1 < 0∨x.2.2 < 0 then some true else esSt k l (pushP Q (x.2.1.toNat,x.2.2.toNat))
theorem esSt_stp (k:Pq→Option Bool):∀(x y:List (List Int)) (Q:Pq),(∀m∈x,0≤m.getD 7 0)→(∀m∈y,0≤m.getD 7 0)→esSt k (stp x y) Q=esIn k x y Q
 | [],[],_,_,_=>rfl
 | [],_::_,_,_,_=>by rw[stp_nil,esSt,if_pos (.inl (show(-1:Int) < 0 by decide))];rfl
 | _::_,[],_,_,_=>by rw[stp_cons,esSt,if_pos (.inr (show(-1:Int) < 0 by decide))];rfl
 | m::x,m'::y,Q,hx,hy=>by
  rw[esIn];rcases Int.lt_trichotomy (cmpL (rdOf m) (rdOf m')) 0 with h|h|h
  ·rw[stp_lt h,esSt,if_pos (.inr (show(-1:Int) < 0 by decide)),if_neg fun e=>by rw[e,cmpL_self] at h;omega]
  ·have h1:=hx m (by simp);have h2:=hy m' (by simp);rw[stp_eq h,esSt,if_neg (by simp only;omega),if_pos (cmpL_zero.1 h),esSt_stp k x y _ (fun z hz=>hx z (by simp[hz])) (fun z hz=>hy z (by simp[hz]))];rfl
  ·rw[stp_gt h,esSt,if_pos (.inl (show(-1:Int) < 0 by decide)),if_neg fun e=>by rw[e,cmpL_self] at h;omega]
theorem stp_lead {B:Int}:∀ {xs ys:List (List Int)}{x:Stp},(∀m∈xs,m.getD 7 0 < B)→(∀m∈ys,m.getD 7 0 < B)→0 < B→x∈stp xs ys→x.2.1 < B∧x.2.2 < B
 | [],ys,x,_,hy,hB,h=>by
  obtain⟨m,hm,rfl⟩:=List.mem_map.1 h;exact⟨by show(-1:Int) < B;omega,hy m hm⟩
 | m::xs,ys,x,hx,hy,hB,h=>by
  have hm:=hx m (by simp)
  have go:∀ys,(∀m∈ys,m.getD 7 0 < B)→x∈stpIn (stp xs) m ys→x.2.1 < B∧x.2.2 < B:=by
   intro ys;induction ys with
   | nil=>
    intro hy h;rw[stpIn] at h;rcases List.mem_cons.1 h with rfl|h
    ·exact⟨hm,by show(-1:Int) < B;omega⟩
    ·exact stp_lead (fun z hz=>hx z (by simp[hz])) hy hB h
   | cons m' ys ih=>
    intro hy h;have hm':=hy m' (by simp);rw[stpIn] at h;split at h
    ·rcases List.mem_cons.1 h with rfl|h
     ·exact⟨hm,by show(-1:Int) < B;omega⟩
     ·exact stp_lead (fun z hz=>hx z (by simp[hz])) hy hB h
    ·split at h
     ·rcases List.mem_cons.1 h with rfl|h
      ·exact⟨hm,hm'⟩
      ·exact stp_lead (fun z hz=>hx z (by simp[hz])) (fun z hz=>hy z (by simp[hz])) hB h
     ·rcases List.mem_cons.1 h with rfl|h
      ·exact⟨by show(-1:Int) < B;omega,hm'⟩
      ·exact ih (fun z hz=>hy z (by simp[hz])) h
  exact go ys hy h
theorem stp_lead2 {B C:Int}:∀ {xs ys:List (List Int)}{x:Stp},(∀m∈xs,m.getD 7 0 < B)→(∀m∈ys,m.getD 7 0 < C)→0 < B→0 < C→x∈stp xs ys→x.2.1 < B∧x.2.2 < C
 | [],ys,x,_,hy,hB,hC,h=>by
  obtain⟨m,hm,rfl⟩:=List.mem_map.1 h;exact⟨by show(-1:Int) < B;omega,hy m hm⟩
 | m::xs,ys,x,hx,hy,hB,hC,h=>by
  have hm:=hx m (by simp)
  have go:∀ys,(∀m∈ys,m.getD 7 0 < C)→x∈stpIn (stp xs) m ys→x.2.1 < B∧x.2.2 < C:=by
   intro ys;induction ys with
   | nil=>
    intro hy h;rw[stpIn] at h;rcases List.mem_cons.1 h with rfl|h
    ·exact⟨hm,by show(-1:Int) < C;omega⟩
    ·exact stp_lead2 (fun z hz=>hx z (by simp[hz])) hy hB hC h
   | cons m' ys ih=>
    intro hy h;have hm':=hy m' (by simp);rw[stpIn] at h;split at h
    ·rcases List.mem_cons.1 h with rfl|h
     ·exact⟨hm,by show(-1:Int) < C;omega⟩
     ·exact stp_lead2 (fun z hz=>hx z (by simp[hz])) hy hB hC h
    ·split at h
     ·rcases List.mem_cons.1 h with rfl|h
      ·exact⟨hm,hm'⟩
      ·exact stp_lead2 (fun z hz=>hx z (by simp[hz])) (fun z hz=>hy z (by simp[hz])) hB hC h
     ·rcases List.mem_cons.1 h with rfl|h
      ·exact⟨by show(-1:Int) < B;omega,hm'⟩
      ·exact ih (fun z hz=>hy z (by simp[hz])) h
  exact go ys hy h
theorem leavesC {fn:Func}{tmps:Array Value}{R:Ending→World→Prop}{B:Nat}:∀(rs:List Nat) (w:World),(∀r∈rs,w.heap[r]? = some (.deferred (some []))∧B≤r)→rs.Nodup→
  (∀w',w.heap.size≤w'.heap.size→(∀k,k ∉ rs→w'.heap[k]? = w.heap[k]?)→Below B w w'→LeavesInM Fence.wide 0 Tryz.prog fn tmps R [] .returning w')→LeavesInM Fence.wide 0 Tryz.prog fn tmps R (rs.map colD) .returning w
 | [],w,_,_,h=>h w (Nat.le_refl _) (fun _ _=>rfl) (Below.refl _ _)
 | r::rs,w,hr,hn,h=>by
  rw[List.nodup_cons] at hn;obtain⟨h1,h2⟩:=hr r (by simp);refine⟨by simp,.inl ⟨r,_,rfl,run_takeDeferred h1,?_⟩⟩;have hb:Below B w (w.putObj r (.deferred none)):=below_putObj (Below.refl _ _) h2 _;refine leavesC rs _ (fun r' hr'=>?_) hn.2 (fun w' hs hk hw'=>h w' (by simpa using hs) (fun k hk'=>(hk k fun e=>hk' (by simp[e])).trans (World.putObj_heap_other fun e=>hk' (by simp[e]))) (hb.trans hw'));obtain⟨h3,h4⟩:=hr r' (by simp[hr']);exact⟨(World.putObj_heap_other (fun e=>hn.1 (by rw[←e];exact hr'))).trans h3,h4⟩
end Go.Proofs.YtmikofeildnpdaaGreat
namespace Go.Proofs.YtmikofeildnpdaaGreat
open Go.RowKit
theorem wpIn_region_rg {P:Program}{id l0:Nat}{Q:Exit→Act→World→Prop}{w:World}{l:List Oper}(F:(Nat→Value)→Act) (Φ:List (World→Value→Prop)) (R:World→World→Prop) (G:(Nat→Bool)→(Nat→Value)→World→Prop) (ys:Nat→Value) (hm:P.follows .mixedOrders=true) (hd:noDefer l=true) (hQ : ¬LetsOut Q)
  (hback:backG l=true) (hR:StabG R Φ) (h0:G (fun _=>false) ys (w.drewN 1)) (hGx:∀D D' ys W,(∀i,i < l.length→D i=D' i)→G D ys W→G D' ys W) (hS:StepsG P l.toArray F Φ R G Q l 0)
  (hend:∀ys W,G (fun i=>decide (i < l.length)) ys W→(∀i,i < l.length→phiG Φ i W (ys i))→Q .normal (F ys) W) :
  (Code.region id l.toArray true).wpIn (Fence.wide.inRound l0) 0 P Q (F ys) w:=by
 refine wpIn_region_any hm (anyIn_of_any (noDefer_get hd) hQ _ _ _ _ ?_);refine any_rg hback hR hS hend hGx _ _ (fun _=>false) ys _ (by simp) (fun i hi=>?_) (fun _ _=>rfl) (fun i hi=>by cases hi) h0 (fun j o hj=>by cases hj) ?_
 ·rw[Array.getD_eq_getD_getElem?,List.size_toArray,Array.getElem?_replicate,if_pos hi];rfl
 ·have h1:((List.range l.length).filter fun _=>!false)=List.range l.length:=List.filter_eq_self.2 (fun _ _=>rfl);rw[h1,List.length_range,List.size_toArray]
theorem wpIn_region_sg {P:Program}{id l0:Nat}{Q:Exit→Act→World→Prop}{w:World}{l:List Oper}{F:(Nat→Value)→Act}{Φ:List (World→Value→Prop)}{R:World→World→Prop}{G:(Nat→Bool)→(Nat→Value)→World→Prop}(hS:StepsG P l.toArray F Φ R G Q l 0) (ys:Nat→Value) (hm:P.follows .mixedOrders=true) (hd:noDefer l=true) (hQ : ¬LetsOut Q)
  (hback:backG l=true) (hR:StabG R Φ) (h0:G (fun _=>false) ys (w.drewN 1)) (hGx:∀D D' ys W,(∀i,i < l.length→D i=D' i)→G D ys W→G D' ys W)
  (hend:∀ys W,G (fun i=>decide (i < l.length)) ys W→(∀i,i < l.length→phiG Φ i W (ys i))→Q .normal (F ys) W) :
  (Code.region id l.toArray true).wpIn (Fence.wide.inRound l0) 0 P Q (F ys) w:=wpIn_region_rg F Φ R G ys hm hd hQ hback hR h0 hGx hS hend
def oSe10_0:Oper:=⟨some 46,.load 130 (.tmp 8),130,"inclusion.go:85",#[],none⟩
def oSe10_1:Oper:=⟨some 47,.load 130 (.tmp 8),130,"inclusion.go:85",#[],none⟩
def oSe10_2:Oper:=⟨some 48,.load 3 (.tmp 10),3,"inclusion.go:85",#[],none⟩
def oSe10_3:Oper:=⟨some 49,.fieldAddr 134 (.tmp 12) 0,0,"inclusion.go:85",#[],none⟩
def oSe10_4:Oper:=⟨some 50,.load 87 (.tmp 49),87,"inclusion.go:85",#[⟨3,.data⟩],none⟩
def oSe10_5:Oper:=⟨some 51,.call { callee:=.value (.func 124),args:=#[.tmp 47,.tmp 48,.tmp 50],argTypes:=#[130,3,87] },78,"inclusion.go:85",#[⟨1,.data⟩,⟨2,.data⟩,⟨4,.data⟩],none⟩
def oSe10_6:Oper:=⟨none,.store 130 (.tmp 6) (.tmp 46),0,"inclusion.go:85",#[⟨0,.data⟩,⟨5,.chain⟩,⟨0,.phase⟩,⟨1,.textOnly .inlinedCapture⟩,⟨2,.textOnly .inlinedCapture⟩,⟨3,.textOnly .lateStores⟩,⟨4,.textOnly .lateStores⟩,⟨5,.textOnly .lateStoresUnsure⟩],none⟩
def oSe10_7:Oper:=⟨none,.store 78 (.tmp 7) (.tmp 51),0,"inclusion.go:85",#[⟨5,.data⟩,⟨6,.chain⟩,⟨0,.phase⟩,⟨1,.phase⟩,⟨2,.phase⟩,⟨3,.phase⟩,⟨4,.phase⟩,⟨5,.phase⟩,⟨6,.phase⟩],none⟩
def opsSearch10:List Oper:=[oSe10_0,oSe10_1,oSe10_2,oSe10_3,oSe10_4,oSe10_5,oSe10_6,oSe10_7]
theorem regSearch10 {w:World}{x0 x1 x2 x3 x4 x5 x9 x11 x13 x14 x15 x16 x17 x18 x19 x20 x21 x22 x23 x24 x25 x26 x27 x28 x29 x30 x31 x32 x33 x34 x35 x36 x37 x38 x39 x40 x41 x42 x43 x44 x45 x46 x47 x48 x49 x50 x51 x52 x53 x54 x55 x56 x57 x58 x59 x60 x61 x62 x63 x64 x65 x66 x67 x68 x69 x70 x71 x72 x73 x74 x75 x76 x77 x78 x79 x80 x81 x82:Value}{Q:Exit→Act→World→Prop}{l0 b6 b7 b8 b10 b12 n lc i:Nat}{la:Option Addr}{u6 u7:Value}{r0 r1 r2 r3 r4 r5 r6:Int}{vis:List (List Int)}(hQ : ¬LetsOut Q)
  (q6:w.heap[b6]? = some (.cells #[u6] 130)) (q7:w.heap[b7]? = some (.cells #[u7] 78)) (q8:w.cell? ⟨b8,0,none⟩=some (.slice la n lc)) (q10:w.cell? ⟨b10,0,none⟩=some (.int .i64 (i:Int)))
  (p0:w.cell? ⟨b12,0,none⟩=some (.int .i64 r0)) (p1:w.cell? ⟨b12,1,none⟩=some (.int .i64 r1)) (p2:w.cell? ⟨b12,2,none⟩=some (.int .i64 r2)) (p3:w.cell? ⟨b12,3,none⟩=some (.int .i64 r3)) (p4:w.cell? ⟨b12,4,none⟩=some (.int .i64 r4)) (p5:w.cell? ⟨b12,5,none⟩=some (.int .i64 r5)) (p6:w.cell? ⟨b12,6,none⟩=some (.int .i64 r6))
  (ho:OwX 174 10 EI w 0 (.slice la n lc) n vis) (hv:VisOK vis) (hi:i < n) (hn:n≤100000) (hne:∀g,(Value.slice la n lc).ownBlock=some g→¬(g=b6∨g=b7)) (h67:b6 ≠ b7) (h68:b8 ≠ b6∧b8 ≠ b7∧b10 ≠ b6∧b10 ≠ b7∧b12 ≠ b6∧b12 ≠ b7)
  (hfin:∀(y5 _y6 _y7:Value) (W:World),(Only (fun k=>k=b6∨k=b7) w W∧((fun i=>decide (i < 8)) 6=false→W.heap[b6]? = some (.cells #[u6] 130))∧((fun i=>decide (i < 8)) 6=true→W.heap[b6]? = some (.cells #[.slice la n lc] 130))∧((fun i=>decide (i < 8)) 7=false→W.heap[b7]? = some (.cells #[u7] 78))∧((fun i=>decide (i < 8)) 7=true→∃p m c,W.heap[b7]? = some (.cells #[.slice (some p) m c] 78)∧0 < m))→(∃p m c,y5 = .slice (some p) m c∧0 < m)→(True)→(True)→Q .normal ⟨#[x0,x1,x2,x3,x4,x5,.pointer (some ⟨b6,0,none⟩),.pointer (some ⟨b7,0,none⟩),.pointer (some ⟨b8,0,none⟩),x9,.pointer (some ⟨b10,0,none⟩),x11,.pointer (some ⟨b12,0,none⟩),x13,x14,x15,x16,x17,x18,x19,x20,x21,x22,x23,x24,x25,x26,x27,x28,x29,x30,x31,x32,x33,x34,x35,x36,x37,x38,x39,x40,x41,x42,x43,x44,x45,.slice la n lc,.slice la n lc,.int .i64 (i:Int),.pointer (some ⟨b12,0,none⟩),.agg #[.int .i64 r0,.int .i64 r1,.int .i64 r2,.int .i64 r3,.int .i64 r4,.int .i64 r5,.int .i64 r6],y5,x52,x53,x54,x55,x56,x57,x58,x59,x60,x61,x62,x63,x64,x65,x66,x67,x68,x69,x70,x71,x72,x73,x74,x75,x76,x77,x78,x79,x80,x81,x82],[]⟩ W) :
  (Code.region 10 opsSearch10.toArray true).wpIn (Fence.wide.inRound l0) 0 Tryz.prog Q ⟨#[x0,x1,x2,x3,x4,x5,.pointer (some ⟨b6,0,none⟩),.pointer (some ⟨b7,0,none⟩),.pointer (some ⟨b8,0,none⟩),x9,.pointer (some ⟨b10,0,none⟩),x11,.pointer (some ⟨b12,0,none⟩),x13,x14,x15,x16,x17,x18,x19,x20,x21,x22,x23,x24,x25,x26,x27,x28,x29,x30,x31,x32,x33,x34,x35,x36,x37,x38,x39,x40,x41,x42,x43,x44,x45,x46,x47,x48,x49,x50,x51,x52,x53,x54,x55,x56,x57,x58,x59,x60,x61,x62,x63,x64,x65,x66,x67,x68,x69,x70,x71,x72,x73,x74,x75,x76,x77,x78,x79,x80,x81,x82],[]⟩ w:=by
 have hl6:=(Array.getElem?_eq_some_iff.1 q6).1;have hl7:=(Array.getElem?_eq_some_iff.1 q7).1;obtain⟨h68,h78,h610,h710,h612,h712⟩:=h68;obtain⟨SG,hSG⟩:=exS (StepG Tryz.prog opsSearch10.toArray (fun ys=>⟨#[x0,x1,x2,x3,x4,x5,.pointer (some ⟨b6,0,none⟩),.pointer (some ⟨b7,0,none⟩),.pointer (some ⟨b8,0,none⟩),x9,.pointer (some ⟨b10,0,none⟩),x11,.pointer (some ⟨b12,0,none⟩),x13,x14,x15,x16,x17,x18,x19,x20,x21,x22,x23,x24,x25,x26,x27,x28,x29,x30,x31,x32,x33,x34,x35,x36,x37,x38,x39,x40,x41,x42,x43,x44,x45,ys 0,ys 1,ys 2,ys 3,ys 4,ys 5,x52,x53,x54,x55,x56,x57,x58,x59,x60,x61,x62,x63,x64,x65,x66,x67,x68,x69,x70,x71,x72,x73,x74,x75,x76,x77,x78,x79,x80,x81,x82],[]⟩) [eqV (.slice la n lc),eqV (.slice la n lc),eqV (.int .i64 (i:Int)),eqV (.pointer (some ⟨b12,0,none⟩)),eqV (.agg #[.int .i64 r0,.int .i64 r1,.int .i64 r2,.int .i64 r3,.int .i64 r4,.int .i64 r5,.int .i64 r6]),fun _ v=>∃p m c,v = .slice (some p) m c∧0 < m,anyV,anyV] (fun _ _=>True) (fun D _ W=>Only (fun k=>k=b6∨k=b7) w W∧(D 6=false→W.heap[b6]? = some (.cells #[u6] 130))∧(D 6=true→W.heap[b6]? = some (.cells #[.slice la n lc] 130))∧(D 7=false→W.heap[b7]? = some (.cells #[u7] 78))∧(D 7=true→∃p m c,W.heap[b7]? = some (.cells #[.slice (some p) m c] 78)∧0 < m)) Q)
 have st0:SG 0 oSe10_0:=by
  subst hSG;refine StepG.mk rfl fun ys D W K _ _ _ hG hK=>?_;unfold oSe10_0;obtain⟨g1,g2,g3,g4,g5⟩:=hG;have c:=g1.cell (p:=⟨b8,0,none⟩) (by show ¬(b8=b6∨b8=b7);omega) q8;go_simp;exact hK _ _ trivial ⟨g1,g2,g3,g4,g5⟩ rfl
 have st1:SG 1 oSe10_1:=by
  subst hSG;refine StepG.mk rfl fun ys D W K _ _ _ hG hK=>?_;unfold oSe10_1;obtain⟨g1,g2,g3,g4,g5⟩:=hG;have c:=g1.cell (p:=⟨b8,0,none⟩) (by show ¬(b8=b6∨b8=b7);omega) q8;go_simp;exact hK _ _ trivial ⟨g1,g2,g3,g4,g5⟩ rfl
 have st2:SG 2 oSe10_2:=by
  subst hSG;refine StepG.mk rfl fun ys D W K _ _ _ hG hK=>?_;unfold oSe10_2;obtain⟨g1,g2,g3,g4,g5⟩:=hG;have c:=g1.cell (p:=⟨b10,0,none⟩) (by show ¬(b10=b6∨b10=b7);omega) q10;go_simp;exact hK _ _ trivial ⟨g1,g2,g3,g4,g5⟩ rfl
 have st3:SG 3 oSe10_3:=by
  subst hSG;refine StepG.mk rfl fun ys D W K _ _ _ hG hK=>?_;unfold oSe10_3;obtain⟨g1,g2,g3,g4,g5⟩:=hG;go_simp;exact hK _ _ trivial ⟨g1,g2,g3,g4,g5⟩ rfl
 have st4:SG 4 oSe10_4:=by
  subst hSG;refine StepG.mk rfl (openY 3 fun y3=>fun ys D W K _ _ hd hG hK=>?_);have e3:y3=_:=(hd.get 3 rfl).2;subst e3;simp only[updG,Nat.reduceEqDiff,reduceIte];unfold oSe10_4;obtain⟨g1,g2,g3,g4,g5⟩:=hG;have a0:=g1.cell (p:=⟨b12,0,none⟩) (by show ¬(b12=b6∨b12=b7);omega) p0;have a1:=g1.cell (p:=⟨b12,1,none⟩) (by show ¬(b12=b6∨b12=b7);omega) p1;have a2:=g1.cell (p:=⟨b12,2,none⟩) (by show ¬(b12=b6∨b12=b7);omega) p2;have a3:=g1.cell (p:=⟨b12,3,none⟩) (by show ¬(b12=b6∨b12=b7);omega) p3;have a4:=g1.cell (p:=⟨b12,4,none⟩) (by show ¬(b12=b6∨b12=b7);omega) p4;have a5:=g1.cell (p:=⟨b12,5,none⟩) (by show ¬(b12=b6∨b12=b7);omega) p5;have a6:=g1.cell (p:=⟨b12,6,none⟩) (by show ¬(b12=b6∨b12=b7);omega) p6;go_simp;exact hK _ _ trivial ⟨g1,g2,g3,g4,g5⟩ rfl
 have st5:SG 5 oSe10_5:=by
  subst hSG;refine StepG.mk rfl (openY 1 fun y1=>openY 2 fun y2=>openY 4 fun y4=>fun ys D W K _ _ hd hG hK=>?_);have e1:y1=_:=(hd.get 1 rfl).2;have e2:y2=_:=(hd.get 2 rfl).2;have e4:y4=_:=(hd.get 4 rfl).2;subst e1 e2 e4;simp only[updG,Nat.reduceEqDiff,reduceIte];unfold oSe10_5;obtain⟨g1,g2,g3,g4,g5⟩:=hG;have hO:=ho.same (w':=W) (fun g hg=>g1.same g (by obtain⟨vs,k1,_⟩:=ho;obtain⟨cs,hc⟩:=ownsRow_ty k1 g hg;exact(Array.getElem?_eq_some_iff.1 hc).1) (hne g hg));go_simp;refine(wordC hO hv hi hn r0 r1 r2 r3 r4 r5 r6).mono ?_;rintro e W9 ⟨p,m,c,ws,rfl,hm,_,hb9⟩;have l6:b6 < W.heap.size:=Nat.lt_of_lt_of_le hl6 g1.size;have l7:b7 < W.heap.size:=Nat.lt_of_lt_of_le hl7 g1.size;exact hK _ _ trivial ⟨g1.thenBelow (hb9.mono g1.size),fun h=>(hb9.block b6 l6).trans (g2 h),fun h=>(hb9.block b6 l6).trans (g3 h),fun h=>(hb9.block b7 l7).trans (g4 h),fun h=>by obtain⟨p,m,c,h1,h2⟩:=g5 h;exact⟨p,m,c,(hb9.block b7 l7).trans h1,h2⟩⟩ ⟨p,m,c,rfl,hm⟩
 have st6:SG 6 oSe10_6:=by
  subst hSG;refine StepG.mk rfl (openY 0 fun y0=>fun ys D W K hD _ hd hG hK=>?_);have e0:y0=_:=(hd.get 0 rfl).2;subst e0;simp only[updG,Nat.reduceEqDiff,reduceIte];unfold oSe10_6;obtain⟨g1,g2,g3,g4,g5⟩:=hG;have k6:=g2 hD;have c:=cell_of_one k6;have fz:=free_of_one k6;have s6:=one_setCell (u:=.slice la n lc) k6;have hot:∀o,(W.setCell ⟨b6,0,none⟩ (.slice la n lc)).heap[b7]? = o↔W.heap[b7]? = o:=fun o=>by rw[Below.heap_setCell W ⟨b6,0,none⟩ _ b7 (by show b7 ≠ b6;omega)]
  go_simp;refine hK undef _ trivial ⟨g1.setCell (p:=⟨b6,0,none⟩) (.inl rfl) _,?_,?_,?_,?_⟩ trivial
  ·intro h;cases h
  ·exact fun _=>s6
  ·intro h;exact(hot _).2 (g4 h)
  ·intro h;obtain⟨p,m,c,h1,h2⟩:=g5 h;exact⟨p,m,c,(hot _).2 h1,h2⟩
 have st7:SG 7 oSe10_7:=by
  subst hSG;refine StepG.mk rfl (openY 5 fun y5=>fun ys D W K hD _ hd hG hK=>?_);obtain⟨d5,e5⟩:D 5=true∧(∃p m c,y5 = .slice (some p) m c∧0 < m):=hd.get 5 rfl;simp only[updG,Nat.reduceEqDiff,reduceIte];unfold oSe10_7;obtain⟨g1,g2,g3,g4,g5⟩:=hG;obtain⟨p,m,c0,rfl,hm⟩:=e5;have k7:=g4 hD;have c:=cell_of_one k7;have fz:=free_of_one k7;have s7:=one_setCell (u:=.slice (some p) m c0) k7;have hot:∀o,(W.setCell ⟨b7,0,none⟩ (.slice (some p) m c0)).heap[b6]? = o↔W.heap[b6]? = o:=fun o=>by rw[Below.heap_setCell W ⟨b7,0,none⟩ _ b6 (by show b6 ≠ b7;omega)]
  go_simp;refine hK undef _ trivial ⟨g1.setCell (p:=⟨b7,0,none⟩) (.inr rfl) _,?_,?_,?_,?_⟩ trivial
  ·intro h;exact(hot _).2 (g2 h)
  ·intro h;exact(hot _).2 (g3 h)
  ·intro h;cases h
  ·exact fun _=>⟨p,m,c0,s7,hm⟩
 subst hSG;refine wpIn_region_sg (l0:=l0) (l:=opsSearch10) ⟨st0,st1,st2,st3,st4,st5,st6,st7,trivial⟩ (fun i=>([x46,x47,x48,x49,x50,x51,undef,undef]:List Value).getD i undef) (by kernel_rfl) (by kernel_rfl) hQ (by kernel_rfl) ⟨sE,sE,sE,sE,sE,fun _ _ _ h _=>h,fun _ _ _ h _=>h,fun _ _ _ h _=>h,trivial⟩ ?g0 ?gx ?fin
 case g0=>exact⟨(Only.refl _ w).drewN 1,fun _=>q6,fun h=>(by cases h),fun _=>q7,fun h=>by cases h⟩
 case gx=>exact fun D D' _ W h ⟨h1,h2,h3,h4,h5⟩=>⟨h1,fun q=>h2 ((h 6 (by decide)).trans q),fun q=>h3 ((h 6 (by decide)).trans q),fun q=>h4 ((h 7 (by decide)).trans q),fun q=>h5 ((h 7 (by decide)).trans q)⟩
 case fin=>
  intro ys W hG hp;try dsimp only
  rw[(hp 0 (by decide):ys 0=_),(hp 1 (by decide):ys 1=_),(hp 2 (by decide):ys 2=_),(hp 3 (by decide):ys 3=_),(hp 4 (by decide):ys 4=_)];exact hfin (ys 5) (ys 6) (ys 7) W hG (hp 5 (by decide)) (hp 6 (by decide)) (hp 7 (by decide))
end Go.Proofs.YtmikofeildnpdaaGreat
namespace Go.Proofs.YtmikofeildnpdaaGreat
open Go.RowKit Go.ChangeMaps Go.MapKept Go.WideMaps
attribute [local go_sem] Oper.semAt_some
def boxN (W:World) (v:Value):Nat:=match v with
 | .pointer (some p)=>match W.cell? p with
  | some (.int _ i)=>i.toNat
  | _=>0
 | _=>0
theorem boxN_eq {W:World}{p:Addr}{i:Nat}(h:W.cell? p=some (.int .i64 (i:Int))):boxN W (.pointer (some p))=i:=by
 unfold boxN;simp[h]
structure SrI (B b6 b7 b8 mb:Nat) (KA KB:Nat) (vis:List (List Int)) (Q:Pq) (lv:Value) (D:Nat→Prop) (W:World):Prop where
 bl:W.heap[b8]? = some (.cells #[lv] 130)
 row:OwX 174 10 EI W B lv vis.length vis
 vp:VisP vis Q
 vo:VisOK vis
 mp:SN2 W mb Q
 ok:PqOK KA KB Q
 r6:W.heap[b6]? = some (.cells #[.slice none 0 0] 130)
 r7:W.heap[b7]? = some (.cells #[.slice none 0 0] 78)
 dd:∀k,D k↔k=b8∨k=mb∨k=b6∨k=b7∨lv.ownBlock=some k
theorem SrI.stable {B b6 b7 b8 mb KA KB:Nat}{vis:List (List Int)}{Q:Pq}{lv:Value}{D:Nat→Prop}{W W':World}(h:SrI B b6 b7 b8 mb KA KB vis Q lv D W) (hk:∀k,D k→W'.heap[k]? = W.heap[k]?):SrI B b6 b7 b8 mb KA KB vis Q lv D W':=
 ⟨(hk b8 ((h.dd b8).2 (.inl rfl))).trans h.bl,h.row.same fun g hg=>hk g ((h.dd g).2 (.inr (.inr (.inr (.inr hg))))),h.vp,h.vo,h.mp.keep (hk mb ((h.dd mb).2 (.inr (.inl rfl)))),h.ok,(hk b6 ((h.dd b6).2 (.inr (.inr (.inl rfl))))).trans h.r6,(hk b7 ((h.dd b7).2 (.inr (.inr (.inr (.inl rfl)))))).trans h.r7,h.dd⟩
theorem snNo {P:Nat→Prop}{n k b8 mbk b6 b7 g:Nat}(hP:∀k,P k→k=b8∨k=mbk∨k=b6∨k=b7∨k=g) (h1:k < n) (h2:k ≠ b8) (h3:k ≠ mbk) (h4:k ≠ b6) (h5:k ≠ b7) (h6:k ≠ g) (h:P k∨k=n+1∨k=n+1+1):False:=by
 rcases h with h|h|h
 ·rcases hP k h with h|h|h|h|h<;>omega
 ·omega
 ·omega
theorem snBi {n b6 b7 b8 mbk b9 bi:Nat}(i6:n+3≤b6∧b6≤n+3) (i7:n+4≤b7∧b7≤n+4) (i8:n+6≤b8∧b8≤n+6) (im:n+7≤mbk∧mbk≤n+7) (i9:n+8≤b9∧b9≤n+8) (h:b9 < bi):bi ≠ b8∧bi ≠ mbk∧bi ≠ b6∧bi ≠ b7:=by omega
theorem snKK {a b:Nat}(ha:a≤100) (hb:b≤100):a * b≤10000:=Nat.mul_le_mul ha hb
theorem snWrap {i:Nat}(h:i < 10000):IntKind.i64.wrap ((i:Int)+1)=(i:Int)+1:=IntWalk.i64_in _ (by omega)
theorem snRank {i:Nat}(h:i < 10000):10001 - (i+1) < 10001 - i:=by omega
theorem snDone {w wr W4 W W8:World}{b4 b5 b6 b7 b8 mbk b9 g d KA KB:Nat}{X3 X4 X5 X9:Obj}{cs:Array Value}{vis2:List (List Int)}{Q2:Pq}{lv2:Value}{rs:List Nat}{D D0:Nat→Prop}{dOf:Value→Nat→Prop}
  (i4:w.heap.size+1≤b4∧b4≤w.heap.size+1) (i5:w.heap.size+2≤b5∧b5≤w.heap.size+2) (i6:w.heap.size+3≤b6∧b6≤w.heap.size+3) (i7:w.heap.size+4≤b7∧b7≤w.heap.size+4) (i8:w.heap.size+6≤b8∧b8≤w.heap.size+6) (im:w.heap.size+7≤mbk∧mbk≤w.heap.size+7) (i9:w.heap.size+8≤b9∧b9≤w.heap.size+8)
  (hdOf:dOf=fun lv k=>k=b8∨k=mbk∨k=b6∨k=b7∨lv.ownBlock=some k) (hcg:wr.heap[g]? = some (.cells cs 174)) (hgB:w.heap.size≤g)
  (hgb3:g ≠ w.heap.size) (hgb4:g ≠ b4) (hgb5:g ≠ b5) (hgb9:g ≠ b9) (hbw:Below w.heap.size w wr) (hbr4:Below wr.heap.size wr W4)
  (c3:wr.heap[w.heap.size]? = some X3) (c4:wr.heap[b4]? = some X4) (c5:wr.heap[b5]? = some X5) (c9:wr.heap[b9]? = some X9)
  (hrs:∀r∈rs,wr.heap[r]? = some (.deferred (some []))∧b9≤r) (hnd:rs.Nodup) (hD0:∀k,D0 k↔k=b8∨k=mbk∨k=b6∨k=b7∨k=g)
  (hOn:Only (fun k=>D0 k∨k=wr.heap.size+1∨k=wr.heap.size+1+1) W4 W) (hSI:SrI w.heap.size b6 b7 b8 mbk KA KB vis2 Q2 lv2 D W) (hd:W4.heap.size≤d) (hdef:W.heap[d]? = some (.deferred (some []))) (hb8:Below W.heap.size W W8) :
  SrI w.heap.size b6 b7 b8 mbk KA KB vis2 Q2 lv2 (dOf lv2) W8∧(∀r∈d::rs,W8.heap[r]? = some (.deferred (some []))∧b9≤r)∧(d::rs).Nodup∧(W8.heap[w.heap.size]? = some X3∧W8.heap[b4]? = some X4∧W8.heap[b5]? = some X5∧W8.heap[b9]? = some X9∧Below w.heap.size w W8)∧
   ∀k,k < wr.heap.size→k ≠ b8→k ≠ mbk→k ≠ b6→k ≠ b7→k ≠ g→W8.heap[k]? = wr.heap[k]?:=by
 have z4:=hbr4.size;have zW:=hOn.size;have z8:=hb8.size;have zw:=hbw.size;have l3:=(Array.getElem?_eq_some_iff.1 c3).1;have l4:=(Array.getElem?_eq_some_iff.1 c4).1;have l5:=(Array.getElem?_eq_some_iff.1 c5).1;have l9:=(Array.getElem?_eq_some_iff.1 c9).1;have lg:=(Array.getElem?_eq_some_iff.1 hcg).1
 have hnD:∀k,k < wr.heap.size→k ≠ b8→k ≠ mbk→k ≠ b6→k ≠ b7→k ≠ g→¬(D0 k∨k=wr.heap.size+1∨k=wr.heap.size+1+1):=fun k h1 h2 h3 h4 h5 h6 h=>by
  rcases h with h|h|h
  ·rcases(hD0 k).1 h with h|h|h|h|h
   ·exact h2 h
   ·exact h3 h
   ·exact h4 h
   ·exact h5 h
   ·exact h6 h
  ·omega
  ·omega
 have hold:∀k,k < wr.heap.size→k ≠ b8→k ≠ mbk→k ≠ b6→k ≠ b7→k ≠ g→W8.heap[k]? = wr.heap[k]?:=fun k h1 h2 h3 h4 h5 h6=>(hb8.block k (by omega)).trans ((hOn.same k (by omega) (hnD k h1 h2 h3 h4 h5 h6)).trans (hbr4.block k h1));refine⟨?_,?_,?_,⟨?_,?_,?_,?_,?_⟩,hold⟩
 ·have h:=hSI.stable (W':=W8) fun k hk=>hb8.block k ?_
  ·exact⟨h.bl,h.row,h.vp,h.vo,h.mp,h.ok,h.r6,h.r7,fun k=>by rw[hdOf]⟩
  ·rcases(hSI.dd k).1 hk with h|h|h|h|h
   ·omega
   ·omega
   ·omega
   ·omega
   ·obtain⟨vs,k1,_⟩:=hSI.row;obtain⟨cs,hc⟩:=ownsRow_ty k1 k h;exact(Array.getElem?_eq_some_iff.1 hc).1
 ·intro r hr;rcases List.mem_cons.1 hr with rfl|hr
  ·exact⟨(hb8.block r (Array.getElem?_eq_some_iff.1 hdef).1).trans hdef,by omega⟩
  ·obtain⟨h1,h2⟩:=hrs r hr;have hrg:r ≠ g:=fun e=>by rw[e,hcg] at h1;cases h1
   exact⟨(hold r (Array.getElem?_eq_some_iff.1 h1).1 (by omega) (by omega) (by omega) (by omega) hrg).trans h1,h2⟩
 ·rw[List.nodup_cons];exact⟨fun hr=>by have:=(Array.getElem?_eq_some_iff.1 (hrs d hr).1).1;omega,hnd⟩
 ·exact(hold _ (by omega) (by omega) (by omega) (by omega) (by omega) hgb3.symm).trans c3
 ·exact(hold _ (by omega) (by omega) (by omega) (by omega) (by omega) hgb4.symm).trans c4
 ·exact(hold _ (by omega) (by omega) (by omega) (by omega) (by omega) hgb5.symm).trans c5
 ·exact(hold _ (by omega) (by omega) (by omega) (by omega) (by omega) hgb9.symm).trans c9
 ·refine((hbw.trans (hbr4.mono zw)).trans (hOn.below (n:=w.heap.size) (by omega) ?_)).trans (hb8.mono (by omega));intro k hk;rcases hk with hk|hk|hk
  ·rcases(hD0 k).1 hk with h|h|h|h|h<;>omega
  ·omega
  ·omega
open Go.RowKit Go.ChangeMaps Go.MapKept Go.WideMaps
attribute [local go_sem] Oper.semAt_some
theorem foldl1 {A:Array Value}{p:Nat}{v:Value}:Array.foldl (fun t (x:Nat × Value)=>t.setIfInBounds x.fst x.snd) A (#[p].zip #[v])=A.setIfInBounds p v:=by rw[show #[p].zip #[v] = #[(p,v)] from List.zip_toArray [p] [v]];simp
theorem snAssign {v0 v1 v2 v3 v4 v5 v6 v7 v8 v9 v10 v11 v12 v13 v14 v15 v16 v17 v18 v19 v20 v21 v22 v23 v24 v25 v26 v27 v28 v29 v30 v31 v32 v33 v34 v35 v36 v37 v38 v39 v40 v41 v43 v44 v45 v46 v47 v48 v49 v50 v51 v52 v53 v54 v55 v56 v57 v58 v59 v60 v61 v62 v63 v64 v65 v66 v67 v68 v69 v70 v71 v72 v73 v74 v75 v76 v77 v78 v79 v80 v81 v82:Value}{x0 x1 x2 x3 x4 x5 x6 x7 x8:Int}{l:Nat}{W:World}{K:Act→World→Prop}
  (hK:K { tmps:=(List.toArray (v0::v1::v2::v3::v4::v5::v6::v7::v8::v9::v10::v11::(.pointer (some ⟨W.heap.size,0,none⟩))::v13::v14::v15::v16::v17::v18::v19::v20::v21::v22::v23::v24::v25::v26::v27::v28::v29::v30::v31::v32::v33::v34::v35::v36::v37::v38::v39::v40::v41::(.agg #[.int .i64 x0,.int .i64 x1,.int .i64 x2,.int .i64 x3,.int .i64 x4,.int .i64 x5,.int .i64 x6,.int .i64 x7,.int .i64 x8])::v43::v44::v45::v46::v47::v48::v49::v50::v51::v52::v53::v54::v55::v56::v57::v58::v59::v60::v61::v62::v63::v64::v65::v66::v67::v68::v69::v70::v71::v72::v73::v74::v75::v76::v77::v78::v79::v80::v81::v82::[])),defers:=[] } (W.alloc (.cells #[.int .i64 x0,.int .i64 x1,.int .i64 x2,.int .i64 x3,.int .i64 x4,.int .i64 x5,.int .i64 x6,.int .i64 x7,.int .i64 x8] 134))) :
  (Code.region 8 #[{ dst:=some 12,op:=Op.alloc 134,type:=0,pos:= "inclusion.go:83",after:=#[],guard:=none },
   {dst:=none,op:=Op.store 134 (Operand.tmp 12) (Operand.tmp 42),type:=0,pos:= "inclusion.go:83",after:=#[{ on:=0,ground:=Ground.data },{ on:=0,ground:=Ground.phase }],guard:=none }] false).wpIn (Fence.wide.inRound l) 0 Tryz.prog
   (Exit.then K (fun _ _ _=>False)) { tmps:=(List.toArray (v0::v1::v2::v3::v4::v5::v6::v7::v8::v9::v10::v11::v12::v13::v14::v15::v16::v17::v18::v19::v20::v21::v22::v23::v24::v25::v26::v27::v28::v29::v30::v31::v32::v33::v34::v35::v36::v37::v38::v39::v40::v41::(.agg #[.int .i64 x0,.int .i64 x1,.int .i64 x2,.int .i64 x3,.int .i64 x4,.int .i64 x5,.int .i64 x6,.int .i64 x7,.int .i64 x8])::v43::v44::v45::v46::v47::v48::v49::v50::v51::v52::v53::v54::v55::v56::v57::v58::v59::v60::v61::v62::v63::v64::v65::v66::v67::v68::v69::v70::v71::v72::v73::v74::v75::v76::v77::v78::v79::v80::v81::v82::[])),defers:=[] } W:=by
 gi_wp2;exact hK
open Go.RowKit Go.ChangeMaps Go.MapKept Go.WideMaps
theorem wpListIn_runApp {F:Fence}{n:Nat}{P:Program}{w w':World}{ops:Array Oper}{rest:List Oper}{o:Oper}{a:Act}{Q:Exit→Act→World→Prop}{v u v':Value}{t:TypeId}
  (hg:o.guard=none) (s x:Operand) (hop:o.op=Op.call { callee:=Callee.builtin Builtin.append,args:=#[s,x],argTypes:=#[t,t] }) (hs:a.eval s=v) (hx:a.eval x=u)
  (hrun:(Builtin.append_ #[t,t] o.type #[v,u]).run P w = .ok v' w') (hK:wpListIn F n P ops Q rest (a.put o.dst v') w'):wpListIn F n P ops Q (o::rest) a w:=by
 refine wpListIn_plain hg fun K hK'=>?_;unfold Oper.wpIn;refine⟨?_,?_⟩
 ·simp[Oper.about,hop,resolve,Target.leads,Sem.run_pure]
 ·rw[Oper.semAt_plain F _ _ (by rw[hop];intro c hc';cases hc')];simp[execOp,hop,resolve,invoke,builtin,hs,hx,hrun,Result.andThen]
  exact hK' _ _ hK
theorem snPush {n0 b6 b7 b8 mb KA KB i p q:Nat}{r0 r1 r2 r3 r4 r5 r6:Int}{vis:List (List Int)}{Q:Pq}{lv:Value}{D:Nat→Prop}{W:World}(hS:SrI n0 b6 b7 b8 mb KA KB vis Q lv D W) (hD:Bd D W) (hn0:n0≤W.heap.size) (hi:i < vis.length) (hK:KA * KB≤10000)
  (hp:p < KA) (hq:q < KB) (hn:(p,q) ∉ Q) (h86:b8 ≠ b6) (h87:b8 ≠ b7) (hm6:mb ≠ b6) (hm7:mb ≠ b7) (hm8:mb ≠ b8) :
  (∀y∈Q,SmP2 y)∧∃ob v' W4,(Instr.mapUpdate 175 (.map (some mb)) (.agg #[.int .i64 (p:Int),.int .i64 (q:Int)]) (.bool true)).run Tryz.prog W = .ok () (setBlock W mb ob)∧
   (Builtin.append_ #[130,130] 130 #[lv,.slice (some ⟨(setBlock W mb ob).heap.size,0,none⟩) 1 1]).run Tryz.prog ((setBlock W mb ob).alloc (.cells #[.int .i64 (p:Int),.int .i64 (q:Int),.int .i64 (i:Int),.int .i64 r0,.int .i64 r1,.int .i64 r2,.int .i64 r3,.int .i64 r4,.int .i64 r5,.int .i64 r6] 174)) = .ok v' W4∧
   W4.heap[b8]? = some (.cells #[lv] 130)∧
   ∃D',SrI n0 b6 b7 b8 mb KA KB (vis ++ [[(p:Int),(q:Int),(i:Int),r0,r1,r2,r3,r4,r5,r6]]) (Q ++ [(p,q)]) v' D' (W4.setCell ⟨b8,0,none⟩ v')∧Only D W (W4.setCell ⟨b8,0,none⟩ v')∧Gr D W D'∧Bd D' (W4.setCell ⟨b8,0,none⟩ v'):=by
 have hSm:∀y∈Q,SmP2 y:=fun y hy=>by
  obtain⟨h1,h2⟩:=hS.ok.2 y hy;have hA:KA≤KA * KB:=Nat.le_mul_of_pos_right _ (by omega);have hB:KB≤KA * KB:=Nat.le_mul_of_pos_left _ (by omega);exact⟨by omega,by omega⟩
 have hSp:SmP2 (p,q):=by
  have hA:KA≤KA * KB:=Nat.le_mul_of_pos_right _ (by omega);have hB:KB≤KA * KB:=Nat.le_mul_of_pos_left _ (by omega);exact⟨by show p≤_;omega,by show q≤_;omega⟩
 refine⟨hSm,?_⟩;have hQb:vis.length≤10000:=by rw[hS.vp.len];exact Nat.le_trans hS.ok.len hK
 obtain⟨ob,hput,hmp⟩:=hS.mp.put hSm hSp hn;obtain⟨W2,hW2⟩:=exF (setBlock W mb ob);rw[←hW2] at hput hmp;have hs2:W2.heap.size=W.heap.size:=by rw[hW2];simp[setBlock]
 have hk2:∀k,k ≠ mb→W2.heap[k]? = W.heap[k]?:=fun k hk=>by rw[hW2];exact setBlock_keep ob hk
 have hrow2:OwX 174 10 EI W2 n0 lv vis.length vis:=by
  refine hS.row.same fun g hg=>hk2 g fun e=>?_;obtain⟨vs,k1,_⟩:=hS.row;obtain⟨cs,hc⟩:=ownsRow_ty k1 g hg;obtain⟨es,cl,hm,_⟩:=hS.mp;rw[e,hm] at hc;cases hc
 obtain⟨CS,hCS⟩:∃CS:Array Value,CS = #[.int .i64 (p:Int),.int .i64 (q:Int),.int .i64 (i:Int),.int .i64 r0,.int .i64 r1,.int .i64 r2,.int .i64 r3,.int .i64 r4,.int .i64 r5,.int .i64 r6]:=⟨_,rfl⟩;obtain⟨W3,hW3⟩:=exF (W2.alloc (.cells CS 174));have hs3:W3.heap.size=W.heap.size+1:=by rw[hW3];simp[hs2]
 have hk3:∀k,k < W.heap.size→W3.heap[k]? = W2.heap[k]?:=fun k hk=>by rw[hW3];exact Below.heap_alloc _ _ _ (by omega)
 have hnew:W3.heap[W2.heap.size]? = some (.cells CS 174):=by rw[hW3];exact heap_alloc_new _ _
 have hrow3:OwX 174 10 EI W3 n0 lv vis.length vis:=hrow2.keep (EI.stab _) (by rw[hW3];exact(Below.refl _ _).alloc (Nat.le_refl _) _)
 obtain⟨v',W4,happ,hrow4,hgr,hna,hbl,hkx⟩:=run_appX (P:=Tryz.prog) (T:=130) (ty:=130) (cs:=CS.toList) (x:=[(p:Int),(q:Int),(i:Int),r0,r1,r2,r3,r4,r5,r6]) elemVis (by decide) (by decide) (EI.stab _) hrow3 ⟨W2.heap.size,0,none⟩ 1 (by rw[hCS];rfl)
  (fun j u hj=>by rw[show(⟨W2.heap.size,0,none⟩:Addr).add j=⟨W2.heap.size,j,none⟩ by(simp[Addr.add];try omega),cell_of_row _ _ j _ _ _ hnew];simpa using hj)
  (fun u hu=>by rw[hCS] at hu;simp at hu;rcases hu with rfl|rfl|rfl|rfl|rfl|rfl|rfl|rfl|rfl|rfl<;>rfl) (by rw[hCS];rfl) (by omega) (by omega)
 have hk4:∀(k:Nat) (cs:Array Value) (t:TypeId),W3.heap[k]? = some (.cells cs t)→t ≠ 174→W4.heap[k]? = W3.heap[k]?:=hkx
 have c8:W4.heap[b8]? = some (.cells #[lv] 130):=by
  have h3:W3.heap[b8]? = some (.cells #[lv] 130):=(hk3 b8 (hD b8 ((hS.dd b8).2 (.inl rfl)))).trans ((hk2 b8 (fun e=>hm8 e.symm)).trans hS.bl);exact(hk4 b8 _ _ h3 (by decide)).trans h3
 have c6:W4.heap[b6]? = some (.cells #[.slice none 0 0] 130):=by
  have h3:W3.heap[b6]? = some (.cells #[.slice none 0 0] 130):=(hk3 b6 (hD b6 ((hS.dd b6).2 (.inr (.inr (.inl rfl)))))).trans ((hk2 b6 (fun e=>hm6 e.symm)).trans hS.r6);exact(hk4 b6 _ _ h3 (by decide)).trans h3
 have c7:W4.heap[b7]? = some (.cells #[.slice none 0 0] 78):=by
  have h3:W3.heap[b7]? = some (.cells #[.slice none 0 0] 78):=(hk3 b7 (hD b7 ((hS.dd b7).2 (.inr (.inr (.inr (.inl rfl))))))).trans ((hk2 b7 (fun e=>hm7 e.symm)).trans hS.r7);exact(hk4 b7 _ _ h3 (by decide)).trans h3
 have hmlt:mb < W.heap.size:=hD mb ((hS.dd mb).2 (.inr (.inl rfl)))
 have hmo : ¬lv.ownBlock=some mb:=fun e=>by
  obtain⟨vs,k1,_⟩:=hrow2;obtain⟨cs,hc⟩:=ownsRow_ty k1 mb e;obtain⟨es,cl,hm,_⟩:=hmp;rw[hm] at hc;cases hc
 have hmp4:SN2 W4 mb (Q ++ [(p,q)]):=(hmp.keep (hk3 mb hmlt)).keep (hgr.block mb (by omega) (fun e=>hmo e.symm))
 have hg4:∀g,v'.ownBlock=some g→g ≠ b8:=fun g hg e=>by
  obtain⟨vs,k1,_⟩:=hrow4;obtain⟨cs,hc⟩:=ownsRow_ty k1 g hg;rw[e,c8] at hc;injection hc with hc;injection hc with _ hc;exact absurd hc (by decide)
 have hset:∀k,k ≠ b8→(W4.setCell ⟨b8,0,none⟩ v').heap[k]? = W4.heap[k]?:=fun k hk=>Below.heap_setCell _ _ _ _ hk;have hsz:(W4.setCell ⟨b8,0,none⟩ v').heap.size=W4.heap.size:=by simp[World.setCell]
 have hvl:vis.length+1=(vis ++ [[(p:Int),(q:Int),(i:Int),r0,r1,r2,r3,r4,r5,r6]]).length:=by simp
 have hon2:Only D W W2:=by rw[hW2];exact⟨rfl,rfl,rfl,by simp[setBlock],fun k _ hd=>setBlock_keep ob (fun e=>hd (by rw[e];exact(hS.dd mb).2 (.inr (.inl rfl))))⟩
 have hon3:Only D W W3:=hon2.thenBelow (by rw[hW3];exact((Below.refl _ _).alloc (Nat.le_refl _) _).mono (by omega));have hon4:Only D W W4:=⟨hbl.os.trans hon3.os,hbl.tape.trans hon3.tape,hbl.output.trans hon3.output,Nat.le_trans hon3.size hbl.size,fun k hk hd=>(hgr.block k (by omega) (fun e=>hd ((hS.dd k).2 (.inr (.inr (.inr (.inr e.symm))))))).trans (hon3.same k hk hd)⟩;refine⟨ob,v',W4,by rw[hput,hW2],by rw[←hW2,←hCS,←hW3];exact happ,c8,fun k=>k=b8∨k=mb∨k=b6∨k=b7∨v'.ownBlock=some k,⟨one_setCell c8,?_,hS.vp.snoc (p,q) _ _ _ _ _ _ _ _,hS.vo.snoc (by omega) (by omega),hmp4.keep (hset mb hm8),?_,(hset b6 (fun e=>h86 e.symm)).trans c6,(hset b7 (fun e=>h87 e.symm)).trans c7,fun _=>Iff.rfl⟩,hon4.setCell (p:=⟨b8,0,none⟩) ((hS.dd b8).2 (.inl rfl)) _,?_,?_⟩
 ·rw[←hvl];exact hrow4.same fun g hg=>hset g (hg4 g hg)
 ·have:=hS.ok.push (y:=(p,q)) hp hq
  rwa [pushP,if_neg hn] at this
 ·intro k hk;rcases hk with h|h|h|h|h
  ·exact .inl ((hS.dd k).2 (.inl h))
  ·exact .inl ((hS.dd k).2 (.inr (.inl h)))
  ·exact .inl ((hS.dd k).2 (.inr (.inr (.inl h))))
  ·exact .inl ((hS.dd k).2 (.inr (.inr (.inr (.inl h)))))
  ·rcases hna with e|e
   ·exact .inl ((hS.dd k).2 (.inr (.inr (.inr (.inr (e▸h))))))
   ·rw[e] at h;injection h with h;right;omega
 ·intro k hk;rw[hsz];have:=hon4.size
  rcases hk with h|h|h|h|h
  ·have:=hD k ((hS.dd k).2 (.inl h));omega
  ·have:=hD k ((hS.dd k).2 (.inr (.inl h)));omega
  ·have:=hD k ((hS.dd k).2 (.inr (.inr (.inl h))));omega
  ·have:=hD k ((hS.dd k).2 (.inr (.inr (.inr (.inl h)))));omega
  ·obtain⟨vs,k1,_⟩:=hrow4;exact(k1.lt k h).2
end Go.Proofs.YtmikofeildnpdaaGreat
