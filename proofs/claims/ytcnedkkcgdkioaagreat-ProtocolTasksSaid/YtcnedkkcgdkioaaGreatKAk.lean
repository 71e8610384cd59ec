/- Texts of this claim, put together: V4 TJ TK TL TM0. -/
import Derived.Test.YtcnedkkcgdkioaaGreatKAj

set_option maxRecDepth 100000
set_option maxHeartbeats 12800000
namespace Go.Proofs.YtcnedkkcgdkioaaGreat
open Go.RowKit
theorem countedW {w:World}{v:Value}{n:Int}{ss:List (List (List Int))}(hA:AdvV w v n ss) (h0:chkA n ss=0) (hO:WdOK ss) {k:Nat}(hk:k≤6) (hz:num ss 4097 k≤4096) :
  Calls Tryz.prog 127 #[v,.int .i64 (k:Int),.int .i64 4096] w fun e w'=>e = .returned (.tuple #[.int .i64 (num ss 4097 k:Nat),.int .i64 0])∧Below w.heap.size w w':=by
 have hmv:movesN ss≤1000000000:=by have:=hO.2.1;omega
 obtain⟨xa,xc,hu⟩:=advShape' hA;subst hu;obtain⟨W1,hW1⟩:=exF (w.alloc (.cells #[.int .i64 n,.slice xa ss.length xc] 27));obtain⟨hb1,p0,p1,_⟩:=boxAdv hW1;have HC:=qH (fun W (hb:Below w.heap.size w W)=>h0▸checkA (hA.keep hb) hmv);have HN:=qH (fun W (hb:Below w.heap.size w W)=>numberW (k:=k) (L:=4097) (lim:=4096) (hA.keep hb) hO (by omega) rfl (by omega) (by omega));obtain⟨z,hzz⟩:=exE (num ss 4097 k);rw[hzz] at hz;simp only[hzz] at HN⊢;have h1:decide ((k:Int) < 0)=false:=decide_eq_false (by omega);have h2:decide ((6:Int) < (k:Int))=false:=decide_eq_false (by omega);have h3:decide ((4096:Int) < (z:Int))=false:=decide_eq_false (by omega);clear hA hzz;go_enter Tryz.func127, Tryz.ntmps127
 go_wp2_with fail
 rw[←hW1];replace hW1:=qH hW1;refine(HC.out W1 hb1).mono ?_;rintro e W2 ⟨rfl,hb2⟩;have B2:=bt hb1 hb2 hb1.size;have q0:=cell_kept hb2 p0;have q1:=cell_kept hb2 p1;go_wp2_with fail
 refine(HN.out W2 B2).mono ?_;rintro e W3 ⟨rfl,hb3⟩;go_wp2;go_ret2
 exact⟨rfl,bt B2 hb3 B2.size⟩
theorem countedL {w:World}{v:Value}{n:Int}{ss:List (List (List Int))}(hA:AdvV w v n ss) (h0:chkA n ss=0) (hO:WdOK ss) {k:Nat}(hk:k≤6) :
  Calls Tryz.prog 127 #[v,.int .i64 (k:Int),.int .i64 1048576] w fun e w'=>e = .returned (if 1048576 < num ss 1048577 k then .tuple #[.int .i64 0,.int .i64 17] else .tuple #[.int .i64 (num ss 1048577 k:Nat),.int .i64 0])∧Below w.heap.size w w':=by
 have hmv:movesN ss≤1000000000:=by have:=hO.2.1;omega
 obtain⟨xa,xc,hu⟩:=advShape' hA;subst hu;obtain⟨W1,hW1⟩:=exF (w.alloc (.cells #[.int .i64 n,.slice xa ss.length xc] 27));obtain⟨hb1,p0,p1,_⟩:=boxAdv hW1;have HC:=qH (fun W (hb:Below w.heap.size w W)=>h0▸checkA (hA.keep hb) hmv);have HN:=qH (fun W (hb:Below w.heap.size w W)=>numberW (k:=k) (L:=1048577) (lim:=1048576) (hA.keep hb) hO (by omega) rfl (by omega) (by omega));obtain⟨z,hzz⟩:=exE (num ss 1048577 k);simp only[hzz] at HN⊢;have h1:decide ((k:Int) < 0)=false:=decide_eq_false (by omega);have h2:decide ((6:Int) < (k:Int))=false:=decide_eq_false (by omega);clear hA hzz;by_cases hz:1048576 < z
 ·rw[if_pos hz];have h3:decide ((1048576:Int) < (z:Int))=true:=decide_eq_true (by omega);clear hz;go_enter Tryz.func127, Tryz.ntmps127
  go_wp2_with fail
  rw[←hW1];replace hW1:=qH hW1;refine(HC.out W1 hb1).mono ?_;rintro e W2 ⟨rfl,hb2⟩;have B2:=bt hb1 hb2 hb1.size;have q0:=cell_kept hb2 p0;have q1:=cell_kept hb2 p1;go_wp2_with fail
  refine(HN.out W2 B2).mono ?_;rintro e W3 ⟨rfl,hb3⟩;go_wp2;go_ret2
  exact⟨rfl,bt B2 hb3 B2.size⟩
 ·rw[if_neg hz];have h3:decide ((1048576:Int) < (z:Int))=false:=decide_eq_false (by omega);clear hz;go_enter Tryz.func127, Tryz.ntmps127
  go_wp2_with fail
  rw[←hW1];replace hW1:=qH hW1;refine(HC.out W1 hb1).mono ?_;rintro e W2 ⟨rfl,hb2⟩;have B2:=bt hb1 hb2 hb1.size;have q0:=cell_kept hb2 p0;have q1:=cell_kept hb2 p1;go_wp2_with fail
  refine(HN.out W2 B2).mono ?_;rintro e W3 ⟨rfl,hb3⟩;go_wp2;go_ret2
  exact⟨rfl,bt B2 hb3 B2.size⟩
theorem advCount {w:World}{v:Value}{n:Int}{ss:List (List (List Int))}(hA:AdvV w v n ss) (h0:chkA n ss=0) (hO:WdOK ss) {k:Nat}(hk:k≤6) :
  Calls Tryz.prog 126 #[v,.int .i64 (k:Int)] w fun e w'=>e = .returned (if 1048576 < num ss 1048577 k then .tuple #[.int .i64 0,.int .i64 17] else .tuple #[.int .i64 (num ss 1048577 k:Nat),.int .i64 0])∧Below w.heap.size w w':=by
 obtain⟨xa,xc,hu⟩:=advShape' hA;subst hu;obtain⟨W1,hW1⟩:=exF (w.alloc (.cells #[.int .i64 n,.slice xa ss.length xc] 27));obtain⟨hb1,p0,p1,_⟩:=boxAdv hW1;have HC:=countedL (hA.keep hb1) h0 hO hk;obtain⟨z,hzz⟩:=exE (num ss 1048577 k);rw[hzz] at HC⊢;clear hA hzz;by_cases hz:1048576 < z
 ·rw[if_pos hz] at HC⊢;replace HC:=qH HC;go_enter Tryz.func126, Tryz.ntmps126
  go_wp2_with fail
  rw[←hW1];replace hW1:=qH hW1;refine HC.out.mono ?_;rintro e W2 ⟨rfl,hb2⟩;have hbf:=btt hb1 hb2;go_wp2;go_ret2
  exact⟨rfl,hbf⟩
 ·rw[if_neg hz] at HC⊢;replace HC:=qH HC;go_enter Tryz.func126, Tryz.ntmps126
  go_wp2_with fail
  rw[←hW1];replace hW1:=qH hW1;refine HC.out.mono ?_;rintro e W2 ⟨rfl,hb2⟩;have hbf:=btt hb1 hb2;go_wp2;go_ret2
  exact⟨rfl,hbf⟩
def cntP (cs:List Cs) (ss:List (List (List Int))) (k:Nat):Int × Int:=
 if 1048576 < num ss 1048577 k then (0,17) else if 1048576 < num ss 1048577 k * cs.length then (0,17) else ((num ss 1048577 k * cs.length:Nat),0)
theorem chkT_len {n i o:Int}{cs:List Cs}(h:chkT n i o cs=0):1≤cs.length∧cs.length≤1024:=by
 unfold chkT at h;split at h
 ·cases h
 ·split at h
  ·cases h
  ·omega
theorem execCount {w:World}{v:Value}{n i o an r:Int}{cs:List Cs}{ss:List (List (List Int))}(h:PrV w v n i o cs an ss r) (hf:fewA ss=true) :
  Calls Tryz.prog 72 #[v] w fun e w'=>e = .returned (.tuple #[.int .i64 (if chkP n i o cs an ss r ≠ 0 then (0,chkP n i o cs an ss r) else cntP cs ss r.toNat).1,.int .i64 (if chkP n i o cs an ss r ≠ 0 then (0,chkP n i o cs an ss r) else cntP cs ss r.toNat).2])∧Below w.heap.size w w':=by
 have HCk:=qH (fun W (hb:Below w.heap.size w W)=>execCheck (h.keep hb) hf);obtain⟨a,c,a',c',rfl,hT,hA⟩:=h;obtain⟨W1,hW1⟩:=exF (w.alloc (.cells #[.int .i64 n,.int .i64 i,.int .i64 o,.slice a cs.length c,.int .i64 an,.slice a' ss.length c',.int .i64 r] 29));have hb1:Below w.heap.size w W1:=by rw[hW1];exact(Below.refl _ w).alloc (Nat.le_refl _) _
 have kT:W1.heap[w.heap.size]? = some (.cells #[.int .i64 n,.int .i64 i,.int .i64 o,.slice a cs.length c,.int .i64 an,.slice a' ss.length c',.int .i64 r] 29):=by rw[hW1];exact heap_alloc_new _ _
 have HK:=qH (fun W (hb:Below W1.heap.size W1 W)=>keep7 hb (box7' kT));obtain⟨g0,g1,g2,g3,g4,g5,g6⟩:=HK.out W1 (Below.refl _ _);rw[hW1] at g0 g1 g2 g3 g4 g5 g6;obtain⟨z,hz⟩:=exE (chkP n i o cs an ss r);have hz':=hz;rw[hz];simp only[hz] at HCk;clear kT hz;by_cases hz0:z=0
 ·subst hz0;rw[if_neg (fun h=>h rfl)];obtain⟨c1,c2,-,c4,c5⟩:=chkP_zero hz';obtain⟨l1,l2⟩:=chkT_len c1;have hO:=(chk_cls hA hf c2).wd;obtain⟨k,rfl⟩:∃k:Nat,r=(k:Int):=⟨r.toNat,by omega⟩;rw[Int.toNat_natCast];have hk6:k≤6:=by omega
  have HN:=qH (fun W (hb:Below W1.heap.size W1 W)=>advCount ((hA.keep hb1).keep hb) c2 hO hk6);unfold cntP;obtain⟨N,hN⟩:=exE (num ss 1048577 k);rw[hN];simp only[hN] at HN;clear hz' c1 c2 c4 c5 hO hA hT hN;by_cases hb:1048576 < N
  ·rw[if_pos hb];simp only[if_pos hb] at HN;clear hb;go_enter Tryz.func72, Tryz.ntmps72
   go_wp2_with fail
   rw[←hW1];replace hW1:=qH hW1;refine(HCk.out W1 hb1).mono ?_;rintro e w2 ⟨rfl,hb2⟩;clear g0 g1 g2 g3 g4 g5 g6;obtain⟨g0,g1,g2,g3,g4,g5,g6⟩:=HK.out w2 hb2;go_wp2_with fail
   refine(HN.out w2 hb2).mono ?_;rintro e w3 ⟨rfl,hb3⟩;have hbf:=btt hb1 (btt hb2 hb3);go_wp2_with fail
   go_ret2
   exact⟨rfl,hbf⟩
  ·rw[if_neg hb];simp only[if_neg hb] at HN;have hm:N * cs.length≤1048576 * 1024:=Nat.mul_le_mul (by omega) l2;obtain⟨M,hM⟩:=exE (N * cs.length);rw[hM] at hm⊢;have hwr:IntKind.i64.wrap (M:Int)=(M:Int):=IntWalk.i64_in _ (by omega);have hM2:(N:Int) * (cs.length:Int)=(M:Int):=(by rw[←hM,Int.natCast_mul]);clear hb hm hM;by_cases hm:1048576 < M
   ·rw[if_pos hm];have d1:decide ((1048576:Int) < (M:Int))=true:=decide_eq_true (by omega);clear hm;go_enter Tryz.func72, Tryz.ntmps72
    go_wp2_with fail
    rw[←hW1];replace hW1:=qH hW1;refine(HCk.out W1 hb1).mono ?_;rintro e w2 ⟨rfl,hb2⟩;clear g0 g1 g2 g3 g4 g5 g6;obtain⟨g0,g1,g2,g3,g4,g5,g6⟩:=HK.out w2 hb2;go_wp2_with fail
    refine(HN.out w2 hb2).mono ?_;rintro e w3 ⟨rfl,hb3⟩;clear g0 g1 g2 g3 g4 g5 g6;obtain⟨g0,g1,g2,g3,g4,g5,g6⟩:=HK.out w3 (btt hb2 hb3);have hbf:=btt hb1 (btt hb2 hb3);go_wp2_with fail
    go_ret2
    exact⟨rfl,hbf⟩
   ·rw[if_neg hm];have d1:decide ((1048576:Int) < (M:Int))=false:=decide_eq_false (by omega);clear hm;go_enter Tryz.func72, Tryz.ntmps72
    go_wp2_with fail
    rw[←hW1];replace hW1:=qH hW1;refine(HCk.out W1 hb1).mono ?_;rintro e w2 ⟨rfl,hb2⟩;clear g0 g1 g2 g3 g4 g5 g6;obtain⟨g0,g1,g2,g3,g4,g5,g6⟩:=HK.out w2 hb2;go_wp2_with fail
    refine(HN.out w2 hb2).mono ?_;rintro e w3 ⟨rfl,hb3⟩;clear g0 g1 g2 g3 g4 g5 g6;obtain⟨g0,g1,g2,g3,g4,g5,g6⟩:=HK.out w3 (btt hb2 hb3);have hbf:=btt hb1 (btt hb2 hb3);go_wp2_with fail
    go_ret2
    exact⟨rfl,hbf⟩
 ·rw[if_pos hz0];have hz1:(z != 0)=true:=by simpa using hz0
  clear hz' hT hA;go_enter Tryz.func72, Tryz.ntmps72
  go_wp2_with fail
  rw[←hW1];replace hW1:=qH hW1;refine(HCk.out W1 hb1).mono ?_;rintro e w2 ⟨rfl,hb2⟩;have hbf:=btt hb1 hb2;go_wp2_with fail
  go_ret2
  exact⟨rfl,hbf⟩
end Go.Proofs.YtcnedkkcgdkioaaGreat
namespace Go.Proofs.YtcnedkkcgdkioaaGreat
open Go.RowKit Go.ChangeMaps Go.MapKept Go.WideMaps
def vwV (x:List Int):Value:=.agg (x.map (Value.int .i64)).toArray
def SmV (x:List Int):Prop:=x.length=8∧∀y∈x,-1000000≤y∧y≤1000000
theorem lawVw:Maps.Keyed Tryz.prog 114:=Maps.Keyed.of_law (deep_law_gate (by kernel_rfl) (of_decide_eq_true (by kernel_rfl)) (of_decide_eq_true (by kernel_rfl)) (by kernel_rfl) (by kernel_rfl))
theorem litZv {x:Int}(m:Nat) (h : -1000000≤x∧x≤1000000) : Tryz.prog.keyLits (m+1) 3 [.int .i64 x]=some [.int .i64 x]:=by
 unfold Program.keyLits;simp only[und_int];rw[if_pos ⟨trivial,WalkArith.wf_i64 (by omega)⟩]
theorem litAv {h0 h1 h2 h3 h4:Int}(m:Nat) (g0 : -1000000≤h0∧h0≤1000000) (g1 : -1000000≤h1∧h1≤1000000) (g2 : -1000000≤h2∧h2≤1000000) (g3 : -1000000≤h3∧h3≤1000000) (g4 : -1000000≤h4∧h4≤1000000) :
  Tryz.prog.keyLits (m+2) 112 [.int .i64 h0,.int .i64 h1,.int .i64 h2,.int .i64 h3,.int .i64 h4]=some [.int .i64 h0,.int .i64 h1,.int .i64 h2,.int .i64 h3,.int .i64 h4]:=by
 have u5 : Tryz.prog.underlying 112=some (.array 5 3):=by kernel_rfl
 have c5 : Tryz.prog.cellsOf 112=5:=by kernel_rfl
 have c1 : Tryz.prog.cellsOf 3=1:=by kernel_rfl
 rw[show m+2=(m+1)+1 from rfl];conv=>lhs;unfold Program.keyLits
 simp only[u5,c5,c1,show List.range 5 = [0,1,2,3,4] from rfl];rw[if_pos (by rfl)];simp only[List.mapM_cons,List.mapM_nil,List.drop,List.take,Nat.mul_one];rw[litZv m g0,litZv m g1,litZv m g2,litZv m g3,litZv m g4];rfl
theorem keyVw {a b c h0 h1 h2 h3 h4:Int}(ga : -1000000≤a∧a≤1000000) (gb : -1000000≤b∧b≤1000000) (gc : -1000000≤c∧c≤1000000) (g0 : -1000000≤h0∧h0≤1000000) (g1 : -1000000≤h1∧h1≤1000000) (g2 : -1000000≤h2∧h2≤1000000) (g3 : -1000000≤h3∧h3≤1000000) (g4 : -1000000≤h4∧h4≤1000000) :
  ∃l,keyOf Tryz.prog 114 (.agg #[.int .i64 a,.int .i64 b,.int .i64 c,.int .i64 h0,.int .i64 h1,.int .i64 h2,.int .i64 h3,.int .i64 h4])=some l:=by
 obtain⟨m,hm⟩:=typesSize;have c8 : Tryz.prog.cellsOf 114=8:=by kernel_rfl
 have c5 : Tryz.prog.cellsOf 112=5:=by kernel_rfl
 have c1 : Tryz.prog.cellsOf 3=1:=by kernel_rfl
 have hk : Tryz.prog.keyType 114=true:=by kernel_rfl
 have uR:=Tryz.underlying114;refine⟨.string (keyBytes [.int .i64 a,.int .i64 b,.int .i64 c,.int .i64 h0,.int .i64 h1,.int .i64 h2,.int .i64 h3,.int .i64 h4]),?_⟩;unfold keyOf;simp only[uR];rw[if_pos (by simp[hk,Value.formed,uR,c8]),hm];conv=>lhs;unfold Program.keyLits
 simp only[uR,c8,Value.cells];rw[if_pos (by exact⟨rfl,by kernel_rfl⟩)];simp only[List.mapM_cons,List.mapM_nil,List.drop,List.take,c5,c1];rw[litZv (m+2) ga,litZv (m+2) gb,litZv (m+2) gc,litAv (m+1) g0 g1 g2 g3 g4];rfl
theorem keyX_view:KeyX Tryz.prog 114 vwV SmV where
 law:=lawVw
 has:=fun x ⟨h1,h2⟩=>by
  obtain⟨a,b,c,d,e,f,g,i,rfl⟩:=eight h1;exact keyVw (h2 a (by simp)) (h2 b (by simp)) (h2 c (by simp)) (h2 d (by simp)) (h2 e (by simp)) (h2 f (by simp)) (h2 g (by simp)) (h2 i (by simp))
 inj:=fun x y _ _ h=>by
  simp only[vwV,Value.agg.injEq] at h
  have h2:x.map (Value.int .i64)=y.map (Value.int .i64):=by
   have:=congrArg Array.toList h
   simpa using this
  have hinj:∀a b:Int,Value.int .i64 a=Value.int .i64 b→a=b:=fun a b e=>by injection e
  exact List.map_inj_right hinj |>.1 h2
theorem umView : Tryz.prog.underlying 138=some (.map 114 3):=by kernel_rfl
theorem zIntV:∀w,(zeroValue 3).run Tryz.prog w = .ok (.int .i64 0) w:=fun w=>by kernel_rfl
theorem elemVw:ElemK Tryz.prog 30 114 (.agg #[.int .i64 0,.int .i64 0,.int .i64 0,.int .i64 0,.int .i64 0,.int .i64 0,.int .i64 0,.int .i64 0]) 8 64:=⟨by kernel_rfl,by kernel_rfl,rfl⟩
def putV (vs:List (List Int)) (v:List Int):List (List Int):=if v∈vs then vs else vs ++ [v]
theorem putV_nodup {vs:List (List Int)}{v:List Int}(h:vs.Nodup):(putV vs v).Nodup:=by
 unfold putV;split
 ·exact h
 ·rename_i hn
  rw[List.nodup_append];exact⟨h,by simp,fun a ha b hb e=>by rw[List.mem_singleton] at hb;subst hb;subst e;exact hn ha⟩
theorem putV_mem {vs:List (List Int)}{v x:List Int}:x∈putV vs v↔x∈vs∨x=v:=by
 unfold putV;split
 ·rename_i hm
  exact⟨.inl,fun h=>h.elim id fun e=>by rw[e];exact hm⟩
 ·rw[List.mem_append,List.mem_singleton]
theorem putV_len {vs:List (List Int)}{v:List Int}:(putV vs v).length≤vs.length+1:=by
 unfold putV;split<;>simp
open Go.RowKit Go.ChangeMaps Go.MapKept Go.WideMaps
theorem box5' {W:World}{b:Nat}{v0 v1 v2 v3 v4:Value}{T:TypeId}(h:W.heap[b]? = some (.cells #[v0,v1,v2,v3,v4] T)):W.cell? ⟨b,0,none⟩=some v0∧W.cell? ⟨b,1,none⟩=some v1∧W.cell? ⟨b,2,none⟩=some v2∧W.cell? ⟨b,3,none⟩=some v3∧W.cell? ⟨b,4,none⟩=some v4:=
 ⟨by rw[cell_of_row _ _ 0 _ _ _ h];rfl,by rw[cell_of_row _ _ 1 _ _ _ h];rfl,by rw[cell_of_row _ _ 2 _ _ _ h];rfl,by rw[cell_of_row _ _ 3 _ _ _ h];rfl,by rw[cell_of_row _ _ 4 _ _ _ h];rfl⟩
def silA (k:Nat):Array Value:=
 match k with
 | 0=>#[.int .i64 0,.int .i64 0,.int .i64 0,.int .i64 0,.int .i64 0]
 | 1=>#[.int .i64 (-1),.int .i64 0,.int .i64 0,.int .i64 0,.int .i64 0]
 | 2=>#[.int .i64 (-1),.int .i64 (-1),.int .i64 0,.int .i64 0,.int .i64 0]
 | 3=>#[.int .i64 (-1),.int .i64 (-1),.int .i64 (-1),.int .i64 0,.int .i64 0]
 | 4=>#[.int .i64 (-1),.int .i64 (-1),.int .i64 (-1),.int .i64 (-1),.int .i64 0]
 | _=>#[.int .i64 (-1),.int .i64 (-1),.int .i64 (-1),.int .i64 (-1),.int .i64 (-1)]
theorem silKeep {w wr:World}{b0 b1 k:Nat}{v:Value}{c0 c1:Array Value}{t:TypeId}(h0:wr.heap[b0]? = some (.cells c0 t)) (h1:wr.heap[b1]? = some (.cells c1 t)) (hne:b0 ≠ b1) (hB:w.heap.size≤b1) (hb:Below w.heap.size w wr) :
  (wr.setCell ⟨b1,k,none⟩ v).heap[b0]? = some (.cells c0 t)∧(wr.setCell ⟨b1,k,none⟩ v).heap[b1]? = some (.cells (c1.setIfInBounds k v) t)∧Below w.heap.size w (wr.setCell ⟨b1,k,none⟩ v):=
 ⟨(Below.heap_setCell wr ⟨b1,k,none⟩ v b0 hne).trans h0,heap_setCell_same wr b1 k _ t v h1,Below.setCell (p:=⟨b1,k,none⟩) hb hB _⟩
theorem silenceC (w:World):Calls Tryz.prog 136 #[] w fun e w'=>e = .returned (.agg #[.int .i64 (-1),.int .i64 (-1),.int .i64 (-1),.int .i64 (-1),.int .i64 (-1)])∧Below w.heap.size w w':=by
 obtain⟨W1,hW1⟩:=exF ((w.alloc (.cells #[.int .i64 0,.int .i64 0,.int .i64 0,.int .i64 0,.int .i64 0] 112)).alloc (.cells #[.int .i64 0,.int .i64 0,.int .i64 0,.int .i64 0,.int .i64 0] 112));have hb1:Below w.heap.size w W1:=by rw[hW1];exact((Below.refl _ w).alloc (Nat.le_refl _) _).alloc (by simp) _
 have k0:W1.heap[w.heap.size]? = some (.cells #[.int .i64 0,.int .i64 0,.int .i64 0,.int .i64 0,.int .i64 0] 112):=by rw[hW1];exact(Below.heap_alloc _ _ _ (by simp)).trans (World.alloc_heap_new w _)
 have k1:W1.heap[w.heap.size+1]? = some (.cells #[.int .i64 0,.int .i64 0,.int .i64 0,.int .i64 0,.int .i64 0] 112):=by
  rw[hW1];have:=World.alloc_heap_new (w.alloc (.cells #[.int .i64 0,.int .i64 0,.int .i64 0,.int .i64 0,.int .i64 0] 112)) (.cells #[.int .i64 0,.int .i64 0,.int .i64 0,.int .i64 0,.int .i64 0] 112)
  rwa [World.size_alloc] at this
 go_enter Tryz.func136, Tryz.ntmps136
 go_wp2_with fail
 rw[←hW1];replace hW1:=qH hW1;go_loopw [3] (fun iv wr=>∃k:Nat,iv = .int .i64 k∧k≤5∧wr.heap[w.heap.size]? = some (.cells #[.int .i64 0,.int .i64 0,.int .i64 0,.int .i64 0,.int .i64 0] 112)∧wr.heap[w.heap.size+1]? = some (.cells (silA k) 112)∧Below w.heap.size w wr) (fun iv _=>5 - (intOf iv).toNat)
 case atStart=>exact⟨0,rfl,by omega,k0,k1,hb1⟩
 case round=>
  clear k0 k1 hb1;obtain⟨k,rfl,hk,h0,h1,hbr⟩:=hrel;rcases(show k=0∨k=1∨k=2∨k=3∨k=4∨k=5 by omega) with rfl|rfl|rfl|rfl|rfl|rfl
  ·have h1':wr.heap[w.heap.size+1]? = some (.cells #[.int .i64 0,.int .i64 0,.int .i64 0,.int .i64 0,.int .i64 0] 112):=h1;obtain⟨s0,s1,s2⟩:=silKeep (k:=0) (v:=.int .i64 (-1)) h0 h1' (by omega) (by omega) hbr;replace s1:(wr.setCell ⟨w.heap.size+1,0,none⟩ (.int .i64 (-1))).heap[w.heap.size+1]? = some (.cells (silA (0+1)) 112):=s1;obtain⟨p0,p1,p2,p3,p4⟩:=box5' h1';have fz:=row_free h1';replace s0:=qH s0;replace s1:=qH s1;replace s2:=qH s2;clear h0 h1 h1' hbr;go_wp2_with fail
   go_roundw
   case rel=>exact⟨_,by go_num,by omega,s0.out,s1.out,s2.out⟩
   case measure=>simp[intOf]
  ·have h1':wr.heap[w.heap.size+1]? = some (.cells #[.int .i64 (-1),.int .i64 0,.int .i64 0,.int .i64 0,.int .i64 0] 112):=h1;obtain⟨s0,s1,s2⟩:=silKeep (k:=1) (v:=.int .i64 (-1)) h0 h1' (by omega) (by omega) hbr;replace s1:(wr.setCell ⟨w.heap.size+1,1,none⟩ (.int .i64 (-1))).heap[w.heap.size+1]? = some (.cells (silA (1+1)) 112):=s1;obtain⟨p0,p1,p2,p3,p4⟩:=box5' h1';have fz:=row_free h1';replace s0:=qH s0;replace s1:=qH s1;replace s2:=qH s2;clear h0 h1 h1' hbr;go_wp2_with fail
   go_roundw
   case rel=>exact⟨_,by go_num,by omega,s0.out,s1.out,s2.out⟩
   case measure=>simp[intOf]
  ·have h1':wr.heap[w.heap.size+1]? = some (.cells #[.int .i64 (-1),.int .i64 (-1),.int .i64 0,.int .i64 0,.int .i64 0] 112):=h1;obtain⟨s0,s1,s2⟩:=silKeep (k:=2) (v:=.int .i64 (-1)) h0 h1' (by omega) (by omega) hbr;replace s1:(wr.setCell ⟨w.heap.size+1,2,none⟩ (.int .i64 (-1))).heap[w.heap.size+1]? = some (.cells (silA (2+1)) 112):=s1;obtain⟨p0,p1,p2,p3,p4⟩:=box5' h1';have fz:=row_free h1';replace s0:=qH s0;replace s1:=qH s1;replace s2:=qH s2;clear h0 h1 h1' hbr;go_wp2_with fail
   go_roundw
   case rel=>exact⟨_,by go_num,by omega,s0.out,s1.out,s2.out⟩
   case measure=>simp[intOf]
  ·have h1':wr.heap[w.heap.size+1]? = some (.cells #[.int .i64 (-1),.int .i64 (-1),.int .i64 (-1),.int .i64 0,.int .i64 0] 112):=h1;obtain⟨s0,s1,s2⟩:=silKeep (k:=3) (v:=.int .i64 (-1)) h0 h1' (by omega) (by omega) hbr;replace s1:(wr.setCell ⟨w.heap.size+1,3,none⟩ (.int .i64 (-1))).heap[w.heap.size+1]? = some (.cells (silA (3+1)) 112):=s1;obtain⟨p0,p1,p2,p3,p4⟩:=box5' h1';have fz:=row_free h1';replace s0:=qH s0;replace s1:=qH s1;replace s2:=qH s2;clear h0 h1 h1' hbr;go_wp2_with fail
   go_roundw
   case rel=>exact⟨_,by go_num,by omega,s0.out,s1.out,s2.out⟩
   case measure=>simp[intOf]
  ·have h1':wr.heap[w.heap.size+1]? = some (.cells #[.int .i64 (-1),.int .i64 (-1),.int .i64 (-1),.int .i64 (-1),.int .i64 0] 112):=h1;obtain⟨s0,s1,s2⟩:=silKeep (k:=4) (v:=.int .i64 (-1)) h0 h1' (by omega) (by omega) hbr;replace s1:(wr.setCell ⟨w.heap.size+1,4,none⟩ (.int .i64 (-1))).heap[w.heap.size+1]? = some (.cells (silA (4+1)) 112):=s1;obtain⟨p0,p1,p2,p3,p4⟩:=box5' h1';have fz:=row_free h1';replace s0:=qH s0;replace s1:=qH s1;replace s2:=qH s2;clear h0 h1 h1' hbr;go_wp2_with fail
   go_roundw
   case rel=>exact⟨_,by go_num,by omega,s0.out,s1.out,s2.out⟩
   case measure=>simp[intOf]
  ·have h1':wr.heap[w.heap.size+1]? = some (.cells #[.int .i64 (-1),.int .i64 (-1),.int .i64 (-1),.int .i64 (-1),.int .i64 (-1)] 112):=h1;obtain⟨p0,p1,p2,p3,p4⟩:=box5' h1';obtain⟨q0,q1,q2,q3,q4⟩:=box5' h0;have fz:=row_free h0;have t0:=heap_setCell_same wr w.heap.size 0 _ _ (.int .i64 (-1)) h0;have t1:=heap_setCell_same _ w.heap.size 1 _ _ (.int .i64 (-1)) t0;have t2:=heap_setCell_same _ w.heap.size 2 _ _ (.int .i64 (-1)) t1;have t3:=heap_setCell_same _ w.heap.size 3 _ _ (.int .i64 (-1)) t2;have t4:=heap_setCell_same _ w.heap.size 4 _ _ (.int .i64 (-1)) t3;have hbe:=Below.setCell (p:=⟨w.heap.size,4,none⟩) (Below.setCell (p:=⟨w.heap.size,3,none⟩) (Below.setCell (p:=⟨w.heap.size,2,none⟩) (Below.setCell (p:=⟨w.heap.size,1,none⟩) (Below.setCell (p:=⟨w.heap.size,0,none⟩) hbr (Nat.le_refl _) (.int .i64 (-1))) (Nat.le_refl _) (.int .i64 (-1))) (Nat.le_refl _) (.int .i64 (-1))) (Nat.le_refl _) (.int .i64 (-1))) (Nat.le_refl _) (.int .i64 (-1));obtain⟨W9,hW9⟩:=exF (((((wr.setCell ⟨w.heap.size,0,none⟩ (.int .i64 (-1))).setCell ⟨w.heap.size,1,none⟩ (.int .i64 (-1))).setCell ⟨w.heap.size,2,none⟩ (.int .i64 (-1))).setCell ⟨w.heap.size,3,none⟩ (.int .i64 (-1))).setCell ⟨w.heap.size,4,none⟩ (.int .i64 (-1)));rw[←hW9] at t4 hbe;replace t4:W9.heap[w.heap.size]? = some (.cells #[.int .i64 (-1),.int .i64 (-1),.int .i64 (-1),.int .i64 (-1),.int .i64 (-1)] 112):=t4;obtain⟨z0,z1,z2,z3,z4⟩:=box5' t4;replace hbe:=qH hbe;replace hW9:=qH hW9;clear h0 h1 h1' t0 t1 t2 t3 t4 hbr;go_wp2;rw[←hW9.out];refine bodyPost_ret (v:=.agg #[.int .i64 (-1),.int .i64 (-1),.int .i64 (-1),.int .i64 (-1),.int .i64 (-1)]) (by simp[results,Tryz.results136,go_sem,z0,z1,z2,z3,z4]) rfl ?_;exact⟨rfl,hbe.out⟩
end Go.Proofs.YtcnedkkcgdkioaaGreat
namespace Go.Proofs.YtcnedkkcgdkioaaGreat
open Go.RowKit
theorem keptO {W W1:World}{k:Nat}{o:Obj}(hb:Below W.heap.size W W1) (h:W.heap[k]? = some o):W1.heap[k]? = some o:=(hb.block k (Array.getElem?_eq_some_iff.1 h).1).trans h
theorem box8' {W:World}{b:Nat}{v0 v1 v2 v3 v4 v5 v6 v7:Value}{T:TypeId}(h:W.heap[b]? = some (.cells #[v0,v1,v2,v3,v4,v5,v6,v7] T)):W.cell? ⟨b,0,none⟩=some v0∧W.cell? ⟨b,1,none⟩=some v1∧W.cell? ⟨b,2,none⟩=some v2∧W.cell? ⟨b,3,none⟩=some v3∧W.cell? ⟨b,4,none⟩=some v4∧W.cell? ⟨b,5,none⟩=some v5∧W.cell? ⟨b,6,none⟩=some v6∧W.cell? ⟨b,7,none⟩=some v7:=
 ⟨by rw[cell_of_row _ _ 0 _ _ _ h];rfl,by rw[cell_of_row _ _ 1 _ _ _ h];rfl,by rw[cell_of_row _ _ 2 _ _ _ h];rfl,by rw[cell_of_row _ _ 3 _ _ _ h];rfl,by rw[cell_of_row _ _ 4 _ _ _ h];rfl,by rw[cell_of_row _ _ 5 _ _ _ h];rfl,by rw[cell_of_row _ _ 6 _ _ _ h];rfl,by rw[cell_of_row _ _ 7 _ _ _ h];rfl⟩
def opsAdd5:Array Oper:=#[{ dst:=some 29,op:=Op.move (Operand.tmp 0),type:=137,pos:= "execution.go:81",after:=#[],guard:=none },{ dst:=some 30,op:=Op.move (Operand.tmp 0),type:=137,pos:= "execution.go:81",after:=#[],guard:=none },{ dst:=some 31,op:=Op.nilCheck (Operand.tmp 30),type:=0,pos:= "execution.go:81",after:=#[{ on:=1,ground:=Ground.data }],guard:=none },{ dst:=some 32,op:=Op.fieldAddr 140 (Operand.tmp 31) 1,type:=0,pos:= "execution.go:81",after:=#[{ on:=2,ground:=Ground.data }],guard:=none },{ dst:=some 33,op:=Op.load 30 (Operand.tmp 32),type:=30,pos:= "execution.go:81",after:=#[{ on:=3,ground:=Ground.data }],guard:=none },{ dst:=some 34,op:=Op.load 114 (Operand.tmp 3),type:=114,pos:= "execution.go:81",after:=#[],guard:=none },{ dst:=some 35,op:=Op.buildSlice 30 1 #[(0,Operand.tmp 34)],type:=30,pos:= "execution.go:81",after:=#[{ on:=5,ground:=Ground.data }],guard:=none },{ dst:=some 36,op:=Op.call { callee:=Callee.builtin Builtin.append,args:=#[Operand.tmp 33,Operand.tmp 35],argTypes:=#[30,30] },type:=30,pos:= "execution.go:81",after:=#[{ on:=4,ground:=Ground.data },{ on:=6,ground:=Ground.data }],guard:=none },{ dst:=some 37,op:=Op.nilCheck (Operand.tmp 29),type:=0,pos:= "execution.go:81",after:=#[{ on:=0,ground:=Ground.data },{ on:=0,ground:=Ground.phase },{ on:=1,ground:=Ground.phase },{ on:=2,ground:=Ground.phase },{ on:=3,ground:=Ground.phase },{ on:=4,ground:=Ground.phase },{ on:=5,ground:=Ground.phase },{ on:=6,ground:=Ground.phase },{ on:=7,ground:=Ground.phase }],guard:=none },{ dst:=some 38,op:=Op.fieldAddr 140 (Operand.tmp 37) 1,type:=0,pos:= "execution.go:81",after:=#[{ on:=8,ground:=Ground.data },{ on:=0,ground:=Ground.phase },{ on:=1,ground:=Ground.phase },{ on:=2,ground:=Ground.phase },{ on:=3,ground:=Ground.phase },{ on:=4,ground:=Ground.phase },{ on:=5,ground:=Ground.phase },{ on:=6,ground:=Ground.phase },{ on:=7,ground:=Ground.phase }],guard:=none },{ dst:=none,op:=Op.store 30 (Operand.tmp 38) (Operand.tmp 36),type:=0,pos:= "execution.go:81",after:=#[{ on:=9,ground:=Ground.data },{ on:=7,ground:=Ground.data },{ on:=7,ground:=Ground.chain },{ on:=0,ground:=Ground.phase },{ on:=1,ground:=Ground.phase },{ on:=2,ground:=Ground.phase },{ on:=3,ground:=Ground.phase },{ on:=4,ground:=Ground.phase },{ on:=5,ground:=Ground.phase },{ on:=6,ground:=Ground.phase },{ on:=7,ground:=Ground.phase }],guard:=none }]
theorem regAdd5 {w:World}{x1 x2 x4 x5 x6 x7 x8 x9 x10 x11 x12 x13 x14 x15 x16 x17 x18 x19 x20 x21 x22 x23 x24 x25 x26 x27 x28 x29 x30 x31 x32 x33 x34 x35 x36 x37 x38 x39:Value}{Q:Exit→Act→World→Prop}{bb bv B n:Nat}{q0 q2 v:Value}{a0 a1 a2 a3 a4 a5 a6 a7:Int}{xs:List (List Int)}
  (k0:w.heap[bb]? = some (.cells #[q0,v,q2] 140)) (kv:w.heap[bv]? = some (.cells #[.int .i64 a0,.int .i64 a1,.int .i64 a2,.int .i64 a3,.int .i64 a4,.int .i64 a5,.int .i64 a6,.int .i64 a7] 114))
  (ho:OwX 114 8 EI w B v n xs) (hn:n≤1000000) (hB:B≤w.heap.size)
  (h:∀(W5:World) (g:Nat) (v5:Value) (_hO:OwX 114 8 EI W5 B v5 (n+1) (xs ++ [[a0,a1,a2,a3,a4,a5,a6,a7]])) (_hbB:Below B w W5) (_hx:KeepX 114 w W5) (_him:∀k,k < w.heap.size→v.ownBlock ≠ some k→W5.heap[k]? = w.heap[k]?) (W:World) (_hW:W=W5.setCell ⟨bb,1,none⟩ v5),Q .normal ⟨#[.pointer (some ⟨bb,0,none⟩),x1,x2,.pointer (some ⟨bv,0,none⟩),x4,x5,x6,x7,x8,x9,x10,x11,x12,x13,x14,x15,x16,x17,x18,x19,x20,x21,x22,x23,x24,x25,x26,x27,x28,.pointer (some ⟨bb,0,none⟩),.pointer (some ⟨bb,0,none⟩),.pointer (some ⟨bb,0,none⟩),.pointer (some ⟨bb,1,none⟩),v,.agg #[.int .i64 a0,.int .i64 a1,.int .i64 a2,.int .i64 a3,.int .i64 a4,.int .i64 a5,.int .i64 a6,.int .i64 a7],.slice (some ⟨g,0,none⟩) 1 1,v5,.pointer (some ⟨bb,0,none⟩),.pointer (some ⟨bb,1,none⟩),x39],[]⟩ W) :
  (Code.region 5 opsAdd5 true).wp Tryz.prog Q ⟨#[.pointer (some ⟨bb,0,none⟩),x1,x2,.pointer (some ⟨bv,0,none⟩),x4,x5,x6,x7,x8,x9,x10,x11,x12,x13,x14,x15,x16,x17,x18,x19,x20,x21,x22,x23,x24,x25,x26,x27,x28,x29,x30,x31,x32,x33,x34,x35,x36,x37,x38,x39],[]⟩ w:=by
 have hc8:∀u∈([.int .i64 a0,.int .i64 a1,.int .i64 a2,.int .i64 a3,.int .i64 a4,.int .i64 a5,.int .i64 a6,.int .i64 a7]:List Value),u.oneCell'=true:=fun u hu=>by
  simp only[List.mem_cons,List.not_mem_nil,or_false] at hu;rcases hu with rfl|rfl|rfl|rfl|rfl|rfl|rfl|rfl<;>rfl
 have ho0:opsAdd5[0]? = some { dst:=some 29,op:=Op.move (Operand.tmp 0),type:=137,pos:= "execution.go:81",after:=#[],guard:=none }:=rfl;have ho1:opsAdd5[1]? = some { dst:=some 30,op:=Op.move (Operand.tmp 0),type:=137,pos:= "execution.go:81",after:=#[],guard:=none }:=rfl;have ho2:opsAdd5[2]? = some { dst:=some 31,op:=Op.nilCheck (Operand.tmp 30),type:=0,pos:= "execution.go:81",after:=#[{ on:=1,ground:=Ground.data }],guard:=none }:=rfl;have ho3:opsAdd5[3]? = some { dst:=some 32,op:=Op.fieldAddr 140 (Operand.tmp 31) 1,type:=0,pos:= "execution.go:81",after:=#[{ on:=2,ground:=Ground.data }],guard:=none }:=rfl;have ho4:opsAdd5[4]? = some { dst:=some 33,op:=Op.load 30 (Operand.tmp 32),type:=30,pos:= "execution.go:81",after:=#[{ on:=3,ground:=Ground.data }],guard:=none }:=rfl;have ho5:opsAdd5[5]? = some { dst:=some 34,op:=Op.load 114 (Operand.tmp 3),type:=114,pos:= "execution.go:81",after:=#[],guard:=none }:=rfl;have ho6:opsAdd5[6]? = some { dst:=some 35,op:=Op.buildSlice 30 1 #[(0,Operand.tmp 34)],type:=30,pos:= "execution.go:81",after:=#[{ on:=5,ground:=Ground.data }],guard:=none }:=rfl;have ho7:opsAdd5[7]? = some { dst:=some 36,op:=Op.call { callee:=Callee.builtin Builtin.append,args:=#[Operand.tmp 33,Operand.tmp 35],argTypes:=#[30,30] },type:=30,pos:= "execution.go:81",after:=#[{ on:=4,ground:=Ground.data },{ on:=6,ground:=Ground.data }],guard:=none }:=rfl;have ho8:opsAdd5[8]? = some { dst:=some 37,op:=Op.nilCheck (Operand.tmp 29),type:=0,pos:= "execution.go:81",after:=#[{ on:=0,ground:=Ground.data },{ on:=0,ground:=Ground.phase },{ on:=1,ground:=Ground.phase },{ on:=2,ground:=Ground.phase },{ on:=3,ground:=Ground.phase },{ on:=4,ground:=Ground.phase },{ on:=5,ground:=Ground.phase },{ on:=6,ground:=Ground.phase },{ on:=7,ground:=Ground.phase }],guard:=none }:=rfl;have ho9:opsAdd5[9]? = some { dst:=some 38,op:=Op.fieldAddr 140 (Operand.tmp 37) 1,type:=0,pos:= "execution.go:81",after:=#[{ on:=8,ground:=Ground.data },{ on:=0,ground:=Ground.phase },{ on:=1,ground:=Ground.phase },{ on:=2,ground:=Ground.phase },{ on:=3,ground:=Ground.phase },{ on:=4,ground:=Ground.phase },{ on:=5,ground:=Ground.phase },{ on:=6,ground:=Ground.phase },{ on:=7,ground:=Ground.phase }],guard:=none }:=rfl;have ho10:opsAdd5[10]? = some { dst:=none,op:=Op.store 30 (Operand.tmp 38) (Operand.tmp 36),type:=0,pos:= "execution.go:81",after:=#[{ on:=9,ground:=Ground.data },{ on:=7,ground:=Ground.data },{ on:=7,ground:=Ground.chain },{ on:=0,ground:=Ground.phase },{ on:=1,ground:=Ground.phase },{ on:=2,ground:=Ground.phase },{ on:=3,ground:=Ground.phase },{ on:=4,ground:=Ground.phase },{ on:=5,ground:=Ground.phase },{ on:=6,ground:=Ground.phase },{ on:=7,ground:=Ground.phase }],guard:=none }:=rfl;refine wp_region_any (by kernel_rfl) ?_
 have st0_1_2_3_4_5_6_7_8_9_10_:∀(W5:World) (g:Nat) (v5:Value) (hO:OwX 114 8 EI W5 B v5 (n+1) (xs ++ [[a0,a1,a2,a3,a4,a5,a6,a7]])) (hbB:Below B w W5) (hx:KeepX 114 w W5) (him:∀k,k < w.heap.size→v.ownBlock ≠ some k→W5.heap[k]? = w.heap[k]?) (W:World) (hW:W=W5.setCell ⟨bb,1,none⟩ v5),wpAny Tryz.prog .any opsAdd5 Q 0 #[true,true,true,true,true,true,true,true,true,true,true] ⟨#[.pointer (some ⟨bb,0,none⟩),x1,x2,.pointer (some ⟨bv,0,none⟩),x4,x5,x6,x7,x8,x9,x10,x11,x12,x13,x14,x15,x16,x17,x18,x19,x20,x21,x22,x23,x24,x25,x26,x27,x28,.pointer (some ⟨bb,0,none⟩),.pointer (some ⟨bb,0,none⟩),.pointer (some ⟨bb,0,none⟩),.pointer (some ⟨bb,1,none⟩),v,.agg #[.int .i64 a0,.int .i64 a1,.int .i64 a2,.int .i64 a3,.int .i64 a4,.int .i64 a5,.int .i64 a6,.int .i64 a7],.slice (some ⟨g,0,none⟩) 1 1,v5,.pointer (some ⟨bb,0,none⟩),.pointer (some ⟨bb,1,none⟩),x39],[]⟩ W:=by
  intro W5 g v5 hO hbB hx him W hW;exact⟨by kernel_rfl,h W5 g v5 hO hbB hx him _ hW⟩
 have st0_1_2_3_4_5_6_7_8_9_:∀(W:World) (g:Nat) (v5:Value) (hO:OwX 114 8 EI W B v5 (n+1) (xs ++ [[a0,a1,a2,a3,a4,a5,a6,a7]])) (hbB:Below B w W) (hx:KeepX 114 w W) (him:∀k,k < w.heap.size→v.ownBlock ≠ some k→W.heap[k]? = w.heap[k]?),wpAny Tryz.prog .any opsAdd5 Q 1 #[true,true,true,true,true,true,true,true,true,true,false] ⟨#[.pointer (some ⟨bb,0,none⟩),x1,x2,.pointer (some ⟨bv,0,none⟩),x4,x5,x6,x7,x8,x9,x10,x11,x12,x13,x14,x15,x16,x17,x18,x19,x20,x21,x22,x23,x24,x25,x26,x27,x28,.pointer (some ⟨bb,0,none⟩),.pointer (some ⟨bb,0,none⟩),.pointer (some ⟨bb,0,none⟩),.pointer (some ⟨bb,1,none⟩),v,.agg #[.int .i64 a0,.int .i64 a1,.int .i64 a2,.int .i64 a3,.int .i64 a4,.int .i64 a5,.int .i64 a6,.int .i64 a7],.slice (some ⟨g,0,none⟩) 1 1,v5,.pointer (some ⟨bb,0,none⟩),.pointer (some ⟨bb,1,none⟩),x39],[]⟩ W:=by
  intro W g v5 hO hbB hx him;refine wpAny_ready (rs:=[10]) (by kernel_rfl) (by simp) ?_;refine AllReady.cons ho10 (fun K hK=>?_) AllReady.nil
  ·obtain⟨aa,cc,rfl⟩:=hO.shape;have kb:=(hx bb _ _ k0 (by decide)).trans k0;obtain⟨y0,y1,y2⟩:=box3' kb;have yf:=row_free kb;go_simp;refine hK _ _ ?_;exact st0_1_2_3_4_5_6_7_8_9_10_ W g _ hO hbB hx him _ rfl
 have st0_1_2_3_4_5_6_7_8_:∀(W:World) (g:Nat) (v5:Value) (hO:OwX 114 8 EI W B v5 (n+1) (xs ++ [[a0,a1,a2,a3,a4,a5,a6,a7]])) (hbB:Below B w W) (hx:KeepX 114 w W) (him:∀k,k < w.heap.size→v.ownBlock ≠ some k→W.heap[k]? = w.heap[k]?),wpAny Tryz.prog .any opsAdd5 Q 2 #[true,true,true,true,true,true,true,true,true,false,false] ⟨#[.pointer (some ⟨bb,0,none⟩),x1,x2,.pointer (some ⟨bv,0,none⟩),x4,x5,x6,x7,x8,x9,x10,x11,x12,x13,x14,x15,x16,x17,x18,x19,x20,x21,x22,x23,x24,x25,x26,x27,x28,.pointer (some ⟨bb,0,none⟩),.pointer (some ⟨bb,0,none⟩),.pointer (some ⟨bb,0,none⟩),.pointer (some ⟨bb,1,none⟩),v,.agg #[.int .i64 a0,.int .i64 a1,.int .i64 a2,.int .i64 a3,.int .i64 a4,.int .i64 a5,.int .i64 a6,.int .i64 a7],.slice (some ⟨g,0,none⟩) 1 1,v5,.pointer (some ⟨bb,0,none⟩),x38,x39],[]⟩ W:=by
  intro W g v5 hO hbB hx him;refine wpAny_ready (rs:=[9]) (by kernel_rfl) (by simp) ?_;refine AllReady.cons ho9 (fun K hK=>?_) AllReady.nil
  ·go_simp;refine hK _ _ ?_;exact st0_1_2_3_4_5_6_7_8_9_ W g v5 hO hbB hx him
 have st0_1_2_3_4_5_6_7_:∀(W:World) (g:Nat) (v5:Value) (hO:OwX 114 8 EI W B v5 (n+1) (xs ++ [[a0,a1,a2,a3,a4,a5,a6,a7]])) (hbB:Below B w W) (hx:KeepX 114 w W) (him:∀k,k < w.heap.size→v.ownBlock ≠ some k→W.heap[k]? = w.heap[k]?),wpAny Tryz.prog .any opsAdd5 Q 3 #[true,true,true,true,true,true,true,true,false,false,false] ⟨#[.pointer (some ⟨bb,0,none⟩),x1,x2,.pointer (some ⟨bv,0,none⟩),x4,x5,x6,x7,x8,x9,x10,x11,x12,x13,x14,x15,x16,x17,x18,x19,x20,x21,x22,x23,x24,x25,x26,x27,x28,.pointer (some ⟨bb,0,none⟩),.pointer (some ⟨bb,0,none⟩),.pointer (some ⟨bb,0,none⟩),.pointer (some ⟨bb,1,none⟩),v,.agg #[.int .i64 a0,.int .i64 a1,.int .i64 a2,.int .i64 a3,.int .i64 a4,.int .i64 a5,.int .i64 a6,.int .i64 a7],.slice (some ⟨g,0,none⟩) 1 1,v5,x37,x38,x39],[]⟩ W:=by
  intro W g v5 hO hbB hx him;refine wpAny_ready (rs:=[8]) (by kernel_rfl) (by simp) ?_;refine AllReady.cons ho8 (fun K hK=>?_) AllReady.nil
  ·go_simp;refine hK _ _ ?_;exact st0_1_2_3_4_5_6_7_8_ W g v5 hO hbB hx him
 have st0_1_2_3_4_5_6_:∀(W:World) (hb:Below w.heap.size w W) (g:Nat) (hg:W.heap[g]? = some (.cells #[.int .i64 a0,.int .i64 a1,.int .i64 a2,.int .i64 a3,.int .i64 a4,.int .i64 a5,.int .i64 a6,.int .i64 a7] 114)),wpAny Tryz.prog .any opsAdd5 Q 4 #[true,true,true,true,true,true,true,false,false,false,false] ⟨#[.pointer (some ⟨bb,0,none⟩),x1,x2,.pointer (some ⟨bv,0,none⟩),x4,x5,x6,x7,x8,x9,x10,x11,x12,x13,x14,x15,x16,x17,x18,x19,x20,x21,x22,x23,x24,x25,x26,x27,x28,.pointer (some ⟨bb,0,none⟩),.pointer (some ⟨bb,0,none⟩),.pointer (some ⟨bb,0,none⟩),.pointer (some ⟨bb,1,none⟩),v,.agg #[.int .i64 a0,.int .i64 a1,.int .i64 a2,.int .i64 a3,.int .i64 a4,.int .i64 a5,.int .i64 a6,.int .i64 a7],.slice (some ⟨g,0,none⟩) 1 1,x36,x37,x38,x39],[]⟩ W:=by
  intro W hb g hg;refine wpAny_ready (rs:=[7]) (by kernel_rfl) (by simp) ?_;refine AllReady.cons ho7 (fun K hK=>?_) AllReady.nil
  ·refine step_appX (B:=B) (cs:=[.int .i64 a0,.int .i64 a1,.int .i64 a2,.int .i64 a3,.int .i64 a4,.int .i64 a5,.int .i64 a6,.int .i64 a7]) (x:=[a0,a1,a2,a3,a4,a5,a6,a7]) elemVw (by decide) (by decide) (EI.stab _) (by rfl) _ _ (by rfl) (by rfl) (ho.keep (EI.stab _) hb) ⟨g,0,none⟩ 1 (by rfl) rfl (World.news_of_block hg) hc8 rfl (by omega) (Nat.le_trans hB hb.size) ?_;intro v9 w9 hO9 hg9 hn9 hb9 hx9;go_simp;refine hK _ _ ?_;exact st0_1_2_3_4_5_6_7_ w9 g v9 hO9 ((hb.mono hB).trans hb9) ((KeepX.below hb).trans hx9) (fun k hk hn=>(hg9.block k (Nat.lt_of_lt_of_le hk hb.size) (fun e=>hn e.symm)).trans (hb.block k hk))
 have st1_2_3_4_5_6_7_:∀(W:World) (g:Nat) (v5:Value) (hO:OwX 114 8 EI W B v5 (n+1) (xs ++ [[a0,a1,a2,a3,a4,a5,a6,a7]])) (hbB:Below B w W) (hx:KeepX 114 w W) (him:∀k,k < w.heap.size→v.ownBlock ≠ some k→W.heap[k]? = w.heap[k]?),wpAny Tryz.prog .any opsAdd5 Q 4 #[false,true,true,true,true,true,true,true,false,false,false] ⟨#[.pointer (some ⟨bb,0,none⟩),x1,x2,.pointer (some ⟨bv,0,none⟩),x4,x5,x6,x7,x8,x9,x10,x11,x12,x13,x14,x15,x16,x17,x18,x19,x20,x21,x22,x23,x24,x25,x26,x27,x28,x29,.pointer (some ⟨bb,0,none⟩),.pointer (some ⟨bb,0,none⟩),.pointer (some ⟨bb,1,none⟩),v,.agg #[.int .i64 a0,.int .i64 a1,.int .i64 a2,.int .i64 a3,.int .i64 a4,.int .i64 a5,.int .i64 a6,.int .i64 a7],.slice (some ⟨g,0,none⟩) 1 1,v5,x37,x38,x39],[]⟩ W:=by
  intro W g v5 hO hbB hx him;refine wpAny_ready (rs:=[0]) (by kernel_rfl) (by simp) ?_;refine AllReady.cons ho0 (fun K hK=>?_) AllReady.nil
  ·go_simp;refine hK _ _ ?_;exact st0_1_2_3_4_5_6_7_ W g v5 hO hbB hx him
 have st0_1_2_3_4_5_:∀(W:World) (hb:Below w.heap.size w W),wpAny Tryz.prog .any opsAdd5 Q 5 #[true,true,true,true,true,true,false,false,false,false,false] ⟨#[.pointer (some ⟨bb,0,none⟩),x1,x2,.pointer (some ⟨bv,0,none⟩),x4,x5,x6,x7,x8,x9,x10,x11,x12,x13,x14,x15,x16,x17,x18,x19,x20,x21,x22,x23,x24,x25,x26,x27,x28,.pointer (some ⟨bb,0,none⟩),.pointer (some ⟨bb,0,none⟩),.pointer (some ⟨bb,0,none⟩),.pointer (some ⟨bb,1,none⟩),v,.agg #[.int .i64 a0,.int .i64 a1,.int .i64 a2,.int .i64 a3,.int .i64 a4,.int .i64 a5,.int .i64 a6,.int .i64 a7],x35,x36,x37,x38,x39],[]⟩ W:=by
  intro W hb;refine wpAny_ready (rs:=[6]) (by kernel_rfl) (by simp) ?_;refine AllReady.cons ho6 (fun K hK=>?_) AllReady.nil
  ·go_simp;refine hK _ _ ?_;exact st0_1_2_3_4_5_6_ (W.alloc (.cells #[.int .i64 a0,.int .i64 a1,.int .i64 a2,.int .i64 a3,.int .i64 a4,.int .i64 a5,.int .i64 a6,.int .i64 a7] 114)) (hb.alloc (Nat.le_of_lt_succ (Nat.lt_succ_of_le hb.size)) _) W.heap.size (heap_alloc_new W _)
 have st0_1_2_3_5_6_:∀(W:World) (hb:Below w.heap.size w W) (g:Nat) (hg:W.heap[g]? = some (.cells #[.int .i64 a0,.int .i64 a1,.int .i64 a2,.int .i64 a3,.int .i64 a4,.int .i64 a5,.int .i64 a6,.int .i64 a7] 114)),wpAny Tryz.prog .any opsAdd5 Q 5 #[true,true,true,true,false,true,true,false,false,false,false] ⟨#[.pointer (some ⟨bb,0,none⟩),x1,x2,.pointer (some ⟨bv,0,none⟩),x4,x5,x6,x7,x8,x9,x10,x11,x12,x13,x14,x15,x16,x17,x18,x19,x20,x21,x22,x23,x24,x25,x26,x27,x28,.pointer (some ⟨bb,0,none⟩),.pointer (some ⟨bb,0,none⟩),.pointer (some ⟨bb,0,none⟩),.pointer (some ⟨bb,1,none⟩),x33,.agg #[.int .i64 a0,.int .i64 a1,.int .i64 a2,.int .i64 a3,.int .i64 a4,.int .i64 a5,.int .i64 a6,.int .i64 a7],.slice (some ⟨g,0,none⟩) 1 1,x36,x37,x38,x39],[]⟩ W:=by
  intro W hb g hg;refine wpAny_ready (rs:=[4]) (by kernel_rfl) (by simp) ?_;refine AllReady.cons ho4 (fun K hK=>?_) AllReady.nil
  ·obtain⟨y0,y1,y2⟩:=box3' (keptO hb k0);go_simp;refine hK _ _ ?_;exact st0_1_2_3_4_5_6_ W hb g hg
 have st1_2_3_4_5_6_:∀(W:World) (hb:Below w.heap.size w W) (g:Nat) (hg:W.heap[g]? = some (.cells #[.int .i64 a0,.int .i64 a1,.int .i64 a2,.int .i64 a3,.int .i64 a4,.int .i64 a5,.int .i64 a6,.int .i64 a7] 114)),wpAny Tryz.prog .any opsAdd5 Q 5 #[false,true,true,true,true,true,true,false,false,false,false] ⟨#[.pointer (some ⟨bb,0,none⟩),x1,x2,.pointer (some ⟨bv,0,none⟩),x4,x5,x6,x7,x8,x9,x10,x11,x12,x13,x14,x15,x16,x17,x18,x19,x20,x21,x22,x23,x24,x25,x26,x27,x28,x29,.pointer (some ⟨bb,0,none⟩),.pointer (some ⟨bb,0,none⟩),.pointer (some ⟨bb,1,none⟩),v,.agg #[.int .i64 a0,.int .i64 a1,.int .i64 a2,.int .i64 a3,.int .i64 a4,.int .i64 a5,.int .i64 a6,.int .i64 a7],.slice (some ⟨g,0,none⟩) 1 1,x36,x37,x38,x39],[]⟩ W:=by
  intro W hb g hg;refine wpAny_ready (rs:=[0,7]) (by kernel_rfl) (by simp) ?_;refine AllReady.cons ho0 (fun K hK=>?_) (AllReady.cons ho7 (fun K hK=>?_) AllReady.nil)
  ·go_simp;refine hK _ _ ?_;exact st0_1_2_3_4_5_6_ W hb g hg
  ·refine step_appX (B:=B) (cs:=[.int .i64 a0,.int .i64 a1,.int .i64 a2,.int .i64 a3,.int .i64 a4,.int .i64 a5,.int .i64 a6,.int .i64 a7]) (x:=[a0,a1,a2,a3,a4,a5,a6,a7]) elemVw (by decide) (by decide) (EI.stab _) (by rfl) _ _ (by rfl) (by rfl) (ho.keep (EI.stab _) hb) ⟨g,0,none⟩ 1 (by rfl) rfl (World.news_of_block hg) hc8 rfl (by omega) (Nat.le_trans hB hb.size) ?_;intro v9 w9 hO9 hg9 hn9 hb9 hx9;go_simp;refine hK _ _ ?_;exact st1_2_3_4_5_6_7_ w9 g v9 hO9 ((hb.mono hB).trans hb9) ((KeepX.below hb).trans hx9) (fun k hk hn=>(hg9.block k (Nat.lt_of_lt_of_le hk hb.size) (fun e=>hn e.symm)).trans (hb.block k hk))
 have st0_1_2_3_4_:∀(W:World) (hb:Below w.heap.size w W),wpAny Tryz.prog .any opsAdd5 Q 6 #[true,true,true,true,true,false,false,false,false,false,false] ⟨#[.pointer (some ⟨bb,0,none⟩),x1,x2,.pointer (some ⟨bv,0,none⟩),x4,x5,x6,x7,x8,x9,x10,x11,x12,x13,x14,x15,x16,x17,x18,x19,x20,x21,x22,x23,x24,x25,x26,x27,x28,.pointer (some ⟨bb,0,none⟩),.pointer (some ⟨bb,0,none⟩),.pointer (some ⟨bb,0,none⟩),.pointer (some ⟨bb,1,none⟩),v,x34,x35,x36,x37,x38,x39],[]⟩ W:=by
  intro W hb;refine wpAny_ready (rs:=[5]) (by kernel_rfl) (by simp) ?_;refine AllReady.cons ho5 (fun K hK=>?_) AllReady.nil
  ·obtain⟨p0,p1,p2,p3,p4,p5,p6,p7⟩:=box8' (keptO hb kv);go_simp;refine hK _ _ ?_;exact st0_1_2_3_4_5_ W hb
 have st0_1_2_3_5_:∀(W:World) (hb:Below w.heap.size w W),wpAny Tryz.prog .any opsAdd5 Q 6 #[true,true,true,true,false,true,false,false,false,false,false] ⟨#[.pointer (some ⟨bb,0,none⟩),x1,x2,.pointer (some ⟨bv,0,none⟩),x4,x5,x6,x7,x8,x9,x10,x11,x12,x13,x14,x15,x16,x17,x18,x19,x20,x21,x22,x23,x24,x25,x26,x27,x28,.pointer (some ⟨bb,0,none⟩),.pointer (some ⟨bb,0,none⟩),.pointer (some ⟨bb,0,none⟩),.pointer (some ⟨bb,1,none⟩),x33,.agg #[.int .i64 a0,.int .i64 a1,.int .i64 a2,.int .i64 a3,.int .i64 a4,.int .i64 a5,.int .i64 a6,.int .i64 a7],x35,x36,x37,x38,x39],[]⟩ W:=by
  intro W hb;refine wpAny_ready (rs:=[4,6]) (by kernel_rfl) (by simp) ?_;refine AllReady.cons ho4 (fun K hK=>?_) (AllReady.cons ho6 (fun K hK=>?_) AllReady.nil)
  ·obtain⟨y0,y1,y2⟩:=box3' (keptO hb k0);go_simp;refine hK _ _ ?_;exact st0_1_2_3_4_5_ W hb
  ·go_simp;refine hK _ _ ?_;exact st0_1_2_3_5_6_ (W.alloc (.cells #[.int .i64 a0,.int .i64 a1,.int .i64 a2,.int .i64 a3,.int .i64 a4,.int .i64 a5,.int .i64 a6,.int .i64 a7] 114)) (hb.alloc (Nat.le_of_lt_succ (Nat.lt_succ_of_le hb.size)) _) W.heap.size (heap_alloc_new W _)
 have st0_1_2_5_6_:∀(W:World) (hb:Below w.heap.size w W) (g:Nat) (hg:W.heap[g]? = some (.cells #[.int .i64 a0,.int .i64 a1,.int .i64 a2,.int .i64 a3,.int .i64 a4,.int .i64 a5,.int .i64 a6,.int .i64 a7] 114)),wpAny Tryz.prog .any opsAdd5 Q 6 #[true,true,true,false,false,true,true,false,false,false,false] ⟨#[.pointer (some ⟨bb,0,none⟩),x1,x2,.pointer (some ⟨bv,0,none⟩),x4,x5,x6,x7,x8,x9,x10,x11,x12,x13,x14,x15,x16,x17,x18,x19,x20,x21,x22,x23,x24,x25,x26,x27,x28,.pointer (some ⟨bb,0,none⟩),.pointer (some ⟨bb,0,none⟩),.pointer (some ⟨bb,0,none⟩),x32,x33,.agg #[.int .i64 a0,.int .i64 a1,.int .i64 a2,.int .i64 a3,.int .i64 a4,.int .i64 a5,.int .i64 a6,.int .i64 a7],.slice (some ⟨g,0,none⟩) 1 1,x36,x37,x38,x39],[]⟩ W:=by
  intro W hb g hg;refine wpAny_ready (rs:=[3]) (by kernel_rfl) (by simp) ?_;refine AllReady.cons ho3 (fun K hK=>?_) AllReady.nil
  ·go_simp;refine hK _ _ ?_;exact st0_1_2_3_5_6_ W hb g hg
 have st1_2_3_4_5_:∀(W:World) (hb:Below w.heap.size w W),wpAny Tryz.prog .any opsAdd5 Q 6 #[false,true,true,true,true,true,false,false,false,false,false] ⟨#[.pointer (some ⟨bb,0,none⟩),x1,x2,.pointer (some ⟨bv,0,none⟩),x4,x5,x6,x7,x8,x9,x10,x11,x12,x13,x14,x15,x16,x17,x18,x19,x20,x21,x22,x23,x24,x25,x26,x27,x28,x29,.pointer (some ⟨bb,0,none⟩),.pointer (some ⟨bb,0,none⟩),.pointer (some ⟨bb,1,none⟩),v,.agg #[.int .i64 a0,.int .i64 a1,.int .i64 a2,.int .i64 a3,.int .i64 a4,.int .i64 a5,.int .i64 a6,.int .i64 a7],x35,x36,x37,x38,x39],[]⟩ W:=by
  intro W hb;refine wpAny_ready (rs:=[0,6]) (by kernel_rfl) (by simp) ?_;refine AllReady.cons ho0 (fun K hK=>?_) (AllReady.cons ho6 (fun K hK=>?_) AllReady.nil)
  ·go_simp;refine hK _ _ ?_;exact st0_1_2_3_4_5_ W hb
  ·go_simp;refine hK _ _ ?_;exact st1_2_3_4_5_6_ (W.alloc (.cells #[.int .i64 a0,.int .i64 a1,.int .i64 a2,.int .i64 a3,.int .i64 a4,.int .i64 a5,.int .i64 a6,.int .i64 a7] 114)) (hb.alloc (Nat.le_of_lt_succ (Nat.lt_succ_of_le hb.size)) _) W.heap.size (heap_alloc_new W _)
 have st1_2_3_5_6_:∀(W:World) (hb:Below w.heap.size w W) (g:Nat) (hg:W.heap[g]? = some (.cells #[.int .i64 a0,.int .i64 a1,.int .i64 a2,.int .i64 a3,.int .i64 a4,.int .i64 a5,.int .i64 a6,.int .i64 a7] 114)),wpAny Tryz.prog .any opsAdd5 Q 6 #[false,true,true,true,false,true,true,false,false,false,false] ⟨#[.pointer (some ⟨bb,0,none⟩),x1,x2,.pointer (some ⟨bv,0,none⟩),x4,x5,x6,x7,x8,x9,x10,x11,x12,x13,x14,x15,x16,x17,x18,x19,x20,x21,x22,x23,x24,x25,x26,x27,x28,x29,.pointer (some ⟨bb,0,none⟩),.pointer (some ⟨bb,0,none⟩),.pointer (some ⟨bb,1,none⟩),x33,.agg #[.int .i64 a0,.int .i64 a1,.int .i64 a2,.int .i64 a3,.int .i64 a4,.int .i64 a5,.int .i64 a6,.int .i64 a7],.slice (some ⟨g,0,none⟩) 1 1,x36,x37,x38,x39],[]⟩ W:=by
  intro W hb g hg;refine wpAny_ready (rs:=[0,4]) (by kernel_rfl) (by simp) ?_;refine AllReady.cons ho0 (fun K hK=>?_) (AllReady.cons ho4 (fun K hK=>?_) AllReady.nil)
  ·go_simp;refine hK _ _ ?_;exact st0_1_2_3_5_6_ W hb g hg
  ·obtain⟨y0,y1,y2⟩:=box3' (keptO hb k0);go_simp;refine hK _ _ ?_;exact st1_2_3_4_5_6_ W hb g hg
 have st0_1_2_3_:∀(W:World) (hb:Below w.heap.size w W),wpAny Tryz.prog .any opsAdd5 Q 7 #[true,true,true,true,false,false,false,false,false,false,false] ⟨#[.pointer (some ⟨bb,0,none⟩),x1,x2,.pointer (some ⟨bv,0,none⟩),x4,x5,x6,x7,x8,x9,x10,x11,x12,x13,x14,x15,x16,x17,x18,x19,x20,x21,x22,x23,x24,x25,x26,x27,x28,.pointer (some ⟨bb,0,none⟩),.pointer (some ⟨bb,0,none⟩),.pointer (some ⟨bb,0,none⟩),.pointer (some ⟨bb,1,none⟩),x33,x34,x35,x36,x37,x38,x39],[]⟩ W:=by
  intro W hb;refine wpAny_ready (rs:=[4,5]) (by kernel_rfl) (by simp) ?_;refine AllReady.cons ho4 (fun K hK=>?_) (AllReady.cons ho5 (fun K hK=>?_) AllReady.nil)
  ·obtain⟨y0,y1,y2⟩:=box3' (keptO hb k0);go_simp;refine hK _ _ ?_;exact st0_1_2_3_4_ W hb
  ·obtain⟨p0,p1,p2,p3,p4,p5,p6,p7⟩:=box8' (keptO hb kv);go_simp;refine hK _ _ ?_;exact st0_1_2_3_5_ W hb
 have st0_1_2_5_:∀(W:World) (hb:Below w.heap.size w W),wpAny Tryz.prog .any opsAdd5 Q 7 #[true,true,true,false,false,true,false,false,false,false,false] ⟨#[.pointer (some ⟨bb,0,none⟩),x1,x2,.pointer (some ⟨bv,0,none⟩),x4,x5,x6,x7,x8,x9,x10,x11,x12,x13,x14,x15,x16,x17,x18,x19,x20,x21,x22,x23,x24,x25,x26,x27,x28,.pointer (some ⟨bb,0,none⟩),.pointer (some ⟨bb,0,none⟩),.pointer (some ⟨bb,0,none⟩),x32,x33,.agg #[.int .i64 a0,.int .i64 a1,.int .i64 a2,.int .i64 a3,.int .i64 a4,.int .i64 a5,.int .i64 a6,.int .i64 a7],x35,x36,x37,x38,x39],[]⟩ W:=by
  intro W hb;refine wpAny_ready (rs:=[3,6]) (by kernel_rfl) (by simp) ?_;refine AllReady.cons ho3 (fun K hK=>?_) (AllReady.cons ho6 (fun K hK=>?_) AllReady.nil)
  ·go_simp;refine hK _ _ ?_;exact st0_1_2_3_5_ W hb
  ·go_simp;refine hK _ _ ?_;exact st0_1_2_5_6_ (W.alloc (.cells #[.int .i64 a0,.int .i64 a1,.int .i64 a2,.int .i64 a3,.int .i64 a4,.int .i64 a5,.int .i64 a6,.int .i64 a7] 114)) (hb.alloc (Nat.le_of_lt_succ (Nat.lt_succ_of_le hb.size)) _) W.heap.size (heap_alloc_new W _)
 have st0_1_5_6_:∀(W:World) (hb:Below w.heap.size w W) (g:Nat) (hg:W.heap[g]? = some (.cells #[.int .i64 a0,.int .i64 a1,.int .i64 a2,.int .i64 a3,.int .i64 a4,.int .i64 a5,.int .i64 a6,.int .i64 a7] 114)),wpAny Tryz.prog .any opsAdd5 Q 7 #[true,true,false,false,false,true,true,false,false,false,false] ⟨#[.pointer (some ⟨bb,0,none⟩),x1,x2,.pointer (some ⟨bv,0,none⟩),x4,x5,x6,x7,x8,x9,x10,x11,x12,x13,x14,x15,x16,x17,x18,x19,x20,x21,x22,x23,x24,x25,x26,x27,x28,.pointer (some ⟨bb,0,none⟩),.pointer (some ⟨bb,0,none⟩),x31,x32,x33,.agg #[.int .i64 a0,.int .i64 a1,.int .i64 a2,.int .i64 a3,.int .i64 a4,.int .i64 a5,.int .i64 a6,.int .i64 a7],.slice (some ⟨g,0,none⟩) 1 1,x36,x37,x38,x39],[]⟩ W:=by
  intro W hb g hg;refine wpAny_ready (rs:=[2]) (by kernel_rfl) (by simp) ?_;refine AllReady.cons ho2 (fun K hK=>?_) AllReady.nil
  ·go_simp;refine hK _ _ ?_;exact st0_1_2_5_6_ W hb g hg
 have st1_2_3_4_:∀(W:World) (hb:Below w.heap.size w W),wpAny Tryz.prog .any opsAdd5 Q 7 #[false,true,true,true,true,false,false,false,false,false,false] ⟨#[.pointer (some ⟨bb,0,none⟩),x1,x2,.pointer (some ⟨bv,0,none⟩),x4,x5,x6,x7,x8,x9,x10,x11,x12,x13,x14,x15,x16,x17,x18,x19,x20,x21,x22,x23,x24,x25,x26,x27,x28,x29,.pointer (some ⟨bb,0,none⟩),.pointer (some ⟨bb,0,none⟩),.pointer (some ⟨bb,1,none⟩),v,x34,x35,x36,x37,x38,x39],[]⟩ W:=by
  intro W hb;refine wpAny_ready (rs:=[0,5]) (by kernel_rfl) (by simp) ?_;refine AllReady.cons ho0 (fun K hK=>?_) (AllReady.cons ho5 (fun K hK=>?_) AllReady.nil)
  ·go_simp;refine hK _ _ ?_;exact st0_1_2_3_4_ W hb
  ·obtain⟨p0,p1,p2,p3,p4,p5,p6,p7⟩:=box8' (keptO hb kv);go_simp;refine hK _ _ ?_;exact st1_2_3_4_5_ W hb
 have st1_2_3_5_:∀(W:World) (hb:Below w.heap.size w W),wpAny Tryz.prog .any opsAdd5 Q 7 #[false,true,true,true,false,true,false,false,false,false,false] ⟨#[.pointer (some ⟨bb,0,none⟩),x1,x2,.pointer (some ⟨bv,0,none⟩),x4,x5,x6,x7,x8,x9,x10,x11,x12,x13,x14,x15,x16,x17,x18,x19,x20,x21,x22,x23,x24,x25,x26,x27,x28,x29,.pointer (some ⟨bb,0,none⟩),.pointer (some ⟨bb,0,none⟩),.pointer (some ⟨bb,1,none⟩),x33,.agg #[.int .i64 a0,.int .i64 a1,.int .i64 a2,.int .i64 a3,.int .i64 a4,.int .i64 a5,.int .i64 a6,.int .i64 a7],x35,x36,x37,x38,x39],[]⟩ W:=by
  intro W hb;refine wpAny_ready (rs:=[0,4,6]) (by kernel_rfl) (by simp) ?_;refine AllReady.cons ho0 (fun K hK=>?_) (AllReady.cons ho4 (fun K hK=>?_) (AllReady.cons ho6 (fun K hK=>?_) AllReady.nil))
  ·go_simp;refine hK _ _ ?_;exact st0_1_2_3_5_ W hb
  ·obtain⟨y0,y1,y2⟩:=box3' (keptO hb k0);go_simp;refine hK _ _ ?_;exact st1_2_3_4_5_ W hb
  ·go_simp;refine hK _ _ ?_;exact st1_2_3_5_6_ (W.alloc (.cells #[.int .i64 a0,.int .i64 a1,.int .i64 a2,.int .i64 a3,.int .i64 a4,.int .i64 a5,.int .i64 a6,.int .i64 a7] 114)) (hb.alloc (Nat.le_of_lt_succ (Nat.lt_succ_of_le hb.size)) _) W.heap.size (heap_alloc_new W _)
 have st1_2_5_6_:∀(W:World) (hb:Below w.heap.size w W) (g:Nat) (hg:W.heap[g]? = some (.cells #[.int .i64 a0,.int .i64 a1,.int .i64 a2,.int .i64 a3,.int .i64 a4,.int .i64 a5,.int .i64 a6,.int .i64 a7] 114)),wpAny Tryz.prog .any opsAdd5 Q 7 #[false,true,true,false,false,true,true,false,false,false,false] ⟨#[.pointer (some ⟨bb,0,none⟩),x1,x2,.pointer (some ⟨bv,0,none⟩),x4,x5,x6,x7,x8,x9,x10,x11,x12,x13,x14,x15,x16,x17,x18,x19,x20,x21,x22,x23,x24,x25,x26,x27,x28,x29,.pointer (some ⟨bb,0,none⟩),.pointer (some ⟨bb,0,none⟩),x32,x33,.agg #[.int .i64 a0,.int .i64 a1,.int .i64 a2,.int .i64 a3,.int .i64 a4,.int .i64 a5,.int .i64 a6,.int .i64 a7],.slice (some ⟨g,0,none⟩) 1 1,x36,x37,x38,x39],[]⟩ W:=by
  intro W hb g hg;refine wpAny_ready (rs:=[0,3]) (by kernel_rfl) (by simp) ?_;refine AllReady.cons ho0 (fun K hK=>?_) (AllReady.cons ho3 (fun K hK=>?_) AllReady.nil)
  ·go_simp;refine hK _ _ ?_;exact st0_1_2_5_6_ W hb g hg
  ·go_simp;refine hK _ _ ?_;exact st1_2_3_5_6_ W hb g hg
 have st0_1_2_:∀(W:World) (hb:Below w.heap.size w W),wpAny Tryz.prog .any opsAdd5 Q 8 #[true,true,true,false,false,false,false,false,false,false,false] ⟨#[.pointer (some ⟨bb,0,none⟩),x1,x2,.pointer (some ⟨bv,0,none⟩),x4,x5,x6,x7,x8,x9,x10,x11,x12,x13,x14,x15,x16,x17,x18,x19,x20,x21,x22,x23,x24,x25,x26,x27,x28,.pointer (some ⟨bb,0,none⟩),.pointer (some ⟨bb,0,none⟩),.pointer (some ⟨bb,0,none⟩),x32,x33,x34,x35,x36,x37,x38,x39],[]⟩ W:=by
  intro W hb;refine wpAny_ready (rs:=[3,5]) (by kernel_rfl) (by simp) ?_;refine AllReady.cons ho3 (fun K hK=>?_) (AllReady.cons ho5 (fun K hK=>?_) AllReady.nil)
  ·go_simp;refine hK _ _ ?_;exact st0_1_2_3_ W hb
  ·obtain⟨p0,p1,p2,p3,p4,p5,p6,p7⟩:=box8' (keptO hb kv);go_simp;refine hK _ _ ?_;exact st0_1_2_5_ W hb
 have st0_1_5_:∀(W:World) (hb:Below w.heap.size w W),wpAny Tryz.prog .any opsAdd5 Q 8 #[true,true,false,false,false,true,false,false,false,false,false] ⟨#[.pointer (some ⟨bb,0,none⟩),x1,x2,.pointer (some ⟨bv,0,none⟩),x4,x5,x6,x7,x8,x9,x10,x11,x12,x13,x14,x15,x16,x17,x18,x19,x20,x21,x22,x23,x24,x25,x26,x27,x28,.pointer (some ⟨bb,0,none⟩),.pointer (some ⟨bb,0,none⟩),x31,x32,x33,.agg #[.int .i64 a0,.int .i64 a1,.int .i64 a2,.int .i64 a3,.int .i64 a4,.int .i64 a5,.int .i64 a6,.int .i64 a7],x35,x36,x37,x38,x39],[]⟩ W:=by
  intro W hb;refine wpAny_ready (rs:=[2,6]) (by kernel_rfl) (by simp) ?_;refine AllReady.cons ho2 (fun K hK=>?_) (AllReady.cons ho6 (fun K hK=>?_) AllReady.nil)
  ·go_simp;refine hK _ _ ?_;exact st0_1_2_5_ W hb
  ·go_simp;refine hK _ _ ?_;exact st0_1_5_6_ (W.alloc (.cells #[.int .i64 a0,.int .i64 a1,.int .i64 a2,.int .i64 a3,.int .i64 a4,.int .i64 a5,.int .i64 a6,.int .i64 a7] 114)) (hb.alloc (Nat.le_of_lt_succ (Nat.lt_succ_of_le hb.size)) _) W.heap.size (heap_alloc_new W _)
 have st0_5_6_:∀(W:World) (hb:Below w.heap.size w W) (g:Nat) (hg:W.heap[g]? = some (.cells #[.int .i64 a0,.int .i64 a1,.int .i64 a2,.int .i64 a3,.int .i64 a4,.int .i64 a5,.int .i64 a6,.int .i64 a7] 114)),wpAny Tryz.prog .any opsAdd5 Q 8 #[true,false,false,false,false,true,true,false,false,false,false] ⟨#[.pointer (some ⟨bb,0,none⟩),x1,x2,.pointer (some ⟨bv,0,none⟩),x4,x5,x6,x7,x8,x9,x10,x11,x12,x13,x14,x15,x16,x17,x18,x19,x20,x21,x22,x23,x24,x25,x26,x27,x28,.pointer (some ⟨bb,0,none⟩),x30,x31,x32,x33,.agg #[.int .i64 a0,.int .i64 a1,.int .i64 a2,.int .i64 a3,.int .i64 a4,.int .i64 a5,.int .i64 a6,.int .i64 a7],.slice (some ⟨g,0,none⟩) 1 1,x36,x37,x38,x39],[]⟩ W:=by
  intro W hb g hg;refine wpAny_ready (rs:=[1]) (by kernel_rfl) (by simp) ?_;refine AllReady.cons ho1 (fun K hK=>?_) AllReady.nil
  ·go_simp;refine hK _ _ ?_;exact st0_1_5_6_ W hb g hg
 have st1_2_3_:∀(W:World) (hb:Below w.heap.size w W),wpAny Tryz.prog .any opsAdd5 Q 8 #[false,true,true,true,false,false,false,false,false,false,false] ⟨#[.pointer (some ⟨bb,0,none⟩),x1,x2,.pointer (some ⟨bv,0,none⟩),x4,x5,x6,x7,x8,x9,x10,x11,x12,x13,x14,x15,x16,x17,x18,x19,x20,x21,x22,x23,x24,x25,x26,x27,x28,x29,.pointer (some ⟨bb,0,none⟩),.pointer (some ⟨bb,0,none⟩),.pointer (some ⟨bb,1,none⟩),x33,x34,x35,x36,x37,x38,x39],[]⟩ W:=by
  intro W hb;refine wpAny_ready (rs:=[0,4,5]) (by kernel_rfl) (by simp) ?_;refine AllReady.cons ho0 (fun K hK=>?_) (AllReady.cons ho4 (fun K hK=>?_) (AllReady.cons ho5 (fun K hK=>?_) AllReady.nil))
  ·go_simp;refine hK _ _ ?_;exact st0_1_2_3_ W hb
  ·obtain⟨y0,y1,y2⟩:=box3' (keptO hb k0);go_simp;refine hK _ _ ?_;exact st1_2_3_4_ W hb
  ·obtain⟨p0,p1,p2,p3,p4,p5,p6,p7⟩:=box8' (keptO hb kv);go_simp;refine hK _ _ ?_;exact st1_2_3_5_ W hb
 have st1_2_5_:∀(W:World) (hb:Below w.heap.size w W),wpAny Tryz.prog .any opsAdd5 Q 8 #[false,true,true,false,false,true,false,false,false,false,false] ⟨#[.pointer (some ⟨bb,0,none⟩),x1,x2,.pointer (some ⟨bv,0,none⟩),x4,x5,x6,x7,x8,x9,x10,x11,x12,x13,x14,x15,x16,x17,x18,x19,x20,x21,x22,x23,x24,x25,x26,x27,x28,x29,.pointer (some ⟨bb,0,none⟩),.pointer (some ⟨bb,0,none⟩),x32,x33,.agg #[.int .i64 a0,.int .i64 a1,.int .i64 a2,.int .i64 a3,.int .i64 a4,.int .i64 a5,.int .i64 a6,.int .i64 a7],x35,x36,x37,x38,x39],[]⟩ W:=by
  intro W hb;refine wpAny_ready (rs:=[0,3,6]) (by kernel_rfl) (by simp) ?_;refine AllReady.cons ho0 (fun K hK=>?_) (AllReady.cons ho3 (fun K hK=>?_) (AllReady.cons ho6 (fun K hK=>?_) AllReady.nil))
  ·go_simp;refine hK _ _ ?_;exact st0_1_2_5_ W hb
  ·go_simp;refine hK _ _ ?_;exact st1_2_3_5_ W hb
  ·go_simp;refine hK _ _ ?_;exact st1_2_5_6_ (W.alloc (.cells #[.int .i64 a0,.int .i64 a1,.int .i64 a2,.int .i64 a3,.int .i64 a4,.int .i64 a5,.int .i64 a6,.int .i64 a7] 114)) (hb.alloc (Nat.le_of_lt_succ (Nat.lt_succ_of_le hb.size)) _) W.heap.size (heap_alloc_new W _)
 have st1_5_6_:∀(W:World) (hb:Below w.heap.size w W) (g:Nat) (hg:W.heap[g]? = some (.cells #[.int .i64 a0,.int .i64 a1,.int .i64 a2,.int .i64 a3,.int .i64 a4,.int .i64 a5,.int .i64 a6,.int .i64 a7] 114)),wpAny Tryz.prog .any opsAdd5 Q 8 #[false,true,false,false,false,true,true,false,false,false,false] ⟨#[.pointer (some ⟨bb,0,none⟩),x1,x2,.pointer (some ⟨bv,0,none⟩),x4,x5,x6,x7,x8,x9,x10,x11,x12,x13,x14,x15,x16,x17,x18,x19,x20,x21,x22,x23,x24,x25,x26,x27,x28,x29,.pointer (some ⟨bb,0,none⟩),x31,x32,x33,.agg #[.int .i64 a0,.int .i64 a1,.int .i64 a2,.int .i64 a3,.int .i64 a4,.int .i64 a5,.int .i64 a6,.int .i64 a7],.slice (some ⟨g,0,none⟩) 1 1,x36,x37,x38,x39],[]⟩ W:=by
  intro W hb g hg;refine wpAny_ready (rs:=[0,2]) (by kernel_rfl) (by simp) ?_;refine AllReady.cons ho0 (fun K hK=>?_) (AllReady.cons ho2 (fun K hK=>?_) AllReady.nil)
  ·go_simp;refine hK _ _ ?_;exact st0_1_5_6_ W hb g hg
  ·go_simp;refine hK _ _ ?_;exact st1_2_5_6_ W hb g hg
 have st0_1_:∀(W:World) (hb:Below w.heap.size w W),wpAny Tryz.prog .any opsAdd5 Q 9 #[true,true,false,false,false,false,false,false,false,false,false] ⟨#[.pointer (some ⟨bb,0,none⟩),x1,x2,.pointer (some ⟨bv,0,none⟩),x4,x5,x6,x7,x8,x9,x10,x11,x12,x13,x14,x15,x16,x17,x18,x19,x20,x21,x22,x23,x24,x25,x26,x27,x28,.pointer (some ⟨bb,0,none⟩),.pointer (some ⟨bb,0,none⟩),x31,x32,x33,x34,x35,x36,x37,x38,x39],[]⟩ W:=by
  intro W hb;refine wpAny_ready (rs:=[2,5]) (by kernel_rfl) (by simp) ?_;refine AllReady.cons ho2 (fun K hK=>?_) (AllReady.cons ho5 (fun K hK=>?_) AllReady.nil)
  ·go_simp;refine hK _ _ ?_;exact st0_1_2_ W hb
  ·obtain⟨p0,p1,p2,p3,p4,p5,p6,p7⟩:=box8' (keptO hb kv);go_simp;refine hK _ _ ?_;exact st0_1_5_ W hb
 have st0_5_:∀(W:World) (hb:Below w.heap.size w W),wpAny Tryz.prog .any opsAdd5 Q 9 #[true,false,false,false,false,true,false,false,false,false,false] ⟨#[.pointer (some ⟨bb,0,none⟩),x1,x2,.pointer (some ⟨bv,0,none⟩),x4,x5,x6,x7,x8,x9,x10,x11,x12,x13,x14,x15,x16,x17,x18,x19,x20,x21,x22,x23,x24,x25,x26,x27,x28,.pointer (some ⟨bb,0,none⟩),x30,x31,x32,x33,.agg #[.int .i64 a0,.int .i64 a1,.int .i64 a2,.int .i64 a3,.int .i64 a4,.int .i64 a5,.int .i64 a6,.int .i64 a7],x35,x36,x37,x38,x39],[]⟩ W:=by
  intro W hb;refine wpAny_ready (rs:=[1,6]) (by kernel_rfl) (by simp) ?_;refine AllReady.cons ho1 (fun K hK=>?_) (AllReady.cons ho6 (fun K hK=>?_) AllReady.nil)
  ·go_simp;refine hK _ _ ?_;exact st0_1_5_ W hb
  ·go_simp;refine hK _ _ ?_;exact st0_5_6_ (W.alloc (.cells #[.int .i64 a0,.int .i64 a1,.int .i64 a2,.int .i64 a3,.int .i64 a4,.int .i64 a5,.int .i64 a6,.int .i64 a7] 114)) (hb.alloc (Nat.le_of_lt_succ (Nat.lt_succ_of_le hb.size)) _) W.heap.size (heap_alloc_new W _)
 have st1_2_:∀(W:World) (hb:Below w.heap.size w W),wpAny Tryz.prog .any opsAdd5 Q 9 #[false,true,true,false,false,false,false,false,false,false,false] ⟨#[.pointer (some ⟨bb,0,none⟩),x1,x2,.pointer (some ⟨bv,0,none⟩),x4,x5,x6,x7,x8,x9,x10,x11,x12,x13,x14,x15,x16,x17,x18,x19,x20,x21,x22,x23,x24,x25,x26,x27,x28,x29,.pointer (some ⟨bb,0,none⟩),.pointer (some ⟨bb,0,none⟩),x32,x33,x34,x35,x36,x37,x38,x39],[]⟩ W:=by
  intro W hb;refine wpAny_ready (rs:=[0,3,5]) (by kernel_rfl) (by simp) ?_;refine AllReady.cons ho0 (fun K hK=>?_) (AllReady.cons ho3 (fun K hK=>?_) (AllReady.cons ho5 (fun K hK=>?_) AllReady.nil))
  ·go_simp;refine hK _ _ ?_;exact st0_1_2_ W hb
  ·go_simp;refine hK _ _ ?_;exact st1_2_3_ W hb
  ·obtain⟨p0,p1,p2,p3,p4,p5,p6,p7⟩:=box8' (keptO hb kv);go_simp;refine hK _ _ ?_;exact st1_2_5_ W hb
 have st1_5_:∀(W:World) (hb:Below w.heap.size w W),wpAny Tryz.prog .any opsAdd5 Q 9 #[false,true,false,false,false,true,false,false,false,false,false] ⟨#[.pointer (some ⟨bb,0,none⟩),x1,x2,.pointer (some ⟨bv,0,none⟩),x4,x5,x6,x7,x8,x9,x10,x11,x12,x13,x14,x15,x16,x17,x18,x19,x20,x21,x22,x23,x24,x25,x26,x27,x28,x29,.pointer (some ⟨bb,0,none⟩),x31,x32,x33,.agg #[.int .i64 a0,.int .i64 a1,.int .i64 a2,.int .i64 a3,.int .i64 a4,.int .i64 a5,.int .i64 a6,.int .i64 a7],x35,x36,x37,x38,x39],[]⟩ W:=by
  intro W hb;refine wpAny_ready (rs:=[0,2,6]) (by kernel_rfl) (by simp) ?_;refine AllReady.cons ho0 (fun K hK=>?_) (AllReady.cons ho2 (fun K hK=>?_) (AllReady.cons ho6 (fun K hK=>?_) AllReady.nil))
  ·go_simp;refine hK _ _ ?_;exact st0_1_5_ W hb
  ·go_simp;refine hK _ _ ?_;exact st1_2_5_ W hb
  ·go_simp;refine hK _ _ ?_;exact st1_5_6_ (W.alloc (.cells #[.int .i64 a0,.int .i64 a1,.int .i64 a2,.int .i64 a3,.int .i64 a4,.int .i64 a5,.int .i64 a6,.int .i64 a7] 114)) (hb.alloc (Nat.le_of_lt_succ (Nat.lt_succ_of_le hb.size)) _) W.heap.size (heap_alloc_new W _)
 have st5_6_:∀(W:World) (hb:Below w.heap.size w W) (g:Nat) (hg:W.heap[g]? = some (.cells #[.int .i64 a0,.int .i64 a1,.int .i64 a2,.int .i64 a3,.int .i64 a4,.int .i64 a5,.int .i64 a6,.int .i64 a7] 114)),wpAny Tryz.prog .any opsAdd5 Q 9 #[false,false,false,false,false,true,true,false,false,false,false] ⟨#[.pointer (some ⟨bb,0,none⟩),x1,x2,.pointer (some ⟨bv,0,none⟩),x4,x5,x6,x7,x8,x9,x10,x11,x12,x13,x14,x15,x16,x17,x18,x19,x20,x21,x22,x23,x24,x25,x26,x27,x28,x29,x30,x31,x32,x33,.agg #[.int .i64 a0,.int .i64 a1,.int .i64 a2,.int .i64 a3,.int .i64 a4,.int .i64 a5,.int .i64 a6,.int .i64 a7],.slice (some ⟨g,0,none⟩) 1 1,x36,x37,x38,x39],[]⟩ W:=by
  intro W hb g hg;refine wpAny_ready (rs:=[0,1]) (by kernel_rfl) (by simp) ?_;refine AllReady.cons ho0 (fun K hK=>?_) (AllReady.cons ho1 (fun K hK=>?_) AllReady.nil)
  ·go_simp;refine hK _ _ ?_;exact st0_5_6_ W hb g hg
  ·go_simp;refine hK _ _ ?_;exact st1_5_6_ W hb g hg
 have st0_:∀(W:World) (hb:Below w.heap.size w W),wpAny Tryz.prog .any opsAdd5 Q 10 #[true,false,false,false,false,false,false,false,false,false,false] ⟨#[.pointer (some ⟨bb,0,none⟩),x1,x2,.pointer (some ⟨bv,0,none⟩),x4,x5,x6,x7,x8,x9,x10,x11,x12,x13,x14,x15,x16,x17,x18,x19,x20,x21,x22,x23,x24,x25,x26,x27,x28,.pointer (some ⟨bb,0,none⟩),x30,x31,x32,x33,x34,x35,x36,x37,x38,x39],[]⟩ W:=by
  intro W hb;refine wpAny_ready (rs:=[1,5]) (by kernel_rfl) (by simp) ?_;refine AllReady.cons ho1 (fun K hK=>?_) (AllReady.cons ho5 (fun K hK=>?_) AllReady.nil)
  ·go_simp;refine hK _ _ ?_;exact st0_1_ W hb
  ·obtain⟨p0,p1,p2,p3,p4,p5,p6,p7⟩:=box8' (keptO hb kv);go_simp;refine hK _ _ ?_;exact st0_5_ W hb
 have st1_:∀(W:World) (hb:Below w.heap.size w W),wpAny Tryz.prog .any opsAdd5 Q 10 #[false,true,false,false,false,false,false,false,false,false,false] ⟨#[.pointer (some ⟨bb,0,none⟩),x1,x2,.pointer (some ⟨bv,0,none⟩),x4,x5,x6,x7,x8,x9,x10,x11,x12,x13,x14,x15,x16,x17,x18,x19,x20,x21,x22,x23,x24,x25,x26,x27,x28,x29,.pointer (some ⟨bb,0,none⟩),x31,x32,x33,x34,x35,x36,x37,x38,x39],[]⟩ W:=by
  intro W hb;refine wpAny_ready (rs:=[0,2,5]) (by kernel_rfl) (by simp) ?_;refine AllReady.cons ho0 (fun K hK=>?_) (AllReady.cons ho2 (fun K hK=>?_) (AllReady.cons ho5 (fun K hK=>?_) AllReady.nil))
  ·go_simp;refine hK _ _ ?_;exact st0_1_ W hb
  ·go_simp;refine hK _ _ ?_;exact st1_2_ W hb
  ·obtain⟨p0,p1,p2,p3,p4,p5,p6,p7⟩:=box8' (keptO hb kv);go_simp;refine hK _ _ ?_;exact st1_5_ W hb
 have st5_:∀(W:World) (hb:Below w.heap.size w W),wpAny Tryz.prog .any opsAdd5 Q 10 #[false,false,false,false,false,true,false,false,false,false,false] ⟨#[.pointer (some ⟨bb,0,none⟩),x1,x2,.pointer (some ⟨bv,0,none⟩),x4,x5,x6,x7,x8,x9,x10,x11,x12,x13,x14,x15,x16,x17,x18,x19,x20,x21,x22,x23,x24,x25,x26,x27,x28,x29,x30,x31,x32,x33,.agg #[.int .i64 a0,.int .i64 a1,.int .i64 a2,.int .i64 a3,.int .i64 a4,.int .i64 a5,.int .i64 a6,.int .i64 a7],x35,x36,x37,x38,x39],[]⟩ W:=by
  intro W hb;refine wpAny_ready (rs:=[0,1,6]) (by kernel_rfl) (by simp) ?_;refine AllReady.cons ho0 (fun K hK=>?_) (AllReady.cons ho1 (fun K hK=>?_) (AllReady.cons ho6 (fun K hK=>?_) AllReady.nil))
  ·go_simp;refine hK _ _ ?_;exact st0_5_ W hb
  ·go_simp;refine hK _ _ ?_;exact st1_5_ W hb
  ·go_simp;refine hK _ _ ?_;exact st5_6_ (W.alloc (.cells #[.int .i64 a0,.int .i64 a1,.int .i64 a2,.int .i64 a3,.int .i64 a4,.int .i64 a5,.int .i64 a6,.int .i64 a7] 114)) (hb.alloc (Nat.le_of_lt_succ (Nat.lt_succ_of_le hb.size)) _) W.heap.size (heap_alloc_new W _)
 have st_:∀(W:World) (hb:Below w.heap.size w W),wpAny Tryz.prog .any opsAdd5 Q 11 #[false,false,false,false,false,false,false,false,false,false,false] ⟨#[.pointer (some ⟨bb,0,none⟩),x1,x2,.pointer (some ⟨bv,0,none⟩),x4,x5,x6,x7,x8,x9,x10,x11,x12,x13,x14,x15,x16,x17,x18,x19,x20,x21,x22,x23,x24,x25,x26,x27,x28,x29,x30,x31,x32,x33,x34,x35,x36,x37,x38,x39],[]⟩ W:=by
  intro W hb;refine wpAny_ready (rs:=[0,1,5]) (by kernel_rfl) (by simp) ?_;refine AllReady.cons ho0 (fun K hK=>?_) (AllReady.cons ho1 (fun K hK=>?_) (AllReady.cons ho5 (fun K hK=>?_) AllReady.nil))
  ·go_simp;refine hK _ _ ?_;exact st0_ W hb
  ·go_simp;refine hK _ _ ?_;exact st1_ W hb
  ·obtain⟨p0,p1,p2,p3,p4,p5,p6,p7⟩:=box8' (keptO hb kv);go_simp;refine hK _ _ ?_;exact st5_ W hb
 exact st_ _ (below_drewN (Below.refl _ w) 1)
end Go.Proofs.YtcnedkkcgdkioaaGreat
