/- Texts of this claim, put together: OP OQ UP. -/
import Derived.Test.YtcnedkkcgdkioaaGreatKAw

set_option maxRecDepth 100000
set_option maxHeartbeats 12800000
namespace Go.Proofs.YtcnedkkcgdkioaaGreat
open Go.RowKit
def VS (s:List (List Int)):Prop:=∀x∈s,x.length=2
theorem flat_inj:∀ {a b:List (List Int)},VS a→VS b→a.flatten=b.flatten→a=b
 | [],[],_,_,_=>rfl
 | [],y::t,_,hb,h=>by obtain⟨p,q,rfl⟩:=two (hb y (by simp));simp at h
 | x::r,[],ha,_,h=>by obtain⟨p,q,rfl⟩:=two (ha x (by simp));simp at h
 | x::r,y::t,ha,hb,h=>by
  rw[List.flatten_cons,List.flatten_cons] at h;obtain⟨h1,h2⟩:=List.append_inj h (by rw[ha x (by simp),hb y (by simp)]);rw[h1,flat_inj (fun z hz=>ha z (by simp[hz])) (fun z hz=>hb z (by simp[hz])) h2]
theorem cmpS_zero {a b:List (List Int)}(ha:VS a) (hb:VS b):cmpS a b=0↔a=b:=by
 unfold cmpS;rw[cmpL_zero];exact⟨flat_inj ha hb,fun h=>by rw[h]⟩
theorem cmpS_asymm (a b:List (List Int)) (h:cmpS a b < 0) : ¬cmpS b a < 0:=cmpL_asymm _ _ h
theorem cmpS_trans {a b c:List (List Int)}(h:cmpS a b < 0) (k:cmpS b c < 0):cmpS a c < 0:=cmpL_trans _ _ _ h k
theorem cmpS_total {a b:List (List Int)}(ha:VS a) (hb:VS b):cmpS a b < 0∨a=b∨cmpS b a < 0:=by
 rcases cmpL_total a.flatten b.flatten with h|h|h
 ·exact .inl h
 ·exact .inr (.inl (flat_inj ha hb h))
 ·exact .inr (.inr h)
def AscS (l:List (List (List Int))):Prop:=l.Pairwise fun a b=>cmpS a b < 0
theorem ascS_unique {l1 l2:List (List (List Int))}(h1:AscS l1) (h2:AscS l2) (h:∀x,x∈l1↔x∈l2):l1=l2:=sorted_unique (lt:=fun a b=>cmpS a b < 0) cmpS_asymm h1 h2 h
theorem cmpw_mem:∀(l:List (List (List Int))) (z:List (List Int)),z∈cmpw l↔z∈l
 | [],z=>by simp[cmpw]
 | [x],z=>by simp[cmpw]
 | x::y::r,z=>by
  rw[cmpw];split
  ·rename_i h;subst h
   rw[cmpw_mem (x::r)];simp
  ·rw[List.mem_cons,cmpw_mem (y::r),List.mem_cons (a:=z) (b:=x)]
theorem cmpw_asc:∀ {l:List (List (List Int))},(∀s∈l,VS s)→l.Pairwise (fun a b=>¬cmpS b a < 0)→AscS (cmpw l)
 | [],_,_=>by simp[cmpw,AscS]
 | [x],_,_=>by simp[cmpw,AscS]
 | x::y::r,hv,h=>by
  have hx:=hv x (by simp);have hy:=hv y (by simp);have hr:∀s∈y::r,VS s:=fun s hs=>hv s (by simp at hs⊢;exact .inr hs);rw[List.pairwise_cons] at h;rw[cmpw];split
  ·exact cmpw_asc hr h.2
  ·rename_i hne
   refine List.pairwise_cons.2 ⟨fun z hz=>?_,cmpw_asc hr h.2⟩;have hz:=(cmpw_mem _ _).1 hz
   have hxy:cmpS x y < 0:=by
    rcases cmpS_total hx hy with h1|h1|h1
    ·exact h1
    ·exact absurd h1 hne
    ·exact absurd h1 (h.1 y (by simp))
   rcases List.mem_cons.1 hz with rfl|hz
   ·exact hxy
   ·rcases cmpS_total hy (hr z (by simp[hz])) with h1|rfl|h1
    ·exact cmpS_trans hxy h1
    ·exact hxy
    ·exact absurd h1 ((List.pairwise_cons.1 h.2).1 z hz)
def insS (x:List (List Int)):List (List (List Int))→List (List (List Int))
 | []=>[x]
 | y::r=>if x=y then y::r else if cmpS x y < 0 then x::y::r else y::insS x r
def layS (l:List (List (List Int))):List (List (List Int)):=l.foldl (fun acc x=>insS x acc) []
theorem insS_mem (x:List (List Int)):∀(l:List (List (List Int))) (z:List (List Int)),z∈insS x l↔z=x∨z∈l
 | [],z=>by simp[insS]
 | y::r,z=>by
  rw[insS];split
  ·rename_i h;subst h;simp
  ·split
   ·simp
   ·rw[List.mem_cons,insS_mem x r,List.mem_cons];constructor
    ·rintro(h|h|h)
     ·exact .inr (.inl h)
     ·exact .inl h
     ·exact .inr (.inr h)
    ·rintro(h|h|h)
     ·exact .inr (.inl h)
     ·exact .inl h
     ·exact .inr (.inr h)
theorem insS_asc {x:List (List Int)}(hx:VS x):∀ {l:List (List (List Int))},(∀s∈l,VS s)→AscS l→AscS (insS x l)
 | [],_,_=>by simp[insS,AscS]
 | y::r,hv,h=>by
  have hy:=hv y (by simp);have h2:=List.pairwise_cons.1 h;rw[insS];split
  ·exact h
  ·rename_i hne
   split
   ·rename_i hlt
    refine List.pairwise_cons.2 ⟨fun z hz=>?_,h⟩;rcases List.mem_cons.1 hz with rfl|hz
    ·exact hlt
    ·exact cmpS_trans hlt (h2.1 z hz)
   ·rename_i hnl
    have hyx:cmpS y x < 0:=by
     rcases cmpS_total hx hy with h1|h1|h1
     ·exact absurd h1 hnl
     ·exact absurd h1 hne
     ·exact h1
    refine List.pairwise_cons.2 ⟨fun z hz=>?_,insS_asc hx (fun s hs=>hv s (by simp[hs])) h2.2⟩;rcases(insS_mem x r z).1 hz with rfl|hz
    ·exact hyx
    ·exact h2.1 z hz
theorem foldS_mem:∀(l acc:List (List (List Int))) (z:List (List Int)),z∈l.foldl (fun acc x=>insS x acc) acc↔z∈acc∨z∈l
 | [],acc,z=>by simp
 | x::r,acc,z=>by
  rw[List.foldl_cons,foldS_mem r,insS_mem,List.mem_cons];constructor
  ·rintro((h|h)|h)
   ·exact .inr (.inl h)
   ·exact .inl h
   ·exact .inr (.inr h)
  ·rintro(h|h|h)
   ·exact .inl (.inr h)
   ·exact .inl (.inl h)
   ·exact .inr h
theorem layS_mem (l:List (List (List Int))) (z:List (List Int)):z∈layS l↔z∈l:=by
 unfold layS;rw[foldS_mem];simp
theorem foldS_asc:∀ {l acc:List (List (List Int))},(∀s∈l,VS s)→(∀s∈acc,VS s)→AscS acc→AscS (l.foldl (fun acc x=>insS x acc) acc)
 | [],acc,_,_,h=>h
 | x::r,acc,hl,ha,h=>by
  rw[List.foldl_cons];refine foldS_asc (fun s hs=>hl s (by simp[hs])) (fun s hs=>?_) (insS_asc (hl x (by simp)) ha h);rcases(insS_mem x acc s).1 hs with rfl|hs
  ·exact hl s (by simp)
  ·exact ha s hs
theorem layS_asc {l:List (List (List Int))}(h:∀s∈l,VS s):AscS (layS l):=foldS_asc h (by simp) List.Pairwise.nil
def pf (s t:List (List Int)):Bool:=decide (s.length < t.length) && decide (∀x∈s,x∈t)
def cxP (ss:List (List (List Int))):List (List (List Int)):=layS (ss.filter fun s=>!s.isEmpty && !(ss.any fun t=>pf s t))
def SmS (s:List (List Int)):Prop:=0 < s.length∧s.length≤8∧(∀x∈s,posV x=true)∧AscL s
theorem chkR_ok:∀ {r:List (List Int)}{p:List Int},chkR p r=0→(∀x∈r,posV x=true)∧AscL (p::r)
 | [],p,_=>⟨by simp,List.pairwise_singleton _ _⟩
 | x::r,p,h=>by
  rw[chkR] at h;by_cases h1:posV x=false
  ·rw[if_pos h1] at h;cases h
  rw[if_neg h1] at h;by_cases h2:0≤cmpL p x
  ·rw[if_pos h2] at h;cases h
  rw[if_neg h2] at h;obtain⟨h3,h4⟩:=chkR_ok h;refine⟨fun z hz=>?_,List.pairwise_cons.2 ⟨fun z hz=>?_,h4⟩⟩
  ·rcases List.mem_cons.1 hz with rfl|hz
   ·simpa using h1
   ·exact h3 z hz
  ·rcases List.mem_cons.1 hz with rfl|hz
   ·omega
   ·exact cmpL_trans _ _ _ (by omega) ((List.pairwise_cons.1 h4).1 z hz)
theorem chkS_ok {s:List (List Int)}(h:chkS s=0):SmS s:=by
 unfold chkS at h;by_cases h0:s.length=0
 ·rw[if_pos h0] at h;cases h
 rw[if_neg h0] at h;by_cases h8:8 < s.length
 ·rw[if_pos h8] at h;cases h
 rw[if_neg h8] at h;cases s with
 | nil=>exact absurd rfl h0
 | cons x r=>
  simp only at h
  by_cases h1:posV x=false
  ·rw[if_pos h1] at h;cases h
  rw[if_neg h1] at h;obtain⟨h3,h4⟩:=chkR_ok h;refine⟨by simp,by omega,fun z hz=>?_,h4⟩;rcases List.mem_cons.1 hz with rfl|hz
  ·simpa using h1
  ·exact h3 z hz
theorem chkR_zero:∀ {r:List (List Int)}{p:List Int},(∀x∈r,posV x=true)→AscL (p::r)→chkR p r=0
 | [],p,_,_=>rfl
 | x::r,p,h1,h2=>by
  have h3:=List.pairwise_cons.1 h2;rw[chkR,if_neg (by rw[h1 x (by simp)];decide),if_neg (by have:=h3.1 x (by simp);omega)];exact chkR_zero (fun z hz=>h1 z (by simp[hz])) h3.2
theorem chkS_zero {s:List (List Int)}(h:SmS s):chkS s=0:=by
 obtain⟨h1,h2,h3,h4⟩:=h;unfold chkS;rw[if_neg (by omega),if_neg (by omega)];cases s with
 | nil=>rfl
 | cons x r=>
  simp only
  rw[if_neg (by rw[h3 x (by simp)];decide)];exact chkR_zero (fun z hz=>h3 z (by simp[hz])) h4
theorem incN_mem (L:List (List (List Int))) (n:Nat) (p:List Int × Nat):p∈incN L n↔p.2 < n∧p.1∈L.getD p.2 []:=by
 unfold incN;rw[List.mem_flatMap];constructor
 ·rintro⟨j,hj,hp⟩;obtain⟨x,hx,rfl⟩:=List.mem_map.1 hp;exact⟨List.mem_range.1 hj,hx⟩
 ·rintro⟨h1,h2⟩;exact⟨p.2,List.mem_range.2 h1,List.mem_map.2 ⟨p.1,h2,rfl⟩⟩
theorem occ_mem (L:List (List (List Int))) (n:Nat) (r:List Int) (i:Nat):i∈occ (incN L n) r↔i < n∧r∈L.getD i []:=by
 unfold occ;rw[List.mem_map];constructor
 ·rintro⟨p,hp,rfl⟩;rw[List.mem_filter,incN_mem] at hp;obtain⟨⟨h1,h2⟩,h3⟩:=hp;simp only[decide_eq_true_eq] at h3;exact⟨h1,h3▸h2⟩
 ·rintro⟨h1,h2⟩;exact⟨(r,i),by rw[List.mem_filter,incN_mem];exact⟨⟨h1,h2⟩,by simp⟩,rfl⟩
theorem covG_eq {L:List (List (List Int))}(hL:∀t∈L,AscL t) {s:List (List Int)}(hs:AscL s) (h0:0 < s.length):((occ (incN L L.length) (s.getD 0 [])).any fun i=>pfG s (L.getD i []))=L.any fun t=>pf s t:=by
 have hpf:∀t∈L,pfG s t=pf s t:=fun t ht=>by unfold pfG pf;rw[faceG_mem hs (hL t ht)]
 rw[Bool.eq_iff_iff,List.any_eq_true,List.any_eq_true];constructor
 ·rintro⟨i,hi,hp⟩;obtain⟨h1,h2⟩:=(occ_mem _ _ _ _).1 hi;have hm:L.getD i []∈L:=by rw[getD_eq h1];exact List.getElem_mem h1
  exact⟨_,hm,by rw[←hpf _ hm];exact hp⟩
 ·rintro⟨t,ht,hp⟩;obtain⟨i,hi,rfl⟩:=List.getElem_of_mem ht;have e:L.getD i []=L[i]:=getD_eq hi [];refine⟨i,(occ_mem _ _ _ _).2 ⟨hi,?_⟩,by rw[e,hpf _ ht];exact hp⟩;rw[e];unfold pf at hp;rw[Bool.and_eq_true] at hp;exact of_decide_eq_true hp.2 _ (by rw[getD_eq h0];exact List.getElem_mem h0)
theorem cx_eq {ss L:List (List (List Int))}(hv:∀s∈ss,VS s) (hs:∀s∈ss,SmS s) (hL:AscS L) (hm:∀z,z∈L↔z∈ss):(L.filter fun s=>!((occ (incN L L.length) (s.getD 0 [])).any fun i=>pfG s (L.getD i [])))=cxP ss:=by
 have hany:∀s,(L.any fun t=>pf s t)=ss.any fun t=>pf s t:=fun s=>by
  rw[Bool.eq_iff_iff,List.any_eq_true,List.any_eq_true];exact⟨fun⟨t,h1,h2⟩=>⟨t,(hm t).1 h1,h2⟩,fun⟨t,h1,h2⟩=>⟨t,(hm t).2 h1,h2⟩⟩
 unfold cxP;refine ascS_unique (hL.filter _) (layS_asc fun s h=>hv s (List.mem_filter.1 h).1) fun z=>?_;rw[layS_mem,List.mem_filter,List.mem_filter,hm];refine and_congr_right fun hz=>?_;obtain⟨h1,h2,h3,h4⟩:=hs z hz;rw[covG_eq (fun t ht=>(hs t ((hm t).1 ht)).2.2.2) h4 h1,hany]
 have:z.isEmpty=false:=by cases z with
  | nil=>simp at h1
  | cons a r=>rfl
 rw[this];simp
end Go.Proofs.YtcnedkkcgdkioaaGreat
namespace Go.Proofs.YtcnedkkcgdkioaaGreat
open Go.RowKit Go.ChangeMaps Go.MapKept Go.WideMaps
theorem sortVsA {w0 w:World}{B n c:Nat}{a:Option Addr}{us:List (List (List Int))}(hb:Below w0.heap.size w0 w) (hB0:w0.heap.size≤B) (h:OwX 38 1 (EWk w0) w B (.slice a n c) n us) (hn:n≤1000000) :
  Calls Tryz.prog 197 #[.slice a n c,.func (.func 92) #[] #[]] w fun e w'=>
   e = .returned (.tuple #[])∧∃us':List (List (List Int)),us'.Perm us∧us'.Pairwise (fun a b=>¬cmpS b a < 0)∧OwX 38 1 (EWk w0) w' B (.slice a n c) n us'∧Below B w w':=by
 rcases Nat.eq_zero_or_pos n with h0|h0
 ·subst h0;have hu:us = []:=List.length_eq_zero_iff.1 h.length;subst hu;refine(sortVsNil a c w).mono ?_;rintro e w' ⟨rfl,rfl⟩;exact⟨rfl,[],List.Perm.refl _,List.Pairwise.nil,h,Below.refl _ _⟩
 ·obtain⟨g,cap,he,_⟩:=h.form h0;injection he with e1 e2 e3;subst e1 e3;exact sortVsK hb hB0 h hn
theorem compactVsA {w0 w:World}{B n c:Nat}{a:Option Addr}{xs:List (List (List Int))}(hb0:Below w0.heap.size w0 w) (hB0:w0.heap.size≤B) (h:OwX 38 1 (EWk w0) w B (.slice a n c) n xs) (hn:n≤1000) :
  Calls Tryz.prog 198 #[.slice a n c,.func (.func 199) #[] #[]] w fun e w'=>∃m,e = .returned (.slice a m c)∧OwX 38 1 (EWk w0) w' B (.slice a m c) m (cmpw xs)∧Below B w w':=by
 rcases Nat.eq_zero_or_pos n with h0|h0
 ·subst h0;have hu:xs = []:=List.length_eq_zero_iff.1 h.length;subst hu;refine(compactVsNil a c w).mono ?_;rintro e w' ⟨rfl,rfl⟩;exact⟨0,rfl,h,Below.refl _ _⟩
 ·obtain⟨g,cap,he,_⟩:=h.form h0;injection he with e1 e2 e3;subst e1 e3;refine(compactVs hb0 hB0 h hn).mono ?_;rintro e w' ⟨m,rfl,h1,h2,_⟩;exact⟨m,rfl,h1,h2⟩
theorem TabV.look {w:World}{b B:Nat}{ms:List (List Int × Nat)}{x:List Int}(h:TabV w b B ms) (hx:WfV x) :
  ∃z,(Instr.lookup 164 (.map (some b)) (vxV x) false).run Tryz.prog w = .ok z w∧OI w B z (occ ms x).length (natI (occ ms x)):=by
 obtain⟨m,hM,hWf,hT⟩:=h;rcases MX.look (vv:=(id:Value→Value)) keyX_vertex umIncT (zRowV w) hM.mx hWf hx with⟨h1,h2,_⟩|⟨v,h1,h2,_⟩
 ·refine⟨_,h2,?_⟩;rw[occ_none fun y hy e=>h1 (by rw[←e];exact hT.has y hy)];exact OI.nil _ _
 ·obtain⟨i,hi⟩:=List.mem_iff_getElem?.1 h1;exact⟨v,h2,(hT.row i _ hi).2⟩
theorem results_cx1 {fn:Func}(h:fn.results = #[.cell 2 57]) (tmps:Array Value) (w:World) (g1:Nat) {u0:Value}(hp1:tmps.getD 2 undef = .pointer (some ⟨g1,0,none⟩)) (hc1:w.heap[g1]? = some (.cells #[u0] 57)) :
  (results fn tmps).run Tryz.prog w = .ok (.agg #[u0]) w:=by
 have hp1':tmps[2]?.getD undef = .pointer (some ⟨g1,0,none⟩):=by simpa using hp1
 have z0:=cell_of_one hc1;have a1:=Tryz.isAgg57;have s1:=Tryz.sizeOf57;simp only[results,h];simp[Sem.run_bind,Result.andThen,hp1',asAddr,loadVar]
 go_simp
def CxO (w:World) (v:Value) (fs:List (List (List Int))):Prop:=∃a c,v = .agg #[.slice a fs.length c]∧OwX 38 1 EVx w 0 (.slice a fs.length c) fs.length fs
theorem EVx.ksc {w:World}{a:Option Addr}{c:Nat}{x:List (List Int)}(h:OwX 83 2 EI w 0 (.slice a x.length c) x.length x) (hn:x.length≤1000000):KSC 2 w (.slice a x.length c) x:=by
 obtain⟨a',c',b,off,e,h1,h2,h3⟩:=h.ks (by omega);have hcp:=(OwX.capM h).1;injection e with e1 _ e3;subst e1 e3;exact⟨_,_,b,off,rfl,h1,h2,h3,hcp⟩
theorem OwX.kssc {w:World}{B n:Nat}{v:Value}{fs:List (List (List Int))}(h:OwX 38 1 EVx w B v n fs) (hn:n≤1000000) (hl:∀x∈fs,x.length≤1000000):KSSC 2 w v fs:=by
 have hln:=h.length;obtain⟨a,c,rfl⟩:=h.shape;subst hln;have hcp:=(OwX.capM h).1;rcases Nat.eq_zero_or_pos fs.length with h0|h0
 ·exact⟨a,c,0,0,rfl,fun h=>absurd h (by omega),fun j hj=>absurd hj (by omega),by omega,hcp⟩
 ·obtain⟨g,cap,he,_⟩:=h.form h0;injection he with e1 e2 e3;subst e1 e3;refine⟨_,_,g,0,rfl,fun _=>rfl,fun j hj=>?_,by omega,hcp⟩;obtain⟨vs,k1,k2,k3,k4⟩:=h;have hvl:vs.length=fs.length * 1:=k1.1;obtain⟨a2,c2,e2,k5⟩:=k4 j fs[j] (List.getElem?_eq_getElem hj);have hc:=World.ownsRow.cellAt k1 j (by omega)
  have hv:vs[j]? = some (.slice a2 fs[j].length c2):=by
   have:=congrArg (fun l=>l[0]?) e2
   simpa [List.getElem?_take,List.getElem?_drop] using this
  rw[getD_eq hj];refine⟨_,by rw[Nat.zero_add,hc];exact hv,EVx.ksc k5 (hl _ (List.getElem_mem hj))⟩
theorem AscS.nodup {l:List (List (List Int))}(h:AscS l):l.Nodup:=h.imp fun {a b} hab e=>by subst e;exact cmpS_asymm _ _ hab hab
theorem complexOfC {w:World}{v:Value}{ss:List (List (List Int))}(hK:KSSC 2 w v ss) (hn:ss.length≤1000) (hv:∀s∈ss,VS s) (hs:∀s∈ss,SmS s) :
  Calls Tryz.prog 147 #[v] w fun e w'=>∃v',e = .returned v'∧CxO w' v' (cxP ss)∧Below w.heap.size w w':=by
 obtain⟨W1,hW1⟩:=exF (w.alloc (.cells #[.slice none 0 0] 57));have hb1:Below w.heap.size w W1:=by rw[hW1];exact(Below.refl _ w).alloc (Nat.le_refl _) _
 have hs1:W1.heap.size=w.heap.size+1:=by rw[hW1];simp
 have kR:W1.heap[w.heap.size]? = some (.cells #[.slice none 0 0] 57):=by rw[hW1];exact heap_alloc_new _ _
 have HCl:=qH (cloneVsK (hK.keep hb1) (by omega));obtain⟨va,vc,rfl⟩:=hK.shape;obtain⟨N,hN⟩:=exE (ss.length);obtain⟨R,hR⟩:=exE (cxP ss);rw[hR];rw[hN] at HCl hn⊢;replace hN:=qH hN;have kRh:=qH kR;clear kR hK;go_enter Tryz.func147, Tryz.ntmps147
 go_wp2_with fail
 rw[←hW1];replace hW1:=qH hW1;refine HCl.out.mono ?_;rintro e w2 ⟨u2,rfl,hO2,hb2⟩;obtain⟨a2,c2,rfl⟩:=hO2.shape;go_wp2_with fail
 refine(sortVsA hb2 (Nat.le_refl _) hO2 (by omega)).mono ?_;rintro e w3 ⟨rfl,us',hp,hso,hO3,hb3⟩;replace hso:=qH hso;go_wp2_with fail
 have hb13:=hb2.trans hb3;refine(compactVsA hb13 (Nat.le_refl _) hO3 (by omega)).mono ?_;rintro e w4 ⟨m,rfl,hO4,hb4⟩;have hb14:=hb13.trans hb4;obtain⟨L,hL⟩:=exE (cmpw us');rw[hL] at hO4;have hmem:∀z,z∈L↔z∈ss:=fun z=>by rw[←hL,cmpw_mem,hp.mem_iff]
 have hasc:AscS L:=by rw[←hL];exact cmpw_asc (fun s h=>hv s (hp.mem_iff.1 h)) (hso.out.imp fun h=>by omega)
 have hml:=hO4.length
 have hm1:m≤1000:=by
  rw[←hml,←hL];have:=cmpw_len_le us'
  have:=hp.length_eq
  have:=hN.out
  omega
 have hK4:=hO4.kssK hb14 (by omega);have hcx:=cx_eq hv hs hasc hmem;have hWf:∀s∈L,∀x∈s,WfV x:=fun s h x hx=>⟨hv s ((hmem s).1 h) x hx,(hs s ((hmem s).1 h)).2.2.1 x hx⟩;have hs8:∀s∈L,0 < s.length∧s.length≤8:=fun s h=>⟨(hs s ((hmem s).1 h)).1,(hs s ((hmem s).1 h)).2.1⟩;have hHI:=qH (incidenceC hK4.kss hWf (by omega) (fun s h=>by have:=(hs8 s h).2;omega));obtain⟨F,hF⟩:∃F:List (List Int)→Bool,F=fun s=>!((occ (incN L L.length) (s.getD 0 [])).any fun i=>pfG s (L.getD i [])):=⟨_,rfl⟩;rw[←hF,hR] at hcx;subst hml;have hcx:=qH hcx;clear hL hp hso hmem hasc hv hs hO2 hO3;go_wp2_with fail
 refine hHI.out.mono ?_;rintro e w5 ⟨b,rfl,hT5,hb5⟩;obtain⟨W6,hW6⟩:=exF (w5.alloc (.cells #[.slice none 0 0] 57));have hb6:Below w5.heap.size w5 W6:=by rw[hW6];exact(Below.refl _ _).alloc (Nat.le_refl _) _
 have k6:W6.heap[w5.heap.size]? = some (.cells #[.slice none 0 0] 57):=by rw[hW6];exact heap_alloc_new _ _
 have hR5:w5.heap[w.heap.size]? = some (.cells #[.slice none 0 0] 57):=(hb5.block _ (by have:=hb14.size;omega)).trans ((hb14.block _ (by omega)).trans kRh.out);have hb05:Below w.heap.size w w5:=btt (hb1.trans (hb14.mono (by omega))) hb5;have hws:w.heap.size < w5.heap.size:=(Array.getElem?_eq_some_iff.1 hR5).1;have hK5:=hK4.keep hb5;have HK:=qH (fun W (hb:Below w5.heap.size w5 W)=>And.intro (hK5.keep hb) (hT5.keep hb));have hR5:=qH hR5
 obtain⟨lb,lo,ha2⟩:∃lb lo,(0 < L.length→a2=some ⟨lb,lo,none⟩)∧∀j,j < L.length→∃u,w5.cell? ⟨lb,lo+j,none⟩=some u∧KSC 2 w5 u (L.getD j []):=by
  obtain⟨a',c',b',off,e,q1,q2,_⟩:=hK5;injection e with e1 _ _;exact⟨b',off,by rw[e1];exact q1,q2⟩
 obtain⟨ha2,hLc⟩:=ha2;have hcl:=qH hLc;have h0:Hid (OwX 38 1 EVx W6 w5.heap.size (.slice none 0 0) 0 []):=OwX.nil _ _;have hW8:=qH hs8;have hWf:=qH hWf;have hFh:=qH hF;clear hLc hO4 hK4 hK5 hHI hF hs8 hT5;go_wp2_with fail
 rw[←hW6];replace hW6:=qH hW6;go_loopw [17] (fun iv wr=>∃(i:Nat) (oa:Option Addr) (oc:Nat),iv = .int .i64 i∧i≤L.length∧Hid (OwX 38 1 EVx wr w5.heap.size (.slice oa ((L.take i).filter F).length oc) ((L.take i).filter F).length ((L.take i).filter F)∧wr.heap[w5.heap.size]? = some (.cells #[.slice oa ((L.take i).filter F).length oc] 57))∧Below w5.heap.size w5 wr) (fun iv _=>L.length - (intOf iv).toNat)
 case atStart=>exact⟨0,none,0,rfl,by omega,⟨h0.out,k6⟩,hb6⟩
 case round=>
  clear h0 k6;obtain⟨i,oa,oc,rfl,hi,hO,hbr⟩:=hrel;by_cases hlt:i < L.length
  ·have hii:(i:Int) < (L.length:Int):=(by omega);obtain rfl:=ha2 (by omega);obtain⟨u,hu,hku⟩:=hcl.out i hlt;replace hu:=cell_kept hbr hu;have hsm:L.getD i []∈L:=(by rw[getD_eq hlt];exact List.getElem_mem hlt);have htk:=take_snoc hlt ([]:List (List Int));obtain⟨s,hse⟩:=exE (L.getD i []);rw[hse] at hku hsm htk;obtain⟨hs0,hs8⟩:=hW8.out s hsm;obtain⟨sa,sc,sb,so,rfl,hsa,hsc,hsl1,hsl2⟩:=id hku;obtain rfl:=hsa hs0;obtain⟨x2,xi⟩:=hsc 0 hs0;have hwf:=hWf.out s hsm (s.getD 0 []) (by rw[getD_eq hs0];exact List.getElem_mem hs0);obtain⟨hKr,hTr⟩:=HK.out wr hbr;obtain⟨z,hlk,hzO⟩:=hTr.look hwf;have hcv:=coveredC hKr (hku.keep hbr) (OI.intsE hzO (by have h1:=occ_len (incN L L.length) (s.getD 0 []);have h2:=incN_len (ss:=L) (fun s h=>by have:=(hW8.out s h).2;omega) L.length;omega)) (fun j hj=>((occ_mem _ _ _ _).1 hj).1);have hFs:F s = !((occ (incN L L.length) (s.getD 0 [])).any fun i=>pfG s (L.getD i [])):=(by rw[hFh.out]);obtain⟨C,hC⟩:∃C,((occ (incN L L.length) (s.getD 0 [])).any fun i=>pfG s (L.getD i []))=C:=⟨_,rfl⟩;rw[hC] at hcv hFs;have hkh:=qH (fun W (hb:Below w5.heap.size w5 W)=>hku.keep hb);obtain⟨x,hx⟩:=exE (s.getD 0 []);rw[hx] at x2 xi hlk;obtain⟨p,q,rfl⟩:=two x2;obtain⟨c0,c1⟩:=xi.all2;replace c0:=cell_kept hbr c0;replace c1:=cell_kept hbr c1;rw[Nat.zero_mul,Nat.add_zero] at c0 c1;have hlk:(Instr.lookup 164 (.map (some b)) (.agg #[.int .i64 p,.int .i64 q]) false).run Tryz.prog wr = .ok z wr:=hlk;have hs0i:(0:Int) < (s.length:Int):=(by omega);have hcv:=qH hcv;clear hC hx hwf hzO hTr hKr xi x2 hsc hku hsa;cases C
   ·have htk2:(L.take (i+1)).filter F=(L.take i).filter F ++ [s]:=(by rw[htk,List.filter_append];simp[hFs]);have hlx:((L.take i).filter F).length≤1000000:=(by have:=List.length_filter_le F (L.take i);rw[List.length_take] at this;omega);obtain⟨xs,hxs⟩:=exE ((L.take i).filter F);rw[hxs] at htk2 hlx hO;have htk2:=qH htk2;have hO2:=qH hO.out;clear htk hFs hO hse hxs;go_wp2_with fail
    refine hcv.out.mono ?_;rintro e w7 ⟨rfl,hb7⟩;have hO3:=hO2.out.1.keep EVx.stb hb7;have k3:=keptO hb7 hO2.out.2;go_upto_region 10 with fail
    refine regCx10 (B:=w5.heap.size) k3 hO3 (fun W hb=>hkh.out W ((btt hbr hb7).trans hb)) (by omega) hlx (Nat.le_refl _) ?_;rintro y3 y4 y5 - W9 ⟨g1,-,-,-,-,G6,G7,-⟩ - - - -;obtain⟨⟨a9,c9,rfl⟩,hO9⟩:=G6 rfl;have k9:=G7 rfl
    have hN9:Hid (OwX 38 1 EVx W9 w5.heap.size (.slice a9 ((L.take (i+1)).filter F).length c9) ((L.take (i+1)).filter F).length ((L.take (i+1)).filter F)∧W9.heap[w5.heap.size]? = some (.cells #[.slice a9 ((L.take (i+1)).filter F).length c9] 57)):=by
     show _∧_;rw[htk2.out,List.length_append];exact⟨hO9,k9⟩
    have hb9:=(btt hbr hb7).trans g1;clear hO9 k9 G6 G7 hO3 k3 hO2;go_wp2_with fail
    go_roundw
    case rel=>exact⟨i+1,a9,c9,by go_num,by omega,hN9,hb9⟩
    case measure=>simp[intOf];omega
   ·have htk2:(L.take (i+1)).filter F=(L.take i).filter F:=(by rw[htk,List.filter_append];simp[hFs]);have hO2:=hO.out;rw[←htk2] at hO2;have hO2:=qH hO2;clear htk htk2 hFs hO hse;go_wp2_with fail
    refine hcv.out.mono ?_;rintro e w7 ⟨rfl,hb7⟩;have hO3:=qH (And.intro (hO2.out.1.keep EVx.stb hb7) (keptO hb7 hO2.out.2));go_wp2_with fail
    go_roundw
    case rel=>exact⟨i+1,oa,oc,by go_num,by omega,hO3,btt hbr hb7⟩
    case measure=>simp[intOf];omega
  ·obtain rfl:i=L.length:=(by omega);obtain⟨hO2,k2⟩:=hO.out;rw[List.take_length,hcx.out] at hO2 k2;have kRr:=(hbr.block _ hws).trans hR5.out;have z0:=cell_of_one k2;have zr:=cell_of_one kRr;have fz:=row_free kRr;have m1:=heap_setCell_same wr w.heap.size 0 _ _ (.slice oa R.length oc) kRr;have hO3:=hO2.other EVx.stc (by decide) (KeepX.setCell (p:=⟨w.heap.size,0,none⟩) kRr (.slice oa R.length oc));have hbe:=(btt hb05 hbr).setCell (p:=⟨w.heap.size,0,none⟩) (Nat.le_refl _) (.slice oa R.length oc);have hO3:=qH hO3;replace m1:=qH m1;clear hO hO2 k2 kRr;go_wp2;exact⟨rfl,_,results_cx1 rfl _ _ _ rfl m1.out,_,rfl,⟨_,_,rfl,hO3.out.base (Nat.zero_le _)⟩,hbe⟩
end Go.Proofs.YtcnedkkcgdkioaaGreat
namespace Go.Proofs.YtcnedkkcgdkioaaGreat
def insG {α:Type}(cmp:α→α→Int) (x:α):List α→List α
 | []=>[x]
 | y::l=>if cmp x y < 0 then x::y::l else y::insG cmp x l
def putG {α:Type} [DecidableEq α] (cmp:α→α→Int) (l:List α) (x:α):List α:=if x∈l then l else insG cmp x l
structure OrdP {α:Type} (S:α→Prop) (cmp:α→α→Int):Prop where
 asymm:∀a b,cmp a b < 0→¬cmp b a < 0
 trans:∀a b c,cmp a b < 0→cmp b c < 0→cmp a c < 0
 total:∀a b,S a→S b→cmp a b < 0∨a=b∨cmp b a < 0
def AscG {α:Type}(cmp:α→α→Int) (l:List α):Prop:=l.Pairwise fun a b=>cmp a b < 0
section
variable {α:Type} {cmp:α→α→Int} {S:α→Prop}
theorem insG_mem {x y:α}:∀ {l:List α},y∈insG cmp x l↔y=x∨y∈l
 | []=>by simp[insG]
 | z::l=>by
  rw[insG];split
  ·simp
  ·rw[List.mem_cons,insG_mem (l:=l),List.mem_cons];constructor
   ·rintro(h|h|h)<;>simp[h]
   ·rintro(h|h|h)<;>simp[h]
theorem insG_asc (hO:OrdP S cmp) {x:α}(hx:S x):∀ {l:List α},(∀y∈l,S y)→x ∉ l→AscG cmp l→AscG cmp (insG cmp x l)
 | [],_,_,_=>by simp[insG,AscG]
 | z::l,hl,hn,h=>by
  have hz:=hl z (by simp);rw[AscG,List.pairwise_cons] at h;rw[insG];split
  ·rename_i h1
   rw[AscG,List.pairwise_cons,List.pairwise_cons];refine⟨fun b hb=>?_,h⟩;rcases List.mem_cons.1 hb with rfl|hb
   ·exact h1
   ·exact hO.trans _ _ _ h1 (h.1 b hb)
  ·rename_i h1
   rw[AscG,List.pairwise_cons];refine⟨fun b hb=>?_,insG_asc hO hx (fun y hy=>hl y (by simp[hy])) (fun h=>hn (by simp[h])) h.2⟩;rcases insG_mem.1 hb with rfl|hb
   ·rcases hO.total z b hz hx with h2|h2|h2
    ·exact h2
    ·subst h2;exact absurd (by simp) hn
    ·exact absurd h2 h1
   ·exact h.1 b hb
variable [DecidableEq α]
theorem putG_mem {x y:α}{l:List α}:y∈putG cmp l x↔y=x∨y∈l:=by
 rw[putG];split
 ·rename_i h
  constructor
  ·exact .inr
  ·rintro(rfl|h1)
   ·exact h
   ·exact h1
 ·exact insG_mem
theorem putG_asc (hO:OrdP S cmp) {x:α}(hx:S x) {l:List α}(hl:∀y∈l,S y) (h:AscG cmp l):AscG cmp (putG cmp l x):=by
 rw[putG];split
 ·exact h
 ·rename_i hn
  exact insG_asc hO hx hl hn h
theorem putG_all {y:α}:∀ {xs l:List α},y∈xs.foldl (putG cmp) l↔y∈xs∨y∈l
 | [],l=>by simp
 | x::xs,l=>by
  rw[List.foldl_cons,putG_all (xs:=xs),putG_mem,List.mem_cons];constructor
  ·rintro(h|h|h)<;>simp[h]
  ·rintro((h|h)|h)<;>simp[h]
theorem putG_ascs (hO:OrdP S cmp):∀ {xs l:List α},(∀y∈xs,S y)→(∀y∈l,S y)→AscG cmp l→AscG cmp (xs.foldl (putG cmp) l)
 | [],_,_,_,h=>h
 | x::xs,l,hx,hl,h=>by
  rw[List.foldl_cons];refine putG_ascs hO (fun y hy=>hx y (by simp[hy])) (fun y hy=>?_) (putG_asc hO (hx x (by simp)) hl h);rcases putG_mem.1 hy with rfl|hy
  ·exact hx _ (by simp)
  ·exact hl y hy
omit [DecidableEq α] in
theorem ascG_unique (hO:OrdP S cmp) {l1 l2:List α}(h1:AscG cmp l1) (h2:AscG cmp l2) (h:∀x,x∈l1↔x∈l2):l1=l2:=sorted_unique (lt:=fun a b=>cmp a b < 0) hO.asymm h1 h2 h
def cpG:List α→List α
 | []=>[]
 | [x]=>[x]
 | x::y::r=>if x=y then cpG (y::r) else x::cpG (y::r)
theorem cpG_mem:∀(l:List α) (z:α),z∈cpG l↔z∈l
 | [],z=>by simp[cpG]
 | [x],z=>by simp[cpG]
 | x::y::r,z=>by
  rw[cpG];have ih:=cpG_mem (y::r) z;by_cases e:x=y
  ·rw[if_pos e,ih,e];simp
  ·rw[if_neg e,List.mem_cons,ih];simp
theorem cpG_asc (hO:OrdP S cmp):∀ {l:List α},(∀y∈l,S y)→l.Pairwise (fun a b=>¬cmp b a < 0)→AscG cmp (cpG l)
 | [],_,_=>by simp[cpG,AscG]
 | [x],_,_=>by simp[cpG,AscG]
 | x::y::r,hl,h=>by
  have ih:=cpG_asc hO (l:=y::r) (fun z hz=>hl z (List.mem_cons_of_mem _ hz)) (List.pairwise_cons.1 h).2;rw[cpG];by_cases e:x=y
  ·rw[if_pos e];exact ih
  ·rw[if_neg e,AscG,List.pairwise_cons];refine⟨fun b hb=>?_,ih⟩;have hb:=(cpG_mem (y::r) b).1 hb;have h0:=(List.pairwise_cons.1 h).1
   have hxy:cmp x y < 0:=by
    rcases hO.total x y (hl x (by simp)) (hl y (by simp)) with h2|h2|h2
    ·exact h2
    ·exact absurd h2 e
    ·exact absurd h2 (h0 y (by simp))
   rcases List.mem_cons.1 hb with rfl|hb1
   ·exact hxy
   ·have hyb:=(List.pairwise_cons.1 (List.pairwise_cons.1 h).2).1 b hb1;rcases hO.total x b (hl x (by simp)) (hl b (by simp[hb1])) with h2|h2|h2
    ·exact h2
    ·subst h2;exact absurd hxy hyb
    ·exact absurd h2 (h0 b hb)
theorem cpG_le:∀l:List α,(cpG l).length≤l.length
 | []=>by simp[cpG]
 | [x]=>by simp[cpG]
 | x::y::r=>by
  have:=cpG_le (y::r)
  rw[cpG];split<;>simp at this⊢<;>omega
end
def W2 (w:List (List Int)):Prop:=∀r∈w,r.length=2
def cmpX (a b:List (List Int)):Int:=cmpL a.flatten b.flatten
theorem flat_inj2:∀ {u v:List (List Int)},W2 u→W2 v→u.flatten=v.flatten→u=v
 | [],[],_,_,_=>rfl
 | [],b::v,_,hv,h=>by
  have:=hv b (by simp)
  have h2:=congrArg List.length h;simp only[List.flatten_nil,List.flatten_cons,List.length_append,List.length_nil] at h2;omega
 | a::u,[],hu,_,h=>by
  have:=hu a (by simp)
  have h2:=congrArg List.length h;simp only[List.flatten_nil,List.flatten_cons,List.length_append,List.length_nil] at h2;omega
 | a::u,b::v,hu,hv,h=>by
  rw[List.flatten_cons,List.flatten_cons] at h;obtain⟨h1,h2⟩:=List.append_inj h (by rw[hu a (by simp),hv b (by simp)]);rw[h1,flat_inj2 (fun r hr=>hu r (by simp[hr])) (fun r hr=>hv r (by simp[hr])) h2]
theorem ordX:OrdP W2 cmpX where
 asymm _ _ h:=cmpL_asymm _ _ h
 trans _ _ _ h1 h2:=cmpL_trans _ _ _ h1 h2
 total a b ha hb:=by
  rcases cmpL_total a.flatten b.flatten with h|h|h
  ·exact .inl h
  ·exact .inr (.inl (flat_inj2 ha hb h))
  ·exact .inr (.inr h)
theorem ordV:OrdP (fun _=>True) cmpL where
 asymm _ _ h:=cmpL_asymm _ _ h
 trans _ _ _ h1 h2:=cmpL_trans _ _ _ h1 h2
 total a b _ _:=cmpL_total a b
theorem cmpX_self (a:List (List Int)):cmpX a a=0:=cmpL_self _
theorem cmpX_zero {a b:List (List Int)}(ha:W2 a) (hb:W2 b):cmpX a b=0↔a=b:=by
 rw[cmpX,cmpL_zero];exact⟨flat_inj2 ha hb,fun h=>by rw[h]⟩
def vOk (v:List Int):Prop:=0≤v.getD 0 0∧v.getD 0 0 < 8∧0≤v.getD 1 0∧v.getD 1 0≤1048576
instance (v:List Int):Decidable (vOk v):=by unfold vOk;infer_instance
def vxE (s:List (List Int)) (k:Nat):Int:=if ¬vOk (s.getD k []) then 2 else if 0 < k∧0≤cmpL (s.getD (k - 1) []) (s.getD k []) then 14 else 0
def chkX (s:List (List Int)):Int:=if s.length=0 then 16 else if 8 < s.length then 5 else firstE (vxE s) s.length 0
def subB (a b:List (List Int)):Bool:=a.all fun v=>decide (v∈b)
def covB (l:List (List (List Int))) (s:List (List Int)):Bool:=l.any fun t=>decide (s.length < t.length) && subB s t
theorem covB_iff {l:List (List (List Int))}{s:List (List Int)}:covB l s=true↔∃t∈l,s.length < t.length∧∀v∈s,v∈t:=by simp[covB,subB]
theorem covB_congr {l m:List (List (List Int))}(h:∀x,x∈l↔x∈m) (s:List (List Int)):covB l s=covB m s:=by
 rw[Bool.eq_iff_iff,covB_iff,covB_iff];exact⟨fun⟨t,h1,h2⟩=>⟨t,(h t).1 h1,h2⟩,fun⟨t,h1,h2⟩=>⟨t,(h t).2 h1,h2⟩⟩
def mxPut (l:List (List (List Int))):List (List (List Int))→List (List (List Int))→List (List (List Int))
 | [],out=>out
 | s::r,out=>mxPut l r (if 0 < s.length∧covB l s=false then putG cmpX out s else out)
def maxX (l:List (List (List Int))):List (List (List Int)):=mxPut l l []
theorem mxPut_eq (l:List (List (List Int))):∀(r out:List (List (List Int))),mxPut l r out=(r.filter fun s=>decide (0 < s.length∧covB l s=false)).foldl (putG cmpX) out
 | [],out=>rfl
 | s::r,out=>by
  rw[mxPut,mxPut_eq l r,List.filter_cons];by_cases h:0 < s.length∧covB l s=false
  ·rw[if_pos h,if_pos (decide_eq_true h),List.foldl_cons]
  ·rw[if_neg h,if_neg (by simpa using h)]
theorem maxX_mem {l:List (List (List Int))}{s:List (List Int)}:s∈maxX l↔s∈l∧0 < s.length∧covB l s=false:=by
 rw[maxX,mxPut_eq,putG_all,List.mem_filter];simp
theorem maxX_asc {l:List (List (List Int))}(h2:∀s∈l,W2 s):AscG cmpX (maxX l):=by
 rw[maxX,mxPut_eq];exact putG_ascs ordX (fun y hy=>h2 y (List.mem_filter.1 hy).1) (fun y hy=>by cases hy) (by simp[AscG])
theorem covB_drop {l:List (List (List Int))}(s:List (List Int)):covB (l.filter fun t=>decide (0 < t.length)) s=covB l s:=by
 rw[Bool.eq_iff_iff,covB_iff,covB_iff];constructor
 ·rintro⟨t,h1,h2⟩;exact⟨t,(List.mem_filter.1 h1).1,h2⟩
 ·rintro⟨t,h1,h2⟩;exact⟨t,List.mem_filter.2 ⟨h1,decide_eq_true (by omega)⟩,h2⟩
theorem maxX_drop {l:List (List (List Int))}(h2:∀s∈l,W2 s):maxX (l.filter fun t=>decide (0 < t.length))=maxX l:=by
 refine ascG_unique ordX (maxX_asc fun s hs=>h2 s (List.mem_filter.1 hs).1) (maxX_asc h2) fun x=>?_;rw[maxX_mem,maxX_mem,covB_drop,List.mem_filter];simp only[decide_eq_true_eq];exact⟨fun⟨h,h3,h4⟩=>⟨h.1,h3,h4⟩,fun⟨h,h3,h4⟩=>⟨⟨h,h3⟩,h3,h4⟩⟩
def ptsX (l:List (List (List Int))):List (List Int):=l.foldl (fun out f=>f.foldl (putG cmpL) out) []
theorem ptsG_mem {v:List Int}:∀(l:List (List (List Int))) (out:List (List Int)),v∈l.foldl (fun out f=>f.foldl (putG cmpL) out) out↔v∈l.flatten∨v∈out
 | [],out=>by simp
 | f::l,out=>by
  rw[List.foldl_cons,ptsG_mem l,putG_all,List.flatten_cons,List.mem_append];constructor
  ·rintro(h|h|h)<;>simp[h]
  ·rintro((h|h)|h)<;>simp[h]
theorem ptsG_asc:∀(l:List (List (List Int))) (out:List (List Int)),AscG cmpL out→AscG cmpL (l.foldl (fun out f=>f.foldl (putG cmpL) out) out)
 | [],_,h=>h
 | f::l,out,h=>by
  rw[List.foldl_cons];exact ptsG_asc l _ (putG_ascs ordV (fun _ _=>trivial) (fun _ _=>trivial) h)
theorem ptsX_mem {v:List Int}{l:List (List (List Int))}:v∈ptsX l↔∃s∈l,v∈s:=by
 rw[ptsX,ptsG_mem,List.mem_flatten];simp
theorem ptsX_asc (l:List (List (List Int))):AscG cmpL (ptsX l):=ptsG_asc l [] (by simp[AscG])
theorem ptsX_sorted {l:List (List (List Int))}{m:List (List Int)}(hp:m.Perm l.flatten) (hs:m.Pairwise fun a b=>¬cmpL b a < 0):cpG m=ptsX l:=
 ascG_unique ordV (cpG_asc ordV (fun _ _=>trivial) hs) (ptsX_asc l) fun x=>by
  rw[cpG_mem,hp.mem_iff,ptsX_mem,List.mem_flatten]
theorem chkX_asc {s:List (List Int)}(h:chkX s=0):AscG cmpL s∧(∀v∈s,vOk v)∧0 < s.length∧s.length≤8:=by
 rw[chkX] at h;split at h
 ·cases h
 ·split at h
  ·cases h
  ·rename_i h0 h8
   have hf:=(firstE_zero _ _).1 h;refine⟨?_,fun v hv=>?_,by omega,by omega⟩
   ·have hs:∀k,k+1 < s.length→cmpL (s.getD k []) (s.getD (k+1) []) < 0:=fun k hk=>by
     have:=hf (k+1) (by omega) (by omega)
     rw[vxE] at this;split at this
     ·cases this
     ·split at this
      ·cases this
      ·rename_i h1;rw[Nat.add_sub_cancel] at h1;omega
    have hg:∀d k,k+d+1 < s.length→cmpL (s.getD k []) (s.getD (k+d+1) []) < 0:=by
     intro d;induction d with
     | zero=>exact fun k hk=>hs k hk
     | succ d ih=>exact fun k hk=>cmpL_trans _ _ _ (ih k (by omega)) (hs (k+d+1) (by omega))
    rw[AscG,List.pairwise_iff_getElem];intro i j hi hj hij;have:=hg (j - i - 1) i (by omega)
    rw[show i+(j - i - 1)+1=j by omega] at this;simpa [List.getD_eq_getElem?_getD,hi,hj] using this
   ·obtain⟨k,hk,rfl⟩:=List.mem_iff_getElem.1 hv;have:=hf k (by omega) (by omega)
    rw[vxE] at this;split at this
    ·cases this
    ·rename_i h1
     have:=Classical.not_not.1 h1
     simpa [List.getD_eq_getElem?_getD,hk] using this
theorem chkX_zero {s:List (List Int)}(h1:AscG cmpL s) (h2:∀v∈s,vOk v) (h3:0 < s.length) (h4:s.length≤8):chkX s=0:=by
 rw[chkX,if_neg (by omega),if_neg (by omega)];refine(firstE_zero _ _).2 fun k _ hk=>?_;have hk:k < s.length:=by omega
 rw[vxE,if_neg,if_neg]
 ·rintro⟨h5,h6⟩;have:=(List.pairwise_iff_getElem.1 h1) (k - 1) k (by omega) (by omega) (by omega)
  rw[List.getD_eq_getElem?_getD,List.getD_eq_getElem?_getD,List.getElem?_eq_getElem hk,List.getElem?_eq_getElem (show k - 1 < s.length by omega)] at h6;exact absurd this (by simpa using h6)
 ·intro h5;refine h5 ?_;rw[List.getD_eq_getElem?_getD,List.getElem?_eq_getElem hk];exact h2 _ (List.getElem_mem hk)
end Go.Proofs.YtcnedkkcgdkioaaGreat
