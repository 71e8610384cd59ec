/- Texts of this claim, put together: ZJ ZK ZL ZM ZN ZS ZT. -/
import Derived.Test.YtmikofeildnpdaaGreatKZt
import Derived.Shelf.SlSortCmp.NoneTotal

set_option maxRecDepth 100000
set_option maxHeartbeats 12800000
namespace Go.Proofs.YtmikofeildnpdaaGreat
open Go.RowKit
open Go.Shelf Go.Lib Go.Sort
def IvE (w0:World):Type:={ x:Value × List Int // OI w0 0 x.1 x.2.length x.2∧x.2.length≤1000∧x.1.oneCell'=true }
instance (w0:World):Inhabited (IvE w0):=⟨⟨(.slice none 0 0,[]),OI.nil _ _,by decide,rfl⟩⟩
def IvE.enc {w0:World}(x:IvE w0):Value:=x.1.1
def IvE.cf {w0:World}(x y:IvE w0):Int:=cmpL x.1.2 y.1.2
theorem IvE.one (w0:World):OneCell (IvE.enc (w0:=w0)):=fun x=>x.2.2.2
theorem IvE.swo (w0:World):SWO (ltOf (IvE.cf (w0:=w0))) where
 irrefl _:=decide_eq_false fun h=>cmpL_asymm _ _ h h
 trans _ _ _ h1 h2:=decide_eq_true (cmpL_trans _ _ _ (of_decide_eq_true h1) (of_decide_eq_true h2))
 ntrans _ _ _ h1 h2:=decide_eq_false (cmpL_ntrans _ _ _ (of_decide_eq_false h1) (of_decide_eq_false h2))
theorem keep_sort {α:Type} [Inhabited α] {enc:α→Value}{w:World}{blk:Nat}(n:Nat) (d:Array α) (os:Array Obj) {cs:Array Value}{t:TypeId}(hg:w.heap[blk]? = some (.cells cs t)):KeepX t w (sortWorld enc w blk 0 n d os):=fun k cs' t' hk ht=>by
 refine heap_sortWorld_other _ _ _ _ (fun e=>?_) (Array.getElem?_eq_some_iff.1 hk).1;rw[e,hg] at hk;injection hk with hk;injection hk with _ hk;exact ht hk.symm
theorem OI.oth {w w':World}{B n:Nat}{v:Value}{xs:List Int}(h:OI w B v n xs) (hk:KeepX 25 w w'):OI w' B v n xs:=ownsRow_X h (by decide) hk
theorem IvE.lays {w:World}{blk:Nat}{cs:Array Value}(size:Nat) (hg:w.heap[blk]? = some (.cells cs 25)):CmpLays1 Tryz.prog 70 #[] (IvE.enc (w0:=w)) IvE.cf blk 0 size w:=by
 intro m os dk _ x y;have hk:=keep_sort (enc:=IvE.enc (w0:=w)) m dk os hg;refine(cmpIntsC (OI.ints (OI.oth x.2.1 hk) (by have:=x.2.2.1;omega)) (OI.ints (OI.oth y.2.1 hk) (by have:=y.2.2.1;omega))).mono fun _ _ ⟨he,hw⟩=>⟨he,grown_of (by rw[hw];exact Go.RowKit.Below.refl _ _) (by rw[hw];exact Nat.le_refl _)⟩
theorem sortIIs {w:World}{B g n cap:Nat}{us:List (List Int)}(h:OII w B (.slice (some ⟨g,0,none⟩) n cap) n us) (hn:n≤1000000) (hlu:∀x∈us,x.length≤1000) :
  Calls Tryz.prog 69 #[.slice (some ⟨g,0,none⟩) n cap,.func (.func 70) #[] #[]] w fun e w'=>
   e = .returned (.tuple #[])∧∃us':List (List Int),us'.Perm us∧us'.Pairwise (fun a b=>¬cmpL b a < 0)∧OII w' B (.slice (some ⟨g,0,none⟩) n cap) n us'∧Go.RowKit.Below B w w':=by
 have hl:=h.length;obtain⟨vs,h1,_,h4,h3⟩:=h;have hvl:vs.length=n:=by have:=h1.1;omega
 have hks:∀j,j < n→OI w 0 (vs.getD j undef) (us.getD j []).length (us.getD j [])∧(us.getD j []).length≤1000∧(vs.getD j undef).oneCell'=true:=fun j hj=>
  ⟨h3 j hj,by rw[getD_eq (by omega)];exact hlu _ (List.getElem_mem _),by rw[getD_eq (by omega)];exact h4 _ (List.getElem_mem _)⟩
 rcases h1.2 with⟨h0,_⟩|⟨g',cap',cur,he,hB,hg,hc1,hc2,hc3,hc4⟩
 ·cases h0
 ·injection he with he1 he2 he3;injection he1 with he1;injection he1 with he1;subst he1 he3;let mk:Fin n→IvE w:=fun j=>⟨(vs.getD j undef,us.getD j []),hks j j.2⟩
  obtain⟨d,hd⟩:=exF (Array.ofFn mk);have hds:d.size=n:=by rw[hd];simp
  have hdj:∀j (hj:j < n),d[j]! = mk ⟨j,hj⟩:=fun j hj=>by rw[getElem!_pos d j (by omega)];simp[hd]
  have hgl:=(Array.getElem?_eq_some_iff.1 hg).1
  have hH:Holds (IvE.enc (w0:=w)) w g 0 d:=by
   intro j hj;rw[hds] at hj;rw[hdj j hj,Nat.zero_add];refine⟨?_,World.ownsRow.frozenAt h1 j⟩;rw[World.ownsRow.cellAt h1 j (by omega)];show vs[j]? = some (vs.getD j undef);rw[getD_eq (by omega)];exact List.getElem?_eq_getElem (by omega)
  have eg:∀args w,(callFunc 70 args).run Tryz.prog w = .ok (.enter 70 args) w:=enters_of Tryz.func70 (by kernel_rfl) rfl;have hS:=Any.slices_SortFunc Tryz.sortII IvE.enc (IvE.one w) IvE.cf (IvE.swo w) 70 #[] g 0 cap d w eg (IvE.lays d.size hg) hH hgl (by omega);rw[hds] at hS;change Calls Tryz.prog 69 _ _ _ at hS;refine hS.mono ?_;rintro e w' ⟨rfl,d',m,os,hp,hs,rfl⟩;obtain⟨hp1,_,hp2⟩:=hp;rw[hds] at hp1;have e1:d'.extract 0 n=d':=by rw[←hp1];simp
  have e2:d.extract 0 n=d:=by rw[←hds];simp
  rw[e1,e2] at hp2
  have ex:d.toList.map (fun x:IvE w=>x.1.2)=us:=by
   apply List.ext_getElem
   ·simp[hds,hl]
   ·intro j hj1 hj2;simp only[List.getElem_map,Array.getElem_toList];have:=hdj j (by omega)
    rw[getElem!_pos d j (by omega)] at this;rw[this];exact getD_eq hj2 []
  refine⟨rfl,d'.toList.map (fun x:IvE w=>x.1.2),?_,?_,⟨d'.toList.map IvE.enc,⟨by simp[hp1],.inr ⟨g,cap,putCells IvE.enc 0 d' cur,rfl,hB,heap_sortWorld_same 0 m d' os hg,hc1,hc2,by simpa [putCells] using hc3,?_⟩⟩,by simp[hp1],?_,fun j hj=>?_⟩,below_sortWorld m d' os hB hgl⟩
  ·rw[←ex];exact hp2.map _
  ·rw[List.pairwise_map,List.pairwise_iff_getElem];intro i j hi hj hij;simp only[Array.length_toList] at hi hj;have:=hs i j (Nat.zero_le _) hij (by omega)
   rw[getElem!_pos d' i hi,getElem!_pos d' j hj] at this;exact of_decide_eq_false this
  ·have:=putCells_take IvE.enc d' cur (by omega)
   rw[hp1] at this;rw[Nat.mul_one,this]
  ·intro x hx;obtain⟨y,_,rfl⟩:=List.mem_map.1 hx;exact y.2.2.2
  ·have hjl:j < d'.size:=(by omega);have e1:(d'.toList.map IvE.enc).getD j undef=d'[j].1.1:=(by rw[getD_eq (by simpa using hjl),List.getElem_map,Array.getElem_toList];rfl);have e2:(d'.toList.map (fun x:IvE w=>x.1.2)).getD j []=d'[j].1.2:=(by rw[getD_eq (by simpa using hjl),List.getElem_map,Array.getElem_toList]);rw[e1,e2];exact ownsRow_X d'[j].2.1 (by decide) (keep_sort m d' os hg)
theorem sortIInil (p:Option Addr) (cap:Nat) (w:World):Calls Tryz.prog 69 #[.slice p 0 cap,.func (.func 70) #[] #[]] w fun e w'=>e = .returned (.tuple #[])∧w'=w:=
 AnyF.slices_SortFunc_none (P:=Tryz.prog) (ρ:=Tryz.sortII_ren) { Tryz.sortII with } p cap (.func (.func 70) #[] #[]) w
theorem vecL_of {n:Nat}{a x:List Int}(h1:1≤n) (h5:n≤5) (ha:IsP n a) (hx:x.length=n):vecL a x=movedL a x∧vecE02 a x=0:=by
 have he:vecE02 a x=0:=by rw[vecE02,if_neg (fun h=>h (chk_of h1 h5 ha)),if_neg (fun h=>h (by rw[hx,ha.1]))]
 exact⟨by rw[vecL,if_pos he],he⟩
theorem movedC {w:World}{v u:Value}{n:Nat}{a:List Int}{l:List (List Int)}(h1:1≤n) (h5:n≤5) (ha:IsP n a) (hl:∀x∈l,x.length=n) (hll:l.length≤100000) (hv:Intss w v l) (hu:Ints w u a) :
  Calls Tryz.prog 114 #[v,u] w fun e w'=>∃r,e = .returned r∧OII w' w.heap.size r (mvAll a l).length (mvAll a l)∧Below w.heap.size w w':=by
 have HV:=qH (fun W (h:Below w.heap.size w W) x (hx:x∈l) (t:Value) (ht:Ints W t x)=>by
  have:=vector (hu.keep h) ht
  rwa [(vecL_of h1 h5 ha (hl x hx)).1,(vecL_of h1 h5 ha (hl x hx)).2] at this)
 obtain⟨M,hM⟩:=exE (l.map (movedL a));have hMl:Hid (M.length=l.length):=by rw[←hM,List.length_map];exact rfl
 have hMi:Hid (∀j,j < l.length→M.getD j []=movedL a (l.getD j [])):=fun j hj=>by rw[←hM,getD_eq (by rw[List.length_map];exact hj),List.getElem_map,getD_eq hj]
 have hMx:Hid (∀x∈M,x.length≤1000):=fun x hx=>by
  rw[←hM] at hx;obtain⟨y,_,rfl⟩:=List.mem_map.1 hx;rw[movedL_length,ha.1];omega
 have hR:Hid (∀m:List (List Int),m.Perm M→m.Pairwise (fun a b=>¬cmpL b a < 0)→m=mvAll a l):=fun m hp hs=>mvAll_of (by rw[hM];exact hp) hs;have hRl:Hid ((mvAll a l).length=l.length):=mvAll_len a l;obtain⟨Res,hRes⟩:=exE (mvAll a l);rw[hRes] at hR hRl⊢;obtain⟨va,vc,vb,vo,rfl,hva,hvc,_⟩:=hv;obtain⟨ua,uc,hus⟩:∃ua uc,u = .slice ua a.length uc:=by obtain⟨ua,uc,_,_,h,_⟩:=hu;exact⟨ua,uc,h⟩
 subst hus;replace hvc:=qH hvc;replace hva:=qH hva;have ho0:OII w w.heap.size (.slice none 0 0) 0 (M.take 0):=OII.nil _ _;have hb0:=Below.refl w.heap.size w;clear hM hRes hu hl;go_enter Tryz.func114, Tryz.ntmps114
 go_wp2_with fail
 go_loopw [5,12] (fun ov jv wr=>∃j:Nat,jv = .int .i64 (j:Int)∧j≤l.length∧OII wr w.heap.size ov j (M.take j)∧Hid (Below w.heap.size w wr)) (fun _ jv _=>l.length - (intOf jv).toNat)
 case atStart=>exact⟨0,rfl,Nat.zero_le _,ho0,hb0⟩
 case round=>
  clear ho0 hb0;obtain⟨j,rfl,hj,ho,hb⟩:=hrel;obtain⟨oa,oc,hov⟩:=ho.shape;subst hov;by_cases hlt:j < l.length
  ·have hltI:(j:Int) < (l.length:Int):=(by omega);obtain rfl:=hva.out (by omega);obtain⟨t,hct,ht⟩:=hvc.out j hlt;obtain⟨x,hx⟩:=exE (l.getD j []);have hxm:x∈l:=(by rw[←hx];exact getD_mem hlt);have hstep:M.take (j+1)=M.take j ++ [movedL a x]:=(by rw[take_snoc (by rw[hMl.out];exact hlt) [],hMi.out j hlt,hx]);rw[hx] at ht;have hct':=cell_kept hb.out hct;have HC:=qH (HV.out wr hb.out x hxm t (ht.keep hb.out));obtain⟨ta,tc,htv⟩:∃ta tc,t = .slice ta x.length tc:=(by obtain⟨ta,tc,_,_,h,_⟩:=ht;exact⟨ta,tc,h⟩);subst htv;obtain⟨y,hy⟩:=exE (movedL a x);rw[hy] at HC hstep;replace hstep:=qH hstep;clear hx hxm hct ht hy;go_wp2_with fail
   refine HC.out.mono ?_;rintro e w1 ⟨r,rfl,hr,hb1⟩;obtain⟨ra,rc,rfl⟩:=hr.shape;have ho1:=ho.keep hb1;have hbw:=bt hb.out hb1 hb.out.size;clear ho hct' HC;go_wp2_with (at_builtin;refine wpApp1S rfl _ _ rfl rfl ho1 rfl hr rfl (by omega) hbw.size ?_;intro v2 w2 ho2 hb2 _)
   rw[←hstep.out] at ho2;clear ho1 hr;go_wp2_with fail
   go_roundw
   case rel=>exact⟨j+1,by go_num,by omega,ho2,hbw.trans hb2⟩
   case measure=>simp[intOf];omega
  ·obtain rfl:j=l.length:=(by omega);rw[List.take_of_length_le (by rw[hMl.out];exact Nat.le_refl _)] at ho;rcases Nat.eq_zero_or_pos l.length with h0|h0
   ·have hRn:Res = []:=List.length_eq_zero_iff.1 (by rw[hRl.out];exact h0);obtain rfl:=List.length_eq_zero_iff.1 h0;subst hRn;have hM0:M = []:=List.length_eq_zero_iff.1 hMl.out;subst hM0;have HS:=qH (sortIInil oa oc wr);have ho':OII wr w.heap.size (.slice oa 0 oc) ([]:List (List Int)).length []:=ho;clear hva hvc HV hMi hMx hR hRl hMl ho;go_wp2_with fail
    refine HS.out.mono ?_;rintro e w2 ⟨rfl,hw2⟩;replace hw2:=hw2.symm;subst hw2;go_wp2;go_ret;exact⟨_,rfl,ho',hb.out⟩
   ·obtain⟨g,cap,he⟩:=ho.form2 h0;injection he with e1 e2 e3;subst e1 e3;have HS:=qH (sortIIs ho (by omega) hMx.out);clear ho;go_wp2_with fail
    refine HS.out.mono ?_;rintro e w2 ⟨rfl,m,hp,hs,hO2,hb2⟩;have hm:=hR.out m hp hs;subst hm;have hO3:OII w2 w.heap.size (.slice (some ⟨g,0,none⟩) l.length oc) m.length m:=(by rw[hO2.length];exact hO2);clear HS hO2 hp hs;go_wp2;go_ret;exact⟨_,rfl,hO3,hb.out.trans hb2⟩
open Go.Shelf Go.Lib Go.Sort
def CeE {α:Type}(k:Nat) (El:World→List Value→α→Prop) (w0:World):Type:={ x:List Value × α // x.1.length=k∧(∀u∈x.1,u.oneCell'=true)∧El w0 x.1 x.2 }
def CeE.enc {α:Type}{k:Nat}{El:World→List Value→α→Prop}{w0:World}(x:CeE k El w0):List Value:=x.1.1
theorem flat_K {β:Type} [Inhabited β] (enc:β→List Value) (k:Nat) (hk:0 < k) (hlen:∀x,(enc x).length=k) (d:Array β) (j:Nat) (hj:j < d.size):((flatK enc k d).toList.drop (j * k)).take k=enc d[j]!:=by
 apply List.ext_getElem?
 intro i;rw[List.getElem?_take];by_cases hi:i < k
 ·have hle:j * k+k≤d.size * k:=by rw[←Nat.succ_mul];exact Nat.mul_le_mul_right _ hj
  rw[if_pos hi,List.getElem?_drop,Array.getElem?_toList,Array.getElem?_eq_getElem (by rw[size_flatK];omega)];have:=get_flatK enc k d (j * k+i) (by omega)
  rw[getElem!_pos _ _ (by rw[size_flatK];omega)] at this;have e1:(j * k+i) / k=j:=by rw[Nat.add_comm,Nat.add_mul_div_right _ _ hk,Nat.div_eq_of_lt hi,Nat.zero_add]
  have e2:(j * k+i) % k=i:=by rw[Nat.add_comm,Nat.add_mul_mod_self_right,Nat.mod_eq_of_lt hi]
  rw[this,e1,e2];have hl:=hlen d[j]!;rw[getElem!_pos _ i (by omega)];exact(List.getElem?_eq_getElem (by omega)).symm
 ·rw[if_neg hi,List.getElem?_eq_none (by rw[hlen];omega)]
theorem sortOwX {α:Type}{ρ:Ren}(L:SlLaysF0.n6 Tryz.prog ρ) {k:Nat}(hk:0 < k) (aE:∀w,(isAgg (ρ.t 24)).run Tryz.prog w = .ok true w) (zE:∀w,(Go.sizeOf (ρ.t 24)).run Tryz.prog w = .ok k w) {E:TypeId}{El:World→List Value→α→Prop}(hSt:Stab E El) {fn:Nat}{cf:α→α→Int}
  (hO:∀a b,cf a b < 0→¬cf b a < 0) (hTr:∀a b c,cf a b < 0→cf b c < 0→cf a c < 0) (hNt:∀a b c,¬cf a b < 0→¬cf b c < 0→¬cf a c < 0)
  (eg:∀args w,(callFunc fn args).run Tryz.prog w = .ok (.enter fn args) w) {w:World}
  (hcmp:∀W,KeepX E w W→∀cs ds x y,El w cs x→El w ds y→cs.length=k→ds.length=k→Calls Tryz.prog fn #[.agg cs.toArray,.agg ds.toArray] W fun e w'=>e = .returned (.int .i64 (cf x y))∧Go.RowKit.Below W.heap.size W w'∧W.drawn≤w'.drawn)
  {B g n cap:Nat} {xs:List α} (h:OwX E k El w B (.slice (some ⟨g,0,none⟩) n cap) n xs) (hn0:0 < n) (hn:n≤1000000) :
  Calls Tryz.prog (ρ.f 6) #[.slice (some ⟨g,0,none⟩) n cap,.func (.func fn) #[] #[]] w fun e w'=>
   e = .returned (.tuple #[])∧∃ys:List α,ys.Perm xs∧ys.Pairwise (fun a b=>¬cf b a < 0)∧OwX E k El w' B (.slice (some ⟨g,0,none⟩) n cap) n ys∧Go.RowKit.Below B w w'∧KeepX E w w':=by
 have hl:=h.length;obtain⟨ws,h1,h2,h3,h4⟩:=h;have hwl:ws.length=n * k:=h1.1;rcases h1.2 with⟨h0,_⟩|⟨g',cap',cur,he,hB,hg,hc1,hc2,hc3,hc4⟩
 ·cases h0
 ·injection he with he1 he2 he3;injection he1 with he1;injection he1 with he1;subst he1 he3;have hle:∀j,j < n→j * k+k≤n * k:=fun j hj=>by rw[←Nat.succ_mul];exact Nat.mul_le_mul_right _ hj
  let mk:Fin n→CeE k El w:=fun j=>⟨((ws.drop (j * k)).take k,xs[j.1]'(by rw[hl];exact j.2)),by rw[List.length_take,List.length_drop];have:=hle j j.2;omega,
   fun u hu=>h3 u (List.mem_of_mem_drop (List.mem_of_mem_take hu)),h4 j _ (List.getElem?_eq_getElem (by rw[hl];exact j.2))⟩
  letI:Inhabited (CeE k El w):=⟨mk ⟨0,hn0⟩⟩
  obtain⟨d,hd⟩:=exF (Array.ofFn mk);have hds:d.size=n:=by rw[hd];simp
  have hdj:∀j (hj:j < n),d[j]! = mk ⟨j,hj⟩:=fun j hj=>by rw[getElem!_pos d j (by omega)];simp[hd]
  have hlen:∀x:CeE k El w,(CeE.enc x).length=k:=fun x=>x.2.1;have hone:∀x:CeE k El w,∀v∈CeE.enc x,v.oneCell'=true:=fun x=>x.2.2.1
  have hH:HoldsK (CeE.enc (k:=k) (El:=El) (w0:=w)) k w g 0 d:=by
   intro t ht;rw[size_flatK,hds] at ht;have htj:t / k < n:=(by rw[Nat.div_lt_iff_lt_mul hk];exact ht);have hm:t % k < k:=Nat.mod_lt _ hk;have hdm:t / k * k+t % k=t:=(by rw[Nat.mul_comm,Nat.div_add_mod]);constructor
   ·rw[get_flatK _ _ _ _ (by rw[hds];exact ht),hdj _ htj,Nat.zero_add,World.ownsRow.cellAt h1 t (by omega)];have hl7:=hlen (mk ⟨t / k,htj⟩);rw[getElem!_pos _ _ (by rw[hl7];exact hm)];have hq:((ws.drop (t / k * k)).take k)[t % k]? = ws[t]?:=(by rw[List.getElem?_take,if_pos hm,List.getElem?_drop,hdm]);rw[←hq];exact List.getElem?_eq_getElem _
   ·rw[Nat.zero_add];exact World.ownsRow.frozenAt h1 t
  have hgl:=(Array.getElem?_eq_some_iff.1 hg).1;let cf':CeE k El w→CeE k El w→Int:=fun x y=>cf x.1.2 y.1.2
  have hswo:SWO (ltOf cf'):=
   {irrefl:=fun _=>decide_eq_false fun h=>hO _ _ h h
    trans:=fun _ _ _ h1 h2=>decide_eq_true (hTr _ _ _ (of_decide_eq_true h1) (of_decide_eq_true h2))
    ntrans:=fun _ _ _ h1 h2=>decide_eq_false (hNt _ _ _ (of_decide_eq_false h1) (of_decide_eq_false h2)) }
  have hlay:CmpLays Tryz.prog fn #[] (CeE.enc (k:=k) (El:=El) (w0:=w)) k cf' g 0 d.size w:=by
   intro m os dk _ x y;have hkp:KeepX E w (sortWorldK (CeE.enc (k:=k) (El:=El) (w0:=w)) k w g 0 m dk os):=keep_sort (enc:=id) m (flatK (CeE.enc (k:=k) (El:=El) (w0:=w)) k dk) os hg;exact(hcmp _ hkp _ _ _ _ x.2.2.2 y.2.2.2 x.2.1 y.2.1).mono fun _ _ ⟨he,hb,hd⟩=>⟨he,grown_of hb hd⟩
  have hS:=AnyQ.slices_SortFunc L k aE zE (CeE.enc (k:=k) (El:=El) (w0:=w)) hlen hone cf' hswo fn #[] g 0 cap d w eg hlay hH hgl (by rw[hds];omega);rw[hds] at hS;refine hS.mono ?_;rintro e w' ⟨rfl,d',m,os,hp,hs,rfl⟩;obtain⟨hp1,_,hp2⟩:=hp;rw[hds] at hp1;have e1:d'.extract 0 n=d':=by rw[←hp1];simp
  have e2:d.extract 0 n=d:=by rw[←hds];simp
  rw[e1,e2] at hp2
  have ex:d.toList.map (fun x:CeE k El w=>x.1.2)=xs:=by
   apply List.ext_getElem
   ·simp[hds,hl]
   ·intro j hj1 hj2;simp only[List.getElem_map,Array.getElem_toList];have:=hdj j (by omega)
    rw[getElem!_pos d j (by omega)] at this;rw[this]
  have hfs:(flatK (CeE.enc (k:=k) (El:=El) (w0:=w)) k d').size=n * k:=by rw[size_flatK,hp1]
  have hcs:n * k≤cur.size:=by rw[hc3];exact Nat.mul_le_mul_right _ hc1
  have hW:sortWorldK (CeE.enc (k:=k) (El:=El) (w0:=w)) k w g 0 m d' os=sortWorld id w g 0 m (flatK (CeE.enc (k:=k) (El:=El) (w0:=w)) k d') os:=rfl;have hkx:KeepX E w (sortWorld id w g 0 m (flatK (CeE.enc (k:=k) (El:=El) (w0:=w)) k d') os):=keep_sort (enc:=id) m _ os hg;rw[hW];refine⟨rfl,d'.toList.map (fun x:CeE k El w=>x.1.2),?_,?_,⟨(flatK (CeE.enc (k:=k) (El:=El) (w0:=w)) k d').toList,⟨by rw[Array.length_toList,hfs],.inr ⟨g,cap,putCells id 0 (flatK (CeE.enc (k:=k) (El:=El) (w0:=w)) k d') cur,rfl,hB,heap_sortWorld_same 0 m _ os hg,hc1,hc2,by simpa [putCells] using hc3,?_⟩⟩,by simp[hp1],?_,?_⟩,below_sortWorld m _ os hB hgl,hkx⟩
  ·rw[←ex];exact hp2.map _
  ·rw[List.pairwise_map,List.pairwise_iff_getElem];intro i j hi hj hij;simp only[Array.length_toList] at hi hj;have:=hs i j (Nat.zero_le _) hij (by omega)
   rw[getElem!_pos d' i hi,getElem!_pos d' j hj] at this;exact of_decide_eq_false this
  ·have:=putCells_take id (flatK (CeE.enc (k:=k) (El:=El) (w0:=w)) k d') cur (by omega)
   rw[hfs] at this;rw[this,List.map_id]
  ·intro u hu;obtain⟨t,ht,rfl⟩:=List.getElem_of_mem hu;rw[Array.length_toList,hfs] at ht;have:=get_flatK (CeE.enc (k:=k) (El:=El) (w0:=w)) k d' t (by rw[hp1];exact ht)
   rw[getElem!_pos _ _ (by omega)] at this;rw[Array.getElem_toList,this];have hl7:=hlen d'[t / k]!;rw[getElem!_pos _ _ (by rw[hl7];exact Nat.mod_lt _ hk)];exact hone _ _ (List.getElem_mem _)
  ·intro j x hj;rw[List.getElem?_map] at hj
   have hjl:j < d'.size:=by
    rcases Nat.lt_or_ge j d'.size with h|h
    ·exact h
    ·rw[List.getElem?_eq_none (by simpa using h)] at hj;cases hj
   rw[flat_K _ k hk hlen d' j hjl];rw[Array.getElem?_toList,Array.getElem?_eq_getElem hjl] at hj;simp only[Option.map_some,Option.some.injEq] at hj;rw[getElem!_pos d' j hjl,←hj];exact hSt _ _ _ _ d'[j].2.2.2 hkx
open Go.Shelf Go.Lib Go.Sort
def ECs (w:World) (cs:List Value) (x:Cs):Prop:=∃u0 u1 u2,cs = [u0,u1,u2]∧OI w 0 u0 x.1.length x.1∧OII w 0 u1 x.2.1.length x.2.1∧OII w 0 u2 x.2.2.length x.2.2∧x.1.length≤1000
theorem ECs.stab:Stab 128 ECs:=fun _ _ _ _ ⟨u0,u1,u2,h,h0,h1,h2,hl⟩ hx=>⟨u0,u1,u2,h,ownsRow_X h0 (by decide) hx,h1.otherX (by decide) (by decide) hx,h2.otherX (by decide) (by decide) hx,hl⟩
theorem elemCs:ElemK Tryz.prog 62 128 (.agg #[.slice none 0 0,.slice none 0 0,.slice none 0 0]) 3 72:=⟨by kernel_rfl,by kernel_rfl,rfl⟩
theorem caseCompareC {w:World}{u0 u1 u2 v0 v1 v2:Value}{x y:List Int}(hx:OI w 0 u0 x.length x) (hy:OI w 0 v0 y.length y) (lx:x.length≤1000) (ly:y.length≤1000) :
  Calls Tryz.prog 116 #[.agg #[u0,u1,u2],.agg #[v0,v1,v2]] w fun e w'=>e = .returned (.int .i64 (cmpL x y))∧Go.RowKit.Below w.heap.size w w'∧w.drawn≤w'.drawn:=by
 have hb:Go.RowKit.Below w.heap.size w ((w.alloc (.cells #[u0,u1,u2] 128)).alloc (.cells #[v0,v1,v2] 128)):=((Go.RowKit.Below.refl _ _).alloc (Nat.le_refl _) _).alloc (by simp) _;have HC:=qH (fun W (hb:Go.RowKit.Below w.heap.size w W)=>cmpIntsC ((hx.keep hb).ints (by omega)) ((hy.keep hb).ints (by omega)));obtain⟨R,hR⟩:=exE (cmpL x y);rw[hR] at HC⊢;clear hR hx hy;go_enter Tryz.func116, Tryz.ntmps116
 go_wp2_with fail
 refine(HC.out _ hb).mono ?_;rintro e w1 ⟨rfl,hw1⟩;subst hw1;go_wp2;go_ret;exact⟨rfl,hb,Nat.le_refl _⟩
theorem sortCases {w:World}{B g n cap:Nat}{xs:List Cs}(h:OwX 128 3 ECs w B (.slice (some ⟨g,0,none⟩) n cap) n xs) (hn0:0 < n) (hn:n≤1000000) :
  Calls Tryz.prog 115 #[.slice (some ⟨g,0,none⟩) n cap,.func (.func 116) #[] #[]] w fun e w'=>
   e = .returned (.tuple #[])∧∃ys:List Cs,ys.Perm xs∧ys.Pairwise (fun a b=>¬cmpC b a < 0)∧OwX 128 3 ECs w' B (.slice (some ⟨g,0,none⟩) n cap) n ys∧Go.RowKit.Below B w w'∧KeepX 128 w w':=by
 have aE:∀w,(isAgg (Tryz.sortCs_ren.t 24)).run Tryz.prog w = .ok true w:=fun w=>by kernel_rfl
 have zE:∀w,(Go.sizeOf (Tryz.sortCs_ren.t 24)).run Tryz.prog w = .ok 3 w:=fun w=>by kernel_rfl
 have eg:∀args w,(callFunc 116 args).run Tryz.prog w = .ok (.enter 116 args) w:=enters_of Tryz.func116 (by kernel_rfl) rfl
 exact sortOwX Tryz.sortCs (by decide) aE zE ECs.stab (cf:=cmpC) (fun a b h k=>cmpL_asymm _ _ h k) (fun a b c h k=>cmpL_trans _ _ _ h k) (fun a b c h k=>cmpL_ntrans _ _ _ h k) eg
  (fun W hk cs ds x y hx hy _ _=>by
   obtain⟨u0,u1,u2,rfl,a0,a1,a2,al⟩:=ECs.stab _ _ _ _ hx hk;obtain⟨v0,v1,v2,rfl,b0,b1,b2,bl⟩:=ECs.stab _ _ _ _ hy hk;exact caseCompareC a0 b0 al bl) h hn0 hn
theorem OwX.css {w:World}{B n:Nat}{v:Value}{xs:List Cs}(h:OwX 128 3 ECs w B v n xs) (hn:n≤1000000) (hl:∀x∈xs,x.2.1.length≤1000000∧x.2.2.length≤1000000∧(∀y∈x.2.1,y.length≤1000)∧∀y∈x.2.2,y.length≤1000):CsS w v xs:=by
 have hxl:=h.length;rcases Nat.eq_zero_or_pos n with h0|h0
 ·subst h0;obtain rfl:=List.length_eq_zero_iff.1 hxl;obtain⟨a,c,rfl⟩:=h.shape;exact⟨a,c,0,0,rfl,fun h=>absurd h (Nat.lt_irrefl 0),fun j hj=>absurd hj (Nat.not_lt_zero j),Nat.zero_le _⟩
 ·obtain⟨g,cap,rfl,_⟩:=h.form h0;refine⟨_,_,g,0,by rw[hxl],fun _=>rfl,fun j hj=>?_,by omega⟩;obtain⟨cs,hc,⟨u0,u1,u2,rfl,a0,a1,a2,al⟩,hcl⟩:=h.cells (j:=j) (x:=xs.getD j csNil) (by rw[getD_eq hj];exact List.getElem?_eq_getElem hj);obtain⟨l1,l2,l3,l4⟩:=hl _ (getD_mem (d:=csNil) hj);refine⟨u0,u1,u2,?_,?_,?_,a0.ints (by omega),a1.intss (by omega) fun x hx=>by have:=l3 x hx;omega,a2.intss (by omega) fun x hx=>by have:=l4 x hx;omega⟩
  ·have:=hcl 0 u0 rfl;rwa [Nat.add_zero,←Nat.zero_add (j * 3)] at this
  ·have:=hcl 1 u1 rfl;rwa [←Nat.zero_add (j * 3)] at this
  ·have:=hcl 2 u2 rfl;rwa [←Nat.zero_add (j * 3)] at this
def KeepP (w w':World):Prop:=∀(k:Nat) (cs:Array Value) (t:TypeId),w.heap[k]? = some (.cells cs t)→t ≠ 128→t ≠ 64→w'.heap[k]? = w.heap[k]?
theorem KeepP.below {w w':World}(h:Below w.heap.size w w'):KeepP w w':=fun k _ _ hk _ _=>h.block k (Array.getElem?_eq_some_iff.1 hk).1
theorem KeepP.refl (w:World):KeepP w w:=fun _ _ _ _ _ _=>rfl
theorem KeepP.ofX {w w':World}(h:KeepX 128 w w'):KeepP w w':=fun k cs t hk h1 _=>h k cs t hk h1
theorem ownsRow_P {E:TypeId}{w w':World}{B k:Nat}{v:Value}{n:Nat}{xs:List Value}(h:w.ownsRow B E k v n xs) (h1:E ≠ 128) (h2:E ≠ 64) (hx:KeepP w w'):w'.ownsRow B E k v n xs:=by
 refine⟨h.1,?_⟩;rcases h.2 with h'|⟨g,cap,cur,k1,k2,k3,k4⟩
 ·exact .inl h'
 ·exact .inr ⟨g,cap,cur,k1,k2,(hx g cur E k3 h1 h2).trans k3,k4⟩
theorem OI.keepP {w w':World}{B n:Nat}{v:Value}{xs:List Int}(h:OI w B v n xs) (hx:KeepP w w'):OI w' B v n xs:=ownsRow_P h (by decide) (by decide) hx
theorem OII.keepP {w w':World}{B n:Nat}{v:Value}{xss:List (List Int)}(h:OII w B v n xss) (hx:KeepP w w'):OII w' B v n xss:=by
 obtain⟨vs,k1,k2,k3,k4⟩:=h;exact⟨vs,ownsRow_P k1 (by decide) (by decide) hx,k2,k3,fun j hj=>(k4 j hj).keepP hx⟩
theorem ECs.keepP {w w':World}{cs:List Value}{x:Cs}(h:ECs w cs x) (hx:KeepP w w'):ECs w' cs x:=by
 obtain⟨u0,u1,u2,e,h0,h1,h2,hl⟩:=h;exact⟨u0,u1,u2,e,h0.keepP hx,h1.keepP hx,h2.keepP hx,hl⟩
theorem intss1 {w:World}{g:Nat}{u:Value}{x:List Int}(h:w.heap[g]? = some (.cells #[u] 25)) (hx:Ints w u x):Intss w (.slice (some ⟨g,0,none⟩) 1 1) [x]:=by
 refine⟨_,_,g,0,rfl,fun _=>rfl,fun k hk=>?_,show 1≤5864062014805 by decide⟩;obtain rfl:k=0:=by simpa using hk
 exact⟨u,cell_of_one h,hx⟩
theorem mvAll_one (a x:List Int):mvAll a [x] = [movedL a x]:=List.perm_singleton.1 (srtB_perm weakL _)
theorem OII.at0 {w:World}{v:Value}{x:List Int}(h:OII w 0 v 1 [x]):∃g c cs u,v = .slice (some ⟨g,0,none⟩) 1 c∧w.heap[g]? = some (.cells cs 25)∧cs[0]? = some u∧OI w 0 u x.length x:=by
 obtain⟨vs,k1,_,_,k4⟩:=h;have hl:vs.length=1:=k1.1;rcases k1.2 with⟨_,h0⟩|⟨g,cap,cur,he,h2,h3,h4,h5,h6,h7⟩
 ·cases h0
 ·refine⟨g,cap,cur,vs.getD 0 undef,he,h3,?_,k4 0 (by decide)⟩;have:=World.ownsRow.cellAt (he▸k1) 0 (by omega)
  rw[cell_of_row _ _ 0 _ _ _ h3] at this;rw[this,getD_eq (by omega)];exact List.getElem?_eq_getElem _
theorem OI.one {w:World}{B n:Nat}{v:Value}{xs:List Int}(h:OI w B v n xs):v.oneCell'=true:=by obtain⟨a,c,rfl⟩:=h.shape;rfl
theorem ECs.stabT:Stab 64 ECs:=fun _ _ _ _ ⟨u0,u1,u2,h,h0,h1,h2,hl⟩ hx=>⟨u0,u1,u2,h,ownsRow_X h0 (by decide) hx,h1.otherX (by decide) (by decide) hx,h2.otherX (by decide) (by decide) hx,hl⟩
def oPe13_0:Oper:=⟨some 43,.fieldAddr 64 (.tmp 8) 3,0,"task.go:227",#[],none⟩
def oPe13_1:Oper:=⟨some 44,.load 62 (.tmp 43),62,"task.go:227",#[⟨0,.data⟩],none⟩
def oPe13_2:Oper:=⟨some 45,.fieldAddr 128 (.tmp 10) 0,0,"task.go:227",#[],none⟩
def oPe13_3:Oper:=⟨some 46,.load 25 (.tmp 45),25,"task.go:227",#[⟨2,.data⟩],none⟩
def oPe13_4:Oper:=⟨some 47,.buildSlice 39 1 #[(0,.tmp 46)],39,"task.go:227",#[⟨3,.data⟩],none⟩
def oPe13_5:Oper:=⟨some 48,.move (.tmp 1),25,"task.go:227",#[],none⟩
def oPe13_6:Oper:=⟨some 49,.call { callee:=.value (.func 114),args:=#[.tmp 47,.tmp 48],argTypes:=#[39,25] },39,"task.go:227",#[⟨4,.data⟩,⟨5,.data⟩],none⟩
def oPe13_7:Oper:=⟨some 50,.indexAddr 39 (.tmp 49) (.const (.int .i64 0)),0,"task.go:227",#[⟨6,.data⟩],none⟩
def oPe13_8:Oper:=⟨some 51,.load 25 (.tmp 50),25,"task.go:227",#[⟨7,.data⟩],none⟩
def oPe13_9:Oper:=⟨some 52,.fieldAddr 128 (.tmp 10) 1,0,"task.go:227",#[],none⟩
def oPe13_10:Oper:=⟨some 53,.load 39 (.tmp 52),39,"task.go:227",#[⟨9,.data⟩],none⟩
def oPe13_11:Oper:=⟨some 54,.move (.tmp 1),25,"task.go:227",#[],none⟩
def oPe13_12:Oper:=⟨some 55,.call { callee:=.value (.func 114),args:=#[.tmp 53,.tmp 54],argTypes:=#[39,25] },39,"task.go:227",#[⟨10,.data⟩,⟨11,.data⟩,⟨6,.chain⟩],none⟩
def oPe13_13:Oper:=⟨some 56,.fieldAddr 128 (.tmp 10) 2,0,"task.go:227",#[],none⟩
def oPe13_14:Oper:=⟨some 57,.load 39 (.tmp 56),39,"task.go:227",#[⟨13,.data⟩],none⟩
def oPe13_15:Oper:=⟨some 58,.move (.tmp 1),25,"task.go:227",#[],none⟩
def oPe13_16:Oper:=⟨some 59,.call { callee:=.value (.func 114),args:=#[.tmp 57,.tmp 58],argTypes:=#[39,25] },39,"task.go:227",#[⟨14,.data⟩,⟨15,.data⟩,⟨12,.chain⟩],none⟩
def oPe13_17:Oper:=⟨some 60,.build 128 #[(0,.tmp 51),(1,.tmp 55),(2,.tmp 59)],128,"task.go:227",#[⟨8,.data⟩,⟨12,.data⟩,⟨16,.data⟩],none⟩
def oPe13_18:Oper:=⟨some 61,.buildSlice 62 1 #[(0,.tmp 60)],62,"task.go:227",#[⟨17,.data⟩],none⟩
def oPe13_19:Oper:=⟨some 62,.call { callee:=.builtin .append,args:=#[.tmp 44,.tmp 61],argTypes:=#[62,62] },62,"task.go:227",#[⟨1,.data⟩,⟨18,.data⟩,⟨16,.chain⟩],none⟩
def oPe13_20:Oper:=⟨some 63,.fieldAddr 64 (.tmp 8) 3,0,"task.go:227",#[⟨0,.phase⟩,⟨1,.phase⟩,⟨2,.phase⟩,⟨3,.phase⟩,⟨4,.phase⟩,⟨5,.phase⟩,⟨6,.phase⟩,⟨7,.phase⟩,⟨8,.phase⟩,⟨9,.phase⟩,⟨10,.phase⟩,⟨11,.phase⟩,⟨12,.phase⟩,⟨13,.phase⟩,⟨14,.phase⟩,⟨15,.phase⟩,⟨16,.phase⟩,⟨17,.phase⟩,⟨18,.phase⟩,⟨19,.phase⟩],none⟩
def oPe13_21:Oper:=⟨none,.store 62 (.tmp 63) (.tmp 62),0,"task.go:227",#[⟨20,.data⟩,⟨19,.data⟩,⟨19,.chain⟩,⟨0,.phase⟩,⟨1,.phase⟩,⟨2,.phase⟩,⟨3,.phase⟩,⟨4,.phase⟩,⟨5,.phase⟩,⟨6,.phase⟩,⟨7,.phase⟩,⟨8,.phase⟩,⟨9,.phase⟩,⟨10,.phase⟩,⟨11,.phase⟩,⟨12,.phase⟩,⟨13,.phase⟩,⟨14,.phase⟩,⟨15,.phase⟩,⟨16,.phase⟩,⟨17,.phase⟩,⟨18,.phase⟩,⟨19,.phase⟩],none⟩
def opsPermute13:List Oper:=[oPe13_0,oPe13_1,oPe13_2,oPe13_3,oPe13_4,oPe13_5,oPe13_6,oPe13_7,oPe13_8,oPe13_9,oPe13_10,oPe13_11,oPe13_12,oPe13_13,oPe13_14,oPe13_15,oPe13_16,oPe13_17,oPe13_18,oPe13_19,oPe13_20,oPe13_21]
theorem regPermute13 {w:World}{x0 x2 x3 x4 x5 x6 x7 x9 x11 x12 x13 x14 x15 x16 x17 x18 x19 x20 x21 x22 x23 x24 x25 x26 x27 x28 x29 x30 x31 x32 x33 x34 x35 x36 x37 x38 x39 x40 x41 x42 x43 x44 x45 x46 x47 x48 x49 x50 x51 x52 x53 x54 x55 x56 x57 x58 x59 x60 x61 x62 x63 x64 x65 x66 x67 x68:Value}{Q:Exit→Act→World→Prop}{b8 b10 B j an uc cn ce n1 z1 n2 z2 nn:Nat}{n i o:Int}{ua ca c1 c2:Option Addr}{tv:Value}{a:List Int}{x:Cs}{xs:List Cs}
  (q8:w.heap[b8]? = some (.cells #[.int .i64 n,.int .i64 i,.int .i64 o,tv] 64)) (q10:w.heap[b10]? = some (.cells #[.slice ca cn ce,.slice c1 n1 z1,.slice c2 n2 z2] 128)) (hB8:B≤b8) (hBw:B≤w.heap.size)
  (hT:OwX 128 3 ECs w B tv j xs) (hj:j≤1000000) (hn1:1≤nn) (hn5:nn≤5) (ha:IsP nn a) (hx:x.1.length=nn∧(∀y∈x.2.1,y.length=nn)∧∀y∈x.2.2,y.length=nn) (hx1:x.2.1.length≤100000) (hx2:x.2.2.length≤100000)
  (h0:Ints w (.slice ca cn ce) x.1) (h1:Intss w (.slice c1 n1 z1) x.2.1) (h2:Intss w (.slice c2 n2 z2) x.2.2) (hu:Ints w (.slice ua an uc) a)
  (hfin:∀(y4 y6 y7 y8 y12 y16 y17 y18 y19 _y21:Value) (W:World),(((fun i=>decide (i < 22)) 19=false→Below w.heap.size w W)∧((fun i=>decide (i < 22)) 18=true→(fun i=>decide (i < 22)) 19=false→∃g u0 u1 u2,y18 = .slice (some ⟨g,0,none⟩) 1 1∧W.heap[g]? = some (.cells #[u0,u1,u2] 128)∧ECs W [u0,u1,u2] (renC a x)∧u0.oneCell'=true∧u1.oneCell'=true∧u2.oneCell'=true)∧((fun i=>decide (i < 22)) 19=true→(fun i=>decide (i < 22)) 21=false→OwX 128 3 ECs W B y19 (j+1) (xs ++ [renC a x])∧Below B w W∧W.heap[b8]? = some (.cells #[.int .i64 n,.int .i64 i,.int .i64 o,tv] 64))∧((fun i=>decide (i < 22)) 21=true→OwX 128 3 ECs W B y19 (j+1) (xs ++ [renC a x])∧Below B w W∧W.heap[b8]? = some (.cells #[.int .i64 n,.int .i64 i,.int .i64 o,y19] 64)))→(∃g,y4 = .slice (some ⟨g,0,none⟩) 1 1∧W.heap[g]? = some (.cells #[.slice ca cn ce] 25))→(OII W 0 y6 1 [movedL a x.1])→(∃g cs u,y7 = .pointer (some ⟨g,0,none⟩)∧W.heap[g]? = some (.cells cs 25)∧cs[0]? = some u∧OI W 0 u (movedL a x.1).length (movedL a x.1))→(OI W 0 y8 (movedL a x.1).length (movedL a x.1))→(OII W 0 y12 (mvAll a x.2.1).length (mvAll a x.2.1))→(OII W 0 y16 (mvAll a x.2.2).length (mvAll a x.2.2))→(∃u0 u1 u2,y17 = .agg #[u0,u1,u2]∧ECs W [u0,u1,u2] (renC a x))→(True)→(True)→(True)→Q .normal ⟨List.toArray (x0::.slice ua an uc::x2::x3::x4::x5::x6::x7::.pointer (some ⟨b8,0,none⟩)::x9::.pointer (some ⟨b10,0,none⟩)::x11::x12::x13::x14::x15::x16::x17::x18::x19::x20::x21::x22::x23::x24::x25::x26::x27::x28::x29::x30::x31::x32::x33::x34::x35::x36::x37::x38::x39::x40::x41::x42::.pointer (some ⟨b8,3,none⟩)::tv::.pointer (some ⟨b10,0,none⟩)::.slice ca cn ce::y4::.slice ua an uc::y6::y7::y8::.pointer (some ⟨b10,1,none⟩)::.slice c1 n1 z1::.slice ua an uc::y12::.pointer (some ⟨b10,2,none⟩)::.slice c2 n2 z2::.slice ua an uc::y16::y17::y18::y19::.pointer (some ⟨b8,3,none⟩)::x64::x65::x66::x67::x68::[]),[]⟩ W) :
  (Code.region 13 opsPermute13.toArray true).wp Tryz.prog Q ⟨List.toArray (x0::.slice ua an uc::x2::x3::x4::x5::x6::x7::.pointer (some ⟨b8,0,none⟩)::x9::.pointer (some ⟨b10,0,none⟩)::x11::x12::x13::x14::x15::x16::x17::x18::x19::x20::x21::x22::x23::x24::x25::x26::x27::x28::x29::x30::x31::x32::x33::x34::x35::x36::x37::x38::x39::x40::x41::x42::x43::x44::x45::x46::x47::x48::x49::x50::x51::x52::x53::x54::x55::x56::x57::x58::x59::x60::x61::x62::x63::x64::x65::x66::x67::x68::[]),[]⟩ w:=by
 obtain⟨SG,hSG⟩:=exS (StepG Tryz.prog opsPermute13.toArray (fun ys=>⟨List.toArray (x0::.slice ua an uc::x2::x3::x4::x5::x6::x7::.pointer (some ⟨b8,0,none⟩)::x9::.pointer (some ⟨b10,0,none⟩)::x11::x12::x13::x14::x15::x16::x17::x18::x19::x20::x21::x22::x23::x24::x25::x26::x27::x28::x29::x30::x31::x32::x33::x34::x35::x36::x37::x38::x39::x40::x41::x42::ys 0::ys 1::ys 2::ys 3::ys 4::ys 5::ys 6::ys 7::ys 8::ys 9::ys 10::ys 11::ys 12::ys 13::ys 14::ys 15::ys 16::ys 17::ys 18::ys 19::ys 20::x64::x65::x66::x67::x68::[]),[]⟩) [eqV (.pointer (some ⟨b8,3,none⟩)),eqV tv,eqV (.pointer (some ⟨b10,0,none⟩)),eqV (.slice ca cn ce),fun W v=>∃g,v = .slice (some ⟨g,0,none⟩) 1 1∧W.heap[g]? = some (.cells #[.slice ca cn ce] 25),eqV (.slice ua an uc),fun W v=>OII W 0 v 1 [movedL a x.1],fun W v=>∃g cs u,v = .pointer (some ⟨g,0,none⟩)∧W.heap[g]? = some (.cells cs 25)∧cs[0]? = some u∧OI W 0 u (movedL a x.1).length (movedL a x.1),fun W v=>OI W 0 v (movedL a x.1).length (movedL a x.1),eqV (.pointer (some ⟨b10,1,none⟩)),eqV (.slice c1 n1 z1),eqV (.slice ua an uc),fun W v=>OII W 0 v (mvAll a x.2.1).length (mvAll a x.2.1),eqV (.pointer (some ⟨b10,2,none⟩)),eqV (.slice c2 n2 z2),eqV (.slice ua an uc),fun W v=>OII W 0 v (mvAll a x.2.2).length (mvAll a x.2.2),fun W v=>∃u0 u1 u2,v = .agg #[u0,u1,u2]∧ECs W [u0,u1,u2] (renC a x),anyV,anyV,eqV (.pointer (some ⟨b8,3,none⟩)),anyV] (fun W W'=>KeepP W W') (fun D ys W=>(D 19=false→Below w.heap.size w W)∧(D 18=true→D 19=false→∃g u0 u1 u2,(ys 18) = .slice (some ⟨g,0,none⟩) 1 1∧W.heap[g]? = some (.cells #[u0,u1,u2] 128)∧ECs W [u0,u1,u2] (renC a x)∧u0.oneCell'=true∧u1.oneCell'=true∧u2.oneCell'=true)∧(D 19=true→D 21=false→OwX 128 3 ECs W B (ys 19) (j+1) (xs ++ [renC a x])∧Below B w W∧W.heap[b8]? = some (.cells #[.int .i64 n,.int .i64 i,.int .i64 o,tv] 64))∧(D 21=true→OwX 128 3 ECs W B (ys 19) (j+1) (xs ++ [renC a x])∧Below B w W∧W.heap[b8]? = some (.cells #[.int .i64 n,.int .i64 i,.int .i64 o,(ys 19)] 64))) Q)
 have st0:SG 0 oPe13_0:=by
  subst hSG;refine StepG.mk rfl (openY 18 fun y18=>openY 19 fun y19=>fun ys D W K _ _ _ hG hK=>?_);simp only[updG,Nat.reduceEqDiff,reduceIte] at hG⊢;unfold oPe13_0;obtain⟨g1,g2,g3,g4⟩:=hG;go_simp;exact hK _ _ (KeepP.refl _) ⟨g1,g2,g3,g4⟩ rfl
 have st1:SG 1 oPe13_1:=by
  subst hSG;refine StepG.mk rfl (openY 0 fun y0=>openY 18 fun y18=>openY 19 fun y19=>fun ys D W K hD hcl hd hG hK=>?_);have e0:y0=_:=(hd.get 0 rfl).2;subst e0;simp only[updG,Nat.reduceEqDiff,reduceIte] at hG⊢;unfold oPe13_1;obtain⟨g1,g2,g3,g4⟩:=hG;have d19:=hcl.no (j:=19) (i:=1) rfl (by kernel_rfl) hD;have hb:=g1 d19;have k8:=(hb.block b8 (Array.getElem?_eq_some_iff.1 q8).1).trans q8;obtain⟨-,-,-,p3⟩:=boxL4 k8;go_simp;exact hK _ _ (KeepP.refl _) ⟨g1,g2,g3,g4⟩ rfl
 have st2:SG 2 oPe13_2:=by
  subst hSG;refine StepG.mk rfl (openY 18 fun y18=>openY 19 fun y19=>fun ys D W K _ _ _ hG hK=>?_);simp only[updG,Nat.reduceEqDiff,reduceIte] at hG⊢;unfold oPe13_2;obtain⟨g1,g2,g3,g4⟩:=hG;go_simp;exact hK _ _ (KeepP.refl _) ⟨g1,g2,g3,g4⟩ rfl
 have st3:SG 3 oPe13_3:=by
  subst hSG;refine StepG.mk rfl (openY 2 fun y2=>openY 18 fun y18=>openY 19 fun y19=>fun ys D W K hD hcl hd hG hK=>?_);have e2:y2=_:=(hd.get 2 rfl).2;subst e2;simp only[updG,Nat.reduceEqDiff,reduceIte] at hG⊢;unfold oPe13_3;obtain⟨g1,g2,g3,g4⟩:=hG;have d4:=hcl.no (j:=4) (i:=3) rfl (by kernel_rfl) hD;have d6:=hcl.no (j:=6) (i:=4) rfl (by kernel_rfl) d4;have d12:=hcl.no (j:=12) (i:=6) rfl (by kernel_rfl) d6;have d16:=hcl.no (j:=16) (i:=12) rfl (by kernel_rfl) d12;have d19:=hcl.no (j:=19) (i:=16) rfl (by kernel_rfl) d16;have hb:=g1 d19;have k10:=(hb.block b10 (Array.getElem?_eq_some_iff.1 q10).1).trans q10;obtain⟨p0,-,-⟩:=boxL3 k10;go_simp;exact hK _ _ (KeepP.refl _) ⟨g1,g2,g3,g4⟩ rfl
 have st4:SG 4 oPe13_4:=by
  subst hSG;refine StepG.mk rfl (openY 3 fun y3=>openY 18 fun y18=>openY 19 fun y19=>fun ys D W K hD hcl hd hG hK=>?_);have e3:y3=_:=(hd.get 3 rfl).2;subst e3;simp only[updG,Nat.reduceEqDiff,reduceIte] at hG⊢;unfold oPe13_4;obtain⟨g1,g2,g3,g4⟩:=hG;have d6:=hcl.no (j:=6) (i:=4) rfl (by kernel_rfl) hD;have d12:=hcl.no (j:=12) (i:=6) rfl (by kernel_rfl) d6;have d16:=hcl.no (j:=16) (i:=12) rfl (by kernel_rfl) d12;have d17:=hcl.no (j:=17) (i:=16) rfl (by kernel_rfl) d16;have d18:=hcl.no (j:=18) (i:=17) rfl (by kernel_rfl) d17;have d19:=hcl.no (j:=19) (i:=16) rfl (by kernel_rfl) d16;have d21:=hcl.no (j:=21) (i:=4) rfl (by kernel_rfl) hD;clear g2 g3 g4;have hb:=g1 d19;have hba:=(Below.refl W.heap.size W).alloc (Nat.le_refl _) (.cells #[.slice ca cn ce] 25);go_simp;exact hK _ _ (KeepP.below hba) ⟨fun _=>btt hb hba,fun h=>(by rw[show addG D 4 18=D 18 from rfl,d18] at h;cases h),fun h=>(by rw[show addG D 4 19=D 19 from rfl,d19] at h;cases h),fun h=>(by rw[show addG D 4 21=D 21 from rfl,d21] at h;cases h)⟩ ⟨_,rfl,heap_alloc_new _ _⟩
 have st5:SG 5 oPe13_5:=by
  subst hSG;refine StepG.mk rfl (openY 18 fun y18=>openY 19 fun y19=>fun ys D W K _ _ _ hG hK=>?_);simp only[updG,Nat.reduceEqDiff,reduceIte] at hG⊢;unfold oPe13_5;obtain⟨g1,g2,g3,g4⟩:=hG;go_simp;exact hK _ _ (KeepP.refl _) ⟨g1,g2,g3,g4⟩ rfl
 have st6:SG 6 oPe13_6:=by
  subst hSG;refine StepG.mk rfl (openY 4 fun y4=>openY 5 fun y5=>openY 18 fun y18=>openY 19 fun y19=>fun ys D W K hD hcl hd hG hK=>?_);obtain⟨d4,e4⟩:D 4=true∧(∃g,y4 = .slice (some ⟨g,0,none⟩) 1 1∧W.heap[g]? = some (.cells #[.slice ca cn ce] 25)):=hd.get 4 rfl;have e5:y5=_:=(hd.get 5 rfl).2;subst e5;simp only[updG,Nat.reduceEqDiff,reduceIte] at hG⊢;unfold oPe13_6;obtain⟨g1,g2,g3,g4⟩:=hG;have d12:=hcl.no (j:=12) (i:=6) rfl (by kernel_rfl) hD;have d16:=hcl.no (j:=16) (i:=12) rfl (by kernel_rfl) d12;have d17:=hcl.no (j:=17) (i:=16) rfl (by kernel_rfl) d16;have d18:=hcl.no (j:=18) (i:=17) rfl (by kernel_rfl) d17;have d19:=hcl.no (j:=19) (i:=16) rfl (by kernel_rfl) d16;have d21:=hcl.no (j:=21) (i:=6) rfl (by kernel_rfl) hD;have hb:=g1 d19;obtain⟨g,rfl,hg⟩:=e4;have HM:=movedC (a:=a) (l:=[x.1]) hn1 hn5 ha (fun y hy=>by obtain rfl:=List.mem_singleton.1 hy;exact hx.1) (show 1≤100000 by decide) (intss1 hg (h0.keep hb)) (hu.keep hb);go_simp;refine HM.mono ?_;rintro e W9 ⟨r,rfl,hr,hb9⟩;exact hK _ _ (KeepP.below hb9) ⟨fun _=>btt hb hb9,fun h=>(by rw[show addG D 6 18=D 18 from rfl,d18] at h;cases h),fun h=>(by rw[show addG D 6 19=D 19 from rfl,d19] at h;cases h),fun h=>(by rw[show addG D 6 21=D 21 from rfl,d21] at h;cases h)⟩ (by rw[mvAll_one] at hr;exact hr.base (Nat.zero_le _))
 have st7:SG 7 oPe13_7:=by
  subst hSG;refine StepG.mk rfl (openY 6 fun y6=>openY 18 fun y18=>openY 19 fun y19=>fun ys D W K _ _ hd hG hK=>?_);obtain⟨d6,e6⟩:D 6=true∧(OII W 0 y6 1 [movedL a x.1]):=hd.get 6 rfl;simp only[updG,Nat.reduceEqDiff,reduceIte] at hG⊢;unfold oPe13_7;obtain⟨g1,g2,g3,g4⟩:=hG;obtain⟨g,c,cs,u,rfl,e1,e2,e3⟩:=OII.at0 e6;go_simp;exact hK _ _ (KeepP.refl _) ⟨g1,g2,g3,g4⟩ ⟨g,cs,u,rfl,e1,e2,e3⟩
 have st8:SG 8 oPe13_8:=by
  subst hSG;refine StepG.mk rfl (openY 7 fun y7=>openY 18 fun y18=>openY 19 fun y19=>fun ys D W K _ _ hd hG hK=>?_);obtain⟨d7,e7⟩:D 7=true∧(∃g cs u,y7 = .pointer (some ⟨g,0,none⟩)∧W.heap[g]? = some (.cells cs 25)∧cs[0]? = some u∧OI W 0 u (movedL a x.1).length (movedL a x.1)):=hd.get 7 rfl;simp only[updG,Nat.reduceEqDiff,reduceIte] at hG⊢;unfold oPe13_8;obtain⟨g1,g2,g3,g4⟩:=hG;obtain⟨g,cs,u,rfl,e1,e2,e3⟩:=e7;have p0:W.cell? ⟨g,0,none⟩=some u:=by rw[cell_of_row _ _ 0 _ _ _ e1];exact e2
  go_simp;exact hK _ _ (KeepP.refl _) ⟨g1,g2,g3,g4⟩ e3
 have st9:SG 9 oPe13_9:=by
  subst hSG;refine StepG.mk rfl (openY 18 fun y18=>openY 19 fun y19=>fun ys D W K _ _ _ hG hK=>?_);simp only[updG,Nat.reduceEqDiff,reduceIte] at hG⊢;unfold oPe13_9;obtain⟨g1,g2,g3,g4⟩:=hG;go_simp;exact hK _ _ (KeepP.refl _) ⟨g1,g2,g3,g4⟩ rfl
 have st10:SG 10 oPe13_10:=by
  subst hSG;refine StepG.mk rfl (openY 9 fun y9=>openY 18 fun y18=>openY 19 fun y19=>fun ys D W K hD hcl hd hG hK=>?_);have e9:y9=_:=(hd.get 9 rfl).2;subst e9;simp only[updG,Nat.reduceEqDiff,reduceIte] at hG⊢;unfold oPe13_10;obtain⟨g1,g2,g3,g4⟩:=hG;have d12:=hcl.no (j:=12) (i:=10) rfl (by kernel_rfl) hD;have d16:=hcl.no (j:=16) (i:=12) rfl (by kernel_rfl) d12;have d19:=hcl.no (j:=19) (i:=16) rfl (by kernel_rfl) d16;have hb:=g1 d19;have k10:=(hb.block b10 (Array.getElem?_eq_some_iff.1 q10).1).trans q10;obtain⟨-,p1,-⟩:=boxL3 k10;go_simp;exact hK _ _ (KeepP.refl _) ⟨g1,g2,g3,g4⟩ rfl
 have st11:SG 11 oPe13_11:=by
  subst hSG;refine StepG.mk rfl (openY 18 fun y18=>openY 19 fun y19=>fun ys D W K _ _ _ hG hK=>?_);simp only[updG,Nat.reduceEqDiff,reduceIte] at hG⊢;unfold oPe13_11;obtain⟨g1,g2,g3,g4⟩:=hG;go_simp;exact hK _ _ (KeepP.refl _) ⟨g1,g2,g3,g4⟩ rfl
 have st12:SG 12 oPe13_12:=by
  subst hSG;refine StepG.mk rfl (openY 10 fun y10=>openY 11 fun y11=>openY 18 fun y18=>openY 19 fun y19=>fun ys D W K hD hcl hd hG hK=>?_);have e10:y10=_:=(hd.get 10 rfl).2;have e11:y11=_:=(hd.get 11 rfl).2;subst e10 e11;simp only[updG,Nat.reduceEqDiff,reduceIte] at hG⊢;unfold oPe13_12;obtain⟨g1,g2,g3,g4⟩:=hG;have d16:=hcl.no (j:=16) (i:=12) rfl (by kernel_rfl) hD;have d17:=hcl.no (j:=17) (i:=16) rfl (by kernel_rfl) d16;have d18:=hcl.no (j:=18) (i:=17) rfl (by kernel_rfl) d17;have d19:=hcl.no (j:=19) (i:=16) rfl (by kernel_rfl) d16;have d21:=hcl.no (j:=21) (i:=12) rfl (by kernel_rfl) hD;have hb:=g1 d19;have HM:=movedC (a:=a) hn1 hn5 ha hx.2.1 hx1 (h1.keep hb) (hu.keep hb);go_simp;refine HM.mono ?_;rintro e W9 ⟨r,rfl,hr,hb9⟩;exact hK _ _ (KeepP.below hb9) ⟨fun _=>btt hb hb9,fun h=>(by rw[show addG D 12 18=D 18 from rfl,d18] at h;cases h),fun h=>(by rw[show addG D 12 19=D 19 from rfl,d19] at h;cases h),fun h=>(by rw[show addG D 12 21=D 21 from rfl,d21] at h;cases h)⟩ (hr.base (Nat.zero_le _))
 have st13:SG 13 oPe13_13:=by
  subst hSG;refine StepG.mk rfl (openY 18 fun y18=>openY 19 fun y19=>fun ys D W K _ _ _ hG hK=>?_);simp only[updG,Nat.reduceEqDiff,reduceIte] at hG⊢;unfold oPe13_13;obtain⟨g1,g2,g3,g4⟩:=hG;go_simp;exact hK _ _ (KeepP.refl _) ⟨g1,g2,g3,g4⟩ rfl
 have st14:SG 14 oPe13_14:=by
  subst hSG;refine StepG.mk rfl (openY 13 fun y13=>openY 18 fun y18=>openY 19 fun y19=>fun ys D W K hD hcl hd hG hK=>?_);have e13:y13=_:=(hd.get 13 rfl).2;subst e13;simp only[updG,Nat.reduceEqDiff,reduceIte] at hG⊢;unfold oPe13_14;obtain⟨g1,g2,g3,g4⟩:=hG;have d16:=hcl.no (j:=16) (i:=14) rfl (by kernel_rfl) hD;have d19:=hcl.no (j:=19) (i:=16) rfl (by kernel_rfl) d16;have hb:=g1 d19;have k10:=(hb.block b10 (Array.getElem?_eq_some_iff.1 q10).1).trans q10;obtain⟨-,-,p2⟩:=boxL3 k10;go_simp;exact hK _ _ (KeepP.refl _) ⟨g1,g2,g3,g4⟩ rfl
 have st15:SG 15 oPe13_15:=by
  subst hSG;refine StepG.mk rfl (openY 18 fun y18=>openY 19 fun y19=>fun ys D W K _ _ _ hG hK=>?_);simp only[updG,Nat.reduceEqDiff,reduceIte] at hG⊢;unfold oPe13_15;obtain⟨g1,g2,g3,g4⟩:=hG;go_simp;exact hK _ _ (KeepP.refl _) ⟨g1,g2,g3,g4⟩ rfl
 have st16:SG 16 oPe13_16:=by
  subst hSG;refine StepG.mk rfl (openY 14 fun y14=>openY 15 fun y15=>openY 18 fun y18=>openY 19 fun y19=>fun ys D W K hD hcl hd hG hK=>?_);have e14:y14=_:=(hd.get 14 rfl).2;have e15:y15=_:=(hd.get 15 rfl).2;subst e14 e15;simp only[updG,Nat.reduceEqDiff,reduceIte] at hG⊢;unfold oPe13_16;obtain⟨g1,g2,g3,g4⟩:=hG;have d17:=hcl.no (j:=17) (i:=16) rfl (by kernel_rfl) hD;have d18:=hcl.no (j:=18) (i:=17) rfl (by kernel_rfl) d17;have d19:=hcl.no (j:=19) (i:=16) rfl (by kernel_rfl) hD;have d21:=hcl.no (j:=21) (i:=16) rfl (by kernel_rfl) hD;have hb:=g1 d19;have HM:=movedC (a:=a) hn1 hn5 ha hx.2.2 hx2 (h2.keep hb) (hu.keep hb);go_simp;refine HM.mono ?_;rintro e W9 ⟨r,rfl,hr,hb9⟩;exact hK _ _ (KeepP.below hb9) ⟨fun _=>btt hb hb9,fun h=>(by rw[show addG D 16 18=D 18 from rfl,d18] at h;cases h),fun h=>(by rw[show addG D 16 19=D 19 from rfl,d19] at h;cases h),fun h=>(by rw[show addG D 16 21=D 21 from rfl,d21] at h;cases h)⟩ (hr.base (Nat.zero_le _))
 have st17:SG 17 oPe13_17:=by
  subst hSG;refine StepG.mk rfl (openY 8 fun y8=>openY 12 fun y12=>openY 16 fun y16=>openY 18 fun y18=>openY 19 fun y19=>fun ys D W K _ _ hd hG hK=>?_);obtain⟨d8,e8⟩:D 8=true∧(OI W 0 y8 (movedL a x.1).length (movedL a x.1)):=hd.get 8 rfl;obtain⟨d12,e12⟩:D 12=true∧(OII W 0 y12 (mvAll a x.2.1).length (mvAll a x.2.1)):=hd.get 12 rfl;obtain⟨d16,e16⟩:D 16=true∧(OII W 0 y16 (mvAll a x.2.2).length (mvAll a x.2.2)):=hd.get 16 rfl;simp only[updG,Nat.reduceEqDiff,reduceIte] at hG⊢;unfold oPe13_17;obtain⟨g1,g2,g3,g4⟩:=hG;obtain⟨_,_,rfl⟩:=e8.shape;obtain⟨_,_,rfl⟩:=e12.shape;obtain⟨_,_,rfl⟩:=e16.shape;have hl:(movedL a x.1).length≤1000:=by rw[movedL_length,ha.1];omega
  go_simp;exact hK _ _ (KeepP.refl _) ⟨g1,g2,g3,g4⟩ ⟨_,_,_,rfl,_,_,_,rfl,e8,e12,e16,hl⟩
 have st18:SG 18 oPe13_18:=by
  subst hSG;refine StepG.mk rfl (openY 17 fun y17=>openY 18 fun y18=>openY 19 fun y19=>fun ys D W K hD hcl hd hG hK=>?_);obtain⟨d17,e17⟩:D 17=true∧(∃u0 u1 u2,y17 = .agg #[u0,u1,u2]∧ECs W [u0,u1,u2] (renC a x)):=hd.get 17 rfl;simp only[updG,Nat.reduceEqDiff,reduceIte] at hG⊢;unfold oPe13_18;obtain⟨g1,g2,g3,g4⟩:=hG;have d19:=hcl.no (j:=19) (i:=18) rfl (by kernel_rfl) hD;have d21:=hcl.no (j:=21) (i:=18) rfl (by kernel_rfl) hD;have hb:=g1 d19;obtain⟨u0,u1,u2,rfl,h⟩:=e17;have hcp:=h;obtain⟨_,_,_,hq,z0,z1,z2,_⟩:=hcp;injection hq with hq0 hq;injection hq with hq1 hq;injection hq with hq2 _;subst hq0 hq1 hq2;have o0:=OI.one z0;have o1:u1.oneCell'=true:=by obtain⟨_,_,rfl⟩:=z1.shape;rfl
  have o2:u2.oneCell'=true:=by obtain⟨_,_,rfl⟩:=z2.shape;rfl
  clear z0 z1 z2 g2 g3 g4;have hba:=(Below.refl W.heap.size W).alloc (Nat.le_refl _) (.cells #[u0,u1,u2] 128);go_simp;exact hK _ _ (KeepP.below hba) ⟨fun _=>btt hb hba,fun _ _=>⟨_,u0,u1,u2,rfl,heap_alloc_new _ _,h.keepP (KeepP.below hba),o0,o1,o2⟩,fun h=>(by rw[show addG D 18 19=D 19 from rfl,d19] at h;cases h),fun h=>(by rw[show addG D 18 21=D 21 from rfl,d21] at h;cases h)⟩ trivial
 have st19:SG 19 oPe13_19:=by
  subst hSG;refine StepG.mk rfl (openY 1 fun y1=>openY 18 fun y18=>openY 19 fun y19=>fun ys D W K hD hcl hd hG hK=>?_);have e1:y1=_:=(hd.get 1 rfl).2;have d18:=(hd.get 18 rfl).1;subst e1;simp only[updG,Nat.reduceEqDiff,reduceIte] at hG⊢;unfold oPe13_19;obtain⟨g1,g2,g3,g4⟩:=hG;have d21:=hcl.no (j:=21) (i:=19) rfl (by kernel_rfl) hD;have hb:=g1 hD;have k8:=(hb.block b8 (Array.getElem?_eq_some_iff.1 q8).1).trans q8;obtain⟨g,u0,u1,u2,rfl,hg,hE,o0,o1,o2⟩:=g2 d18 hD;obtain⟨p0,p1,p2⟩:=boxL3 hg;clear g2 g3 g4;refine wp_appX elemCs (by decide) (by decide) ECs.stab (cs:=[u0,u1,u2]) (x:=renC a x) (.tmp 44) (.tmp 61) rfl rfl (hT.keep ECs.stab hb) ⟨g,0,none⟩ 1 rfl rfl ?_ ?_ hE (by omega) (Nat.le_trans hBw hb.size) ?_
  ·intro q u hq;match q,hq with
   | 0,hq=>injection hq with hq;subst hq;exact p0
   | 1,hq=>injection hq with hq;subst hq;exact p1
   | 2,hq=>injection hq with hq;subst hq;exact p2
  ·intro u hu;simp only[List.mem_cons,List.not_mem_nil,or_false] at hu;rcases hu with rfl|rfl|rfl<;>assumption
  intro v' W9 m1 m2 m3 m4 m5;exact hK _ _ (KeepP.ofX m5) ⟨fun h=>(by cases h),fun _ h=>(by cases h),fun _ _=>⟨m1,(hb.mono hBw).trans m4,(m5 b8 _ _ k8 (by decide)).trans k8⟩,fun h=>(by rw[show addG D 19 21=D 21 from rfl,d21] at h;cases h)⟩ trivial
 have st20:SG 20 oPe13_20:=by
  subst hSG;refine StepG.mk rfl (openY 18 fun y18=>openY 19 fun y19=>fun ys D W K _ _ _ hG hK=>?_);simp only[updG,Nat.reduceEqDiff,reduceIte] at hG⊢;unfold oPe13_20;obtain⟨g1,g2,g3,g4⟩:=hG;go_simp;exact hK _ _ (KeepP.refl _) ⟨g1,g2,g3,g4⟩ rfl
 have st21:SG 21 oPe13_21:=by
  subst hSG;refine StepG.mk rfl (openY 20 fun y20=>openY 18 fun y18=>openY 19 fun y19=>fun ys D W K hD _ hd hG hK=>?_);have e20:y20=_:=(hd.get 20 rfl).2;have d19:=(hd.get 19 rfl).1;subst e20;simp only[updG,Nat.reduceEqDiff,reduceIte] at hG⊢;unfold oPe13_21;obtain⟨g1,g2,g3,g4⟩:=hG;obtain⟨m1,m2,m3⟩:=g3 d19 hD;obtain⟨ya,yc,hy⟩:=m1.shape;subst hy;obtain⟨-,-,-,p3⟩:=boxL4 m3;obtain⟨-,-,-,f3⟩:=freeL4 m3;clear g1 g2 g3 g4;have s3:(W.setCell ⟨b8,3,none⟩ (.slice ya (j+1) yc)).heap[b8]? = some (.cells #[.int .i64 n,.int .i64 i,.int .i64 o,.slice ya (j+1) yc] 64):=heap_setCell_same W b8 3 _ _ (.slice ya (j+1) yc) m3;have hke:KeepX 64 W (W.setCell ⟨b8,3,none⟩ (.slice ya (j+1) yc)):=fun k cs t hk ht=>Below.heap_setCell W ⟨b8,3,none⟩ _ k (fun e=>by have e:k=b8:=e;subst e;rw[m3] at hk;injection hk with hk;injection hk with _ hk;exact ht hk.symm);have m1:=OwX.other (E:=128) (E':=64) ECs.stabT m1 (by decide) hke;have hbs:Below B w (W.setCell ⟨b8,3,none⟩ (.slice ya (j+1) yc)):=m2.setCell (p:=⟨b8,3,none⟩) hB8 (.slice ya (j+1) yc);go_simp;exact hK undef _ (fun k cs t hk h1 h2=>hke k cs t hk h2) ⟨fun h=>(by have:=h.symm.trans (show addG D 21 19=true from d19);cases this),fun _ h=>(by have:=h.symm.trans (show addG D 21 19=true from d19);cases this),fun _ h=>(by cases h),fun _=>⟨m1,hbs,s3⟩⟩ trivial
 subst hSG;refine wp_region_sg (l:=opsPermute13) ⟨st0,st1,st2,st3,st4,st5,st6,st7,st8,st9,st10,st11,st12,st13,st14,st15,st16,st17,st18,st19,st20,st21,trivial⟩ (fun i=>([x43,x44,x45,x46,x47,x48,x49,x50,x51,x52,x53,x54,x55,x56,x57,x58,x59,x60,x61,x62,x63,undef]:List Value).getD i undef) (by kernel_rfl) (by kernel_rfl) ⟨sE,sE,sE,sE,fun W W' v ⟨g,e,h⟩ r=>⟨g,e,(r g _ _ h (by decide) (by decide)).trans h⟩,sE,fun W W' v h r=>OII.keepP h r,fun W W' v ⟨g,cs,u,e,h,h1,h2⟩ r=>⟨g,cs,u,e,(r g _ _ h (by decide) (by decide)).trans h,h1,OI.keepP h2 r⟩,fun W W' v h r=>OI.keepP h r,sE,sE,sE,fun W W' v h r=>OII.keepP h r,sE,sE,sE,fun W W' v h r=>OII.keepP h r,fun W W' v ⟨u0,u1,u2,e,h⟩ r=>⟨u0,u1,u2,e,ECs.keepP h r⟩,fun _ _ _ h _=>h,fun _ _ _ h _=>h,sE,fun _ _ _ h _=>h,trivial⟩ ?g0 ?gx ?fin
 case g0=>exact⟨fun _=>below_drewN (Below.refl w.heap.size w) 1,fun h=>(by cases h),fun h=>(by cases h),fun h=>by cases h⟩
 case gx=>exact fun D D' _ W h ⟨h1,h2,h3,h4⟩=>⟨fun q=>h1 ((h 19 (by decide)).trans q),fun q q'=>h2 ((h 18 (by decide)).trans q) ((h 19 (by decide)).trans q'),fun q q'=>h3 ((h 19 (by decide)).trans q) ((h 21 (by decide)).trans q'),fun q=>h4 ((h 21 (by decide)).trans q)⟩
 case fin=>
  intro ys W hG hp;try dsimp only
  rw[(hp 0 (by decide):ys 0=_),(hp 1 (by decide):ys 1=_),(hp 2 (by decide):ys 2=_),(hp 3 (by decide):ys 3=_),(hp 5 (by decide):ys 5=_),(hp 9 (by decide):ys 9=_),(hp 10 (by decide):ys 10=_),(hp 11 (by decide):ys 11=_),(hp 13 (by decide):ys 13=_),(hp 14 (by decide):ys 14=_),(hp 15 (by decide):ys 15=_),(hp 20 (by decide):ys 20=_)];exact hfin (ys 4) (ys 6) (ys 7) (ys 8) (ys 12) (ys 16) (ys 17) (ys 18) (ys 19) (ys 21) W hG (hp 4 (by decide)) (hp 6 (by decide)) (hp 7 (by decide)) (hp 8 (by decide)) (hp 12 (by decide)) (hp 16 (by decide)) (hp 17 (by decide)) (hp 18 (by decide)) (hp 19 (by decide)) (hp 21 (by decide))
theorem getD_map_ren {a:List Int}{cs:List Cs}{j:Nat}(h:j < cs.length):(cs.map (renC a)).getD j csNil=renC a (cs.getD j csNil):=by
 rw[getD_eq (by rw[List.length_map];exact h),List.getElem_map,getD_eq h]
def TskO (w:World) (r:Value) (n ins outs:Int) (cs:List Cs):Prop:=∃sv,r = .agg #[.int .i64 n,.int .i64 ins,.int .i64 outs,sv]∧OwX 128 3 ECs w 0 sv cs.length cs∧∀w' v',OwX 128 3 ECs w' 0 v' cs.length cs→CsS w' v' cs
theorem TskO.keep {w w':World}{r:Value}{n ins outs:Int}{cs:List Cs}(h:TskO w r n ins outs cs) (hb:Below w.heap.size w w'):TskO w' r n ins outs cs:=by
 obtain⟨sv,h1,h2,h3⟩:=h;exact⟨sv,h1,h2.keep ECs.stab hb,h3⟩
theorem permuteTaskO {w:World}{v u:Value}{n:Nat}{ins outs:Int}{cs:List Cs}{a:List Int}(hT:TaskV w v (n:Int) ins outs cs) (hz:chkT (n:Int) ins outs cs=0) (hcm:∀c∈cs,c.2.2.length≤100000) (ha:IsP n a) (hu:Ints w u a) :
  Calls Tryz.prog 77 #[v,u] w fun e w'=>∃r,e = .returned (.tuple #[r,.int .i64 0])∧TaskV w' r (n:Int) ins outs (renT a cs)∧TskO w' r (n:Int) ins outs (renT a cs)∧Below w.heap.size w w':=by
 have hOK:=TskOK.of hz;have h1:=hOK.n1;have h5:=hOK.n5;have hca:=chk_of h1 h5 ha;have HT:=qH (fun W (hb:Below w.heap.size w W)=>checkT (hT.keep hb));rw[hz] at HT;have HP:=qH (fun W (hb:Below w.heap.size w W)=>check (hu.keep hb));rw[hca] at HP;obtain⟨sv,rfl,hS⟩:=hT;obtain⟨sa,sc,rfl⟩:=hS.shape;obtain⟨ua,uc,rfl⟩:=hu.shape;have han:a.length=n:=ha.1;have hah:=qH ha;have huh:=qH hu;have hsl:=hOK.short;have hlen:=qH hOK.len;have hou:=qH hOK.outs;replace hcm:=qH hcm;have hOKh:=qH hOK;obtain⟨tb,toff,rfl,hCC⟩:=hS.at (by omega);have hCCh:=qH hCC;obtain⟨M,hM⟩:=exE (cs.map (renC a));have hMl:Hid (M.length=cs.length):=by rw[←hM,List.length_map];exact rfl
 have hMi:Hid (∀j,j < cs.length→M.getD j csNil=renC a (cs.getD j csNil)):=fun j hj=>by rw[←hM,getD_map_ren hj]
 have hR:Hid (∀m:List Cs,m.Perm M→m.Pairwise (fun a b=>¬cmpC b a < 0)→m=renT a cs):=fun m hp hs=>renT_of hOK ha (by rw[hM];exact hp) hs
 have hRl:Hid (∀x∈renT a cs,x.2.1.length≤1000000∧x.2.2.length≤1000000∧(∀y∈x.2.1,y.length≤1000)∧∀y∈x.2.2,y.length≤1000):=fun x hx=>by
  obtain⟨c,hc,rfl⟩:=List.mem_map.1 ((srtB_mem weakC _).1 hx);have ho:=hou.out c hc;have hm:=hcm.out c hc
  have hmv:∀l:List (List Int),∀y∈mvAll a l,y.length≤1000:=fun l y hy=>by
   obtain⟨z,_,rfl⟩:=List.mem_map.1 ((srtB_mem weakL _).1 hy);rw[movedL_length,han];omega
  exact⟨by show(mvAll a c.2.1).length≤_;rw[mvAll_len];omega,by show(mvAll a c.2.2).length≤_;rw[mvAll_len];omega,hmv _,hmv _⟩
 replace hM:=qH hM;obtain⟨W1,hW1⟩:=exF ((w.alloc (.cells #[.int .i64 (n:Int),.int .i64 ins,.int .i64 outs,.slice (some ⟨tb,toff,none⟩) cs.length sc] 64)).alloc (.cells #[.int .i64 0,.int .i64 0,.int .i64 0,.slice none 0 0] 64));have hb1:Below w.heap.size w W1:=by rw[hW1];exact((Below.refl _ _).alloc (Nat.le_refl _) _).alloc (by simp) _
 have m0:W1.heap[w.heap.size]? = some (.cells #[.int .i64 (n:Int),.int .i64 ins,.int .i64 outs,.slice (some ⟨tb,toff,none⟩) cs.length sc] 64):=by rw[hW1];exact(Below.heap_alloc _ _ _ (by simp)).trans (heap_alloc_new _ _)
 have m1:W1.heap[w.heap.size+1]? = some (.cells #[.int .i64 0,.int .i64 0,.int .i64 0,.slice none 0 0] 64):=by
  have h:=heap_alloc_new (w.alloc (.cells #[.int .i64 (n:Int),.int .i64 ins,.int .i64 outs,.slice (some ⟨tb,toff,none⟩) cs.length sc] 64)) (.cells #[.int .i64 0,.int .i64 0,.int .i64 0,.slice none 0 0] 64);rw[World.size_alloc] at h;rw[hW1];exact h
 have HK:=qH (fun W (hb:Below W1.heap.size W1 W)=>keep4 hb (box4' m0));obtain⟨p0,p1,p2,p3⟩:=HK.out W1 (Below.refl _ _);have hanI:((a.length:Int) != (n:Int))=false:=by rw[han];simp
 replace han:=qH han;replace h1:=qH h1;replace h5:=qH h5;replace hsl:=qH hsl;clear hS hCC hu ha hOK hca hz m0;go_enter Tryz.func77, Tryz.ntmps77
 go_wp2_with fail
 rw[←hW1];replace hW1:=qH hW1;refine(HT.out _ hb1).mono ?_;rintro e w2 ⟨rfl,hb2⟩;have hw2:=bt hb1 hb2 hb1.size;clear p0 p1 p2 p3;obtain⟨p0,p1,p2,p3⟩:=HK.out w2 hb2;go_wp2_with fail
 refine(HP.out _ hw2).mono ?_;rintro e w3 ⟨rfl,hb3⟩;have hw3:=bt hw2 hb3 hw2.size;have hb13:=btt hb2 hb3;clear p0 p1 p2 p3 HT HP;obtain⟨p0,p1,p2,-⟩:=HK.out w3 hb13;obtain⟨W4,hW4⟩:=exF (w3.alloc (.cells #[.int .i64 (n:Int),.int .i64 ins,.int .i64 outs,.slice none 0 0] 64));have hb4:Below w3.heap.size w3 W4:=by rw[hW4];exact(Below.refl _ _).alloc (Nat.le_refl _) _
 have m4:W4.heap[w3.heap.size]? = some (.cells #[.int .i64 (n:Int),.int .i64 ins,.int .i64 outs,.slice none 0 0] 64):=by rw[hW4];exact heap_alloc_new _ _
 have hsz4:Hid (w3.heap.size+1=W4.heap.size):=by rw[hW4,World.size_alloc];exact rfl
 obtain⟨-,-,-,p3⟩:=HK.out W4 (btt hb13 hb4);rw[hW4] at p3;have ho4:OwX 128 3 ECs W4 w3.heap.size (.slice none 0 0) 0 (M.take 0):=OwX.nil _ _;go_wp2_with fail
 rw[←hW4];replace hW4:=qH hW4
 go_loopw [39] (fun jv wr=>∃(j:Nat) (tv:Value),jv = .int .i64 (j:Int)∧j≤cs.length∧Hid (Below w3.heap.size w3 wr)∧wr.heap[w3.heap.size]? = some (.cells #[.int .i64 (n:Int),.int .i64 ins,.int .i64 outs,tv] 64)∧
  OwX 128 3 ECs wr w3.heap.size tv j (M.take j)∧w3.heap.size≤wr.heap.size) (fun jv _=>cs.length - (intOf jv).toNat)
 case atStart=>exact⟨0,_,rfl,Nat.zero_le _,hb4,m4,ho4,by rw[←hsz4.out];omega⟩
 case round=>
  clear m4 ho4 p0 p1 p2 p3 hb4;obtain⟨j,tv,rfl,hj,hb,c8,ho,hsz⟩:=hrel;by_cases hlt:j < cs.length
  ·have hltI:(j:Int) < (cs.length:Int):=(by omega);obtain⟨u0,u1,u2,k0,k1,k2,i0,i1,i2⟩:=hCCh.out j hlt;obtain⟨x,hx⟩:=exE (cs.getD j csNil);have hxm:x∈cs:=(by rw[←hx];exact getD_mem hlt);have hbw:=bt hw3 hb.out hw3.size;rw[hx] at i0 i1 i2;obtain⟨a0,b0,rfl⟩:=i0.shape;obtain⟨a1,b1,rfl⟩:=i1.shape;obtain⟨a2,b2,rfl⟩:=i2.shape;replace k0:=cell_kept hbw k0;replace k1:=cell_kept hbw k1;replace k2:=cell_kept hbw k2;obtain⟨W5,hW5⟩:=exF (wr.alloc (.cells #[.slice a0 x.1.length b0,.slice a1 x.2.1.length b1,.slice a2 x.2.2.length b2] 128));have hb5:Below wr.heap.size wr W5:=(by rw[hW5];exact(Below.refl _ _).alloc (Nat.le_refl _) _);have m5:W5.heap[wr.heap.size]? = some (.cells #[.slice a0 x.1.length b0,.slice a1 x.2.1.length b1,.slice a2 x.2.2.length b2] 128):=(by rw[hW5];exact heap_alloc_new _ _);have hb5w:=bt hbw hb5 hbw.size;have c85:=(hb5.block _ (Array.getElem?_eq_some_iff.1 c8).1).trans c8;have ho5:=ho.keep ECs.stab hb5;have hstep:Hid (M.take (j+1)=M.take j ++ [renC a x]):=(by show _=_;rw[take_snoc (by rw[hMl.out];exact hlt) csNil,hMi.out j hlt,hx]);have hj6:Hid (j≤1000000):=(by show _≤_;have:=hsl.out;omega);have hh:=qH (And.intro c85 (And.intro m5 (And.intro ho5 (And.intro (i0.keep hb5w) (And.intro (i1.keep hb5w) (And.intro (i2.keep hb5w) (huh.out.keep hb5w)))))));have hs5:Hid (w3.heap.size≤W5.heap.size):=Nat.le_trans hsz hb5.size;have hbw5:=qH (hb.out.trans (hb5.mono hb.out.size));have hfx:=qH (And.intro (hlen.out x hxm) (And.intro (Nat.le_trans (hou.out x hxm) (show 1024≤100000 by decide)) (hcm.out x hxm)));clear hxm hx i0 i1 i2 hbw hb5w c85 m5 ho5 ho c8 hb5;go_upto_region 13 with fail
   rw[←hW5];obtain⟨c85,m5,ho5,i0,i1,i2,i3⟩:=hh.out;refine regPermute13 (b8:=w3.heap.size) (b10:=wr.heap.size) (B:=w3.heap.size) (j:=j) (nn:=n) (n:=(n:Int)) (i:=ins) (o:=outs) (a:=a) (x:=x) (xs:=M.take j) c85 m5 (Nat.le_refl _) hs5.out ho5 hj6.out h1.out h5.out hah.out hfx.out.1 hfx.out.2.1 hfx.out.2.2 i0 i1 i2 i3 ?_;intro y4 y6 y7 y8 y12 y16 y17 y18 y19 y21 W6 hG _ _ _ _ _ _ _ _ _ _;obtain⟨r1,r2,r3⟩:=hG.2.2.2 rfl;rw[←hstep.out] at r1;clear hG hh hW5;have hj24:=hsl.out.2;go_wp2_with fail
   go_roundw
   case rel=>exact⟨j+1,y19,by go_num,by omega,hbw5.out.trans r2,r3,r1,Nat.le_trans hs5.out r2.size⟩
   case measure=>simp[intOf];omega
  ·obtain rfl:j=cs.length:=(by omega);rw[List.take_of_length_le (by rw[hMl.out];exact Nat.le_refl _)] at ho;obtain⟨g,cap,rfl,hgB⟩:=ho.form (by have:=hsl.out;omega);have HS:=qH (sortCases ho (by have:=hsl.out;omega) (by have:=hsl.out;omega));obtain⟨q0,q1,q2,q3⟩:=box4' c8;have hbw:=qH (bt hw3 hb.out hw3.size);replace c8:=qH c8;clear ho;go_wp2_with fail
   refine HS.out.mono ?_;rintro e w7 ⟨rfl,m,hp,hs,hO2,hb7,hk7⟩;have hm:=hR.out m hp hs;subst hm;have c7:=(hk7 _ _ _ c8.out (by decide)).trans c8.out;obtain⟨z0,z1,z2,z3⟩:=boxL4 c7;have hO3:=qH hO2;have hb37:=hb.out.trans hb7;have hwf:=bt hw3 hb37 hw3.size;have mB:=((btt hb13 hb37).block _ (Array.getElem?_eq_some_iff.1 m1).1).trans m1;obtain⟨f0,f1,f2,f3⟩:=freeL4 mB;obtain⟨y0,y1,y2,y3⟩:=boxL4 mB;have hcl:(renT a cs).length=cs.length:=renT_len a cs;clear HS HK hMi hR c8 hO2 hp hs;go_wp2;refine storeEnd4 (u0:=.int .i64 (n:Int)) (u1:=.int .i64 ins) (u2:=.int .i64 outs) (u3:=.slice (some ⟨g,0,none⟩) cs.length cap) mB ?_;intro W9 hW9 hb9 hk9 _ e0 e1 e2 e3;rw[←hW9];refine bodyPost_ret (v:=.tuple #[.agg #[.int .i64 (n:Int),.int .i64 ins,.int .i64 outs,.slice (some ⟨g,0,none⟩) cs.length cap],.int .i64 0]) (by simp[results,Tryz.results77,go_sem,e0,e1,e2,e3]) rfl ?_;have hO9:=hO3.out.other (E':=64) ECs.stabT (by decide) hk9;exact⟨_,rfl,⟨_,rfl,hO9.css (by have:=hsl.out;omega) hRl.out⟩,⟨_,rfl,by rw[hcl];exact hO9.base (Nat.zero_le _),fun w' v' h=>h.css (by rw[hcl];have:=hsl.out;omega) hRl.out⟩,hb9 _ _ (by omega) hwf⟩
theorem permuteTask {w:World}{v u:Value}{n:Nat}{ins outs:Int}{cs:List Cs}{a:List Int}(hT:TaskV w v (n:Int) ins outs cs) (hz:chkT (n:Int) ins outs cs=0) (hcm:∀c∈cs,c.2.2.length≤100000) (ha:IsP n a) (hu:Ints w u a) :
  Calls Tryz.prog 77 #[v,u] w fun e w'=>∃r,e = .returned (.tuple #[r,.int .i64 0])∧TaskV w' r (n:Int) ins outs (renT a cs)∧Below w.heap.size w w':=by
 refine(permuteTaskO hT hz hcm ha hu).mono ?_;rintro e w' ⟨r,h1,h2,_,h4⟩;exact⟨r,h1,h2,h4⟩
def IntB (W:World) (v:Value) (a b:Int):Prop:=∃g,v = .slice (some ⟨g,0,none⟩) 2 2∧W.heap[g]? = some (.cells #[.int .i64 a,.int .i64 b] 3)
theorem IntB.stab {W W':World}{v:Value}{a b:Int}(h:IntB W v a b) (hk:KeepX 64 W W'):IntB W' v a b:=by
 obtain⟨g,e,h⟩:=h;exact⟨g,e,(hk _ _ _ h (by decide)).trans h⟩
theorem IntB.ints {W:World}{v:Value}{a b:Int}(h:IntB W v a b):Ints W v [a,b]:=by
 obtain⟨g,rfl,h⟩:=h;obtain⟨p0,p1⟩:=boxL2 h;refine⟨_,_,g,0,rfl,fun _=>rfl,fun j hj=>?_,show 2≤17592186044416 by decide⟩;match j,hj with
 | 0,_=>exact p0
 | 1,_=>exact p1
theorem IntB.shape {W:World}{v:Value}{a b:Int}(h:IntB W v a b):∃g,v = .slice (some ⟨g,0,none⟩) 2 2:=by obtain⟨g,e,_⟩:=h;exact⟨g,e⟩
def oCo2_0:Oper:=⟨some 5,.buildSlice 25 2 #[(0,.const (.int .i64 0)),(1,.const (.int .i64 0))],25,"law.go:32",#[],none⟩
def oCo2_1:Oper:=⟨some 6,.move (.tmp 1),39,"law.go:32",#[],none⟩
def oCo2_2:Oper:=⟨some 7,.slice 39 (.tmp 6) none (some (.const (.int .i64 1))) none,39,"law.go:32",#[⟨1,.data⟩],none⟩
def oCo2_3:Oper:=⟨some 8,.build 128 #[(0,.tmp 5),(1,.tmp 7)],128,"law.go:32",#[⟨0,.data⟩,⟨2,.data⟩],none⟩
def oCo2_4:Oper:=⟨some 9,.buildSlice 25 2 #[(0,.const (.int .i64 0)),(1,.const (.int .i64 1))],25,"law.go:32",#[],none⟩
def oCo2_5:Oper:=⟨some 10,.move (.tmp 1),39,"law.go:32",#[],none⟩
def oCo2_6:Oper:=⟨some 11,.build 128 #[(0,.tmp 9),(1,.tmp 10)],128,"law.go:32",#[⟨4,.data⟩,⟨5,.data⟩],none⟩
def oCo2_7:Oper:=⟨some 12,.buildSlice 25 2 #[(0,.const (.int .i64 1)),(1,.const (.int .i64 0))],25,"law.go:32",#[],none⟩
def oCo2_8:Oper:=⟨some 13,.move (.tmp 1),39,"law.go:32",#[],none⟩
def oCo2_9:Oper:=⟨some 14,.build 128 #[(0,.tmp 12),(1,.tmp 13)],128,"law.go:32",#[⟨7,.data⟩,⟨8,.data⟩],none⟩
def oCo2_10:Oper:=⟨some 15,.buildSlice 25 2 #[(0,.const (.int .i64 1)),(1,.const (.int .i64 1))],25,"law.go:32",#[],none⟩
def oCo2_11:Oper:=⟨some 16,.move (.tmp 1),39,"law.go:32",#[],none⟩
def oCo2_12:Oper:=⟨some 17,.slice 39 (.tmp 16) (some (.const (.int .i64 1))) none none,39,"law.go:32",#[⟨11,.data⟩],none⟩
def oCo2_13:Oper:=⟨some 18,.build 128 #[(0,.tmp 15),(1,.tmp 17)],128,"law.go:32",#[⟨10,.data⟩,⟨12,.data⟩],none⟩
def oCo2_14:Oper:=⟨some 19,.buildSlice 62 4 #[(0,.tmp 8),(1,.tmp 11),(2,.tmp 14),(3,.tmp 18)],62,"law.go:32",#[⟨3,.data⟩,⟨6,.data⟩,⟨9,.data⟩,⟨13,.data⟩],none⟩
def oCo2_15:Oper:=⟨some 20,.build 64 #[(0,.const (.int .i64 2)),(1,.const (.int .i64 2)),(2,.const (.int .i64 2)),(3,.tmp 19)],64,"law.go:32",#[⟨14,.data⟩],none⟩
def oCo2_16:Oper:=⟨none,.store 64 (.tmp 0) (.tmp 20),0,"law.go:32",#[⟨15,.data⟩,⟨0,.phase⟩,⟨1,.phase⟩,⟨2,.phase⟩,⟨3,.phase⟩,⟨4,.phase⟩,⟨5,.phase⟩,⟨6,.phase⟩,⟨7,.phase⟩,⟨8,.phase⟩,⟨9,.phase⟩,⟨10,.phase⟩,⟨11,.phase⟩,⟨12,.phase⟩,⟨13,.phase⟩,⟨14,.phase⟩,⟨15,.phase⟩],none⟩
def opsCons2:List Oper:=[oCo2_0,oCo2_1,oCo2_2,oCo2_3,oCo2_4,oCo2_5,oCo2_6,oCo2_7,oCo2_8,oCo2_9,oCo2_10,oCo2_11,oCo2_12,oCo2_13,oCo2_14,oCo2_15,oCo2_16]
theorem regCons2 {w:World}{x2 x3 x4 x5 x6 x7 x8 x9 x10 x11 x12 x13 x14 x15 x16 x17 x18 x19 x20:Value}{Q:Exit→Act→World→Prop}{b0 b1:Nat}{z0 z1 z2 z3:Value}
  (q0:w.heap[b0]? = some (.cells #[z0,z1,z2,z3] 64))
  (hfin:∀(y0 y3 y4 y6 y7 y9 y10 y13 y14 y15 _y16:Value) (W:World),(((fun i=>decide (i < 17)) 16=false→Below w.heap.size w W)∧((fun i=>decide (i < 17)) 16=true→Below b0 w W∧KeepX 64 w W∧∃g g0 g1 g2 g3,W.heap[b0]? = some (.cells #[.int .i64 2,.int .i64 2,.int .i64 2,.slice (some ⟨g,0,none⟩) 4 4] 64)∧W.heap[g]? = some (.cells #[.slice (some ⟨g0,0,none⟩) 2 2,.slice (some ⟨b1,0,none⟩) 1 2,.slice none 0 0,.slice (some ⟨g1,0,none⟩) 2 2,.slice (some ⟨b1,0,none⟩) 2 2,.slice none 0 0,.slice (some ⟨g2,0,none⟩) 2 2,.slice (some ⟨b1,0,none⟩) 2 2,.slice none 0 0,.slice (some ⟨g3,0,none⟩) 2 2,.slice (some ⟨b1,1,none⟩) 1 1,.slice none 0 0] 128)∧IntB W (.slice (some ⟨g0,0,none⟩) 2 2) 0 0∧IntB W (.slice (some ⟨g1,0,none⟩) 2 2) 0 1∧IntB W (.slice (some ⟨g2,0,none⟩) 2 2) 1 0∧IntB W (.slice (some ⟨g3,0,none⟩) 2 2) 1 1))→(IntB W y0 0 0)→(∃g,y3 = .agg #[.slice (some ⟨g,0,none⟩) 2 2,.slice (some ⟨b1,0,none⟩) 1 2,.slice none 0 0]∧IntB W (.slice (some ⟨g,0,none⟩) 2 2) 0 0)→(IntB W y4 0 1)→(∃g,y6 = .agg #[.slice (some ⟨g,0,none⟩) 2 2,.slice (some ⟨b1,0,none⟩) 2 2,.slice none 0 0]∧IntB W (.slice (some ⟨g,0,none⟩) 2 2) 0 1)→(IntB W y7 1 0)→(∃g,y9 = .agg #[.slice (some ⟨g,0,none⟩) 2 2,.slice (some ⟨b1,0,none⟩) 2 2,.slice none 0 0]∧IntB W (.slice (some ⟨g,0,none⟩) 2 2) 1 0)→(IntB W y10 1 1)→(∃g,y13 = .agg #[.slice (some ⟨g,0,none⟩) 2 2,.slice (some ⟨b1,1,none⟩) 1 1,.slice none 0 0]∧IntB W (.slice (some ⟨g,0,none⟩) 2 2) 1 1)→(∃g g0 g1 g2 g3,y14 = .slice (some ⟨g,0,none⟩) 4 4∧W.heap[g]? = some (.cells #[.slice (some ⟨g0,0,none⟩) 2 2,.slice (some ⟨b1,0,none⟩) 1 2,.slice none 0 0,.slice (some ⟨g1,0,none⟩) 2 2,.slice (some ⟨b1,0,none⟩) 2 2,.slice none 0 0,.slice (some ⟨g2,0,none⟩) 2 2,.slice (some ⟨b1,0,none⟩) 2 2,.slice none 0 0,.slice (some ⟨g3,0,none⟩) 2 2,.slice (some ⟨b1,1,none⟩) 1 1,.slice none 0 0] 128)∧IntB W (.slice (some ⟨g0,0,none⟩) 2 2) 0 0∧IntB W (.slice (some ⟨g1,0,none⟩) 2 2) 0 1∧IntB W (.slice (some ⟨g2,0,none⟩) 2 2) 1 0∧IntB W (.slice (some ⟨g3,0,none⟩) 2 2) 1 1)→(∃g g0 g1 g2 g3,y15 = .agg #[.int .i64 2,.int .i64 2,.int .i64 2,.slice (some ⟨g,0,none⟩) 4 4]∧W.heap[g]? = some (.cells #[.slice (some ⟨g0,0,none⟩) 2 2,.slice (some ⟨b1,0,none⟩) 1 2,.slice none 0 0,.slice (some ⟨g1,0,none⟩) 2 2,.slice (some ⟨b1,0,none⟩) 2 2,.slice none 0 0,.slice (some ⟨g2,0,none⟩) 2 2,.slice (some ⟨b1,0,none⟩) 2 2,.slice none 0 0,.slice (some ⟨g3,0,none⟩) 2 2,.slice (some ⟨b1,1,none⟩) 1 1,.slice none 0 0] 128)∧IntB W (.slice (some ⟨g0,0,none⟩) 2 2) 0 0∧IntB W (.slice (some ⟨g1,0,none⟩) 2 2) 0 1∧IntB W (.slice (some ⟨g2,0,none⟩) 2 2) 1 0∧IntB W (.slice (some ⟨g3,0,none⟩) 2 2) 1 1)→(True)→Q .normal ⟨#[.pointer (some ⟨b0,0,none⟩),.slice (some ⟨b1,0,none⟩) 2 2,x2,x3,x4,y0,.slice (some ⟨b1,0,none⟩) 2 2,.slice (some ⟨b1,0,none⟩) 1 2,y3,y4,.slice (some ⟨b1,0,none⟩) 2 2,y6,y7,.slice (some ⟨b1,0,none⟩) 2 2,y9,y10,.slice (some ⟨b1,0,none⟩) 2 2,.slice (some ⟨b1,1,none⟩) 1 1,y13,y14,y15],[]⟩ W) :
  (Code.region 2 opsCons2.toArray true).wp Tryz.prog Q ⟨#[.pointer (some ⟨b0,0,none⟩),.slice (some ⟨b1,0,none⟩) 2 2,x2,x3,x4,x5,x6,x7,x8,x9,x10,x11,x12,x13,x14,x15,x16,x17,x18,x19,x20],[]⟩ w:=by
 obtain⟨SG,hSG⟩:=exS (StepG Tryz.prog opsCons2.toArray (fun ys=>⟨#[.pointer (some ⟨b0,0,none⟩),.slice (some ⟨b1,0,none⟩) 2 2,x2,x3,x4,ys 0,ys 1,ys 2,ys 3,ys 4,ys 5,ys 6,ys 7,ys 8,ys 9,ys 10,ys 11,ys 12,ys 13,ys 14,ys 15],[]⟩) [fun W v=>IntB W v 0 0,eqV (.slice (some ⟨b1,0,none⟩) 2 2),eqV (.slice (some ⟨b1,0,none⟩) 1 2),fun W v=>∃g,v = .agg #[.slice (some ⟨g,0,none⟩) 2 2,.slice (some ⟨b1,0,none⟩) 1 2,.slice none 0 0]∧IntB W (.slice (some ⟨g,0,none⟩) 2 2) 0 0,fun W v=>IntB W v 0 1,eqV (.slice (some ⟨b1,0,none⟩) 2 2),fun W v=>∃g,v = .agg #[.slice (some ⟨g,0,none⟩) 2 2,.slice (some ⟨b1,0,none⟩) 2 2,.slice none 0 0]∧IntB W (.slice (some ⟨g,0,none⟩) 2 2) 0 1,fun W v=>IntB W v 1 0,eqV (.slice (some ⟨b1,0,none⟩) 2 2),fun W v=>∃g,v = .agg #[.slice (some ⟨g,0,none⟩) 2 2,.slice (some ⟨b1,0,none⟩) 2 2,.slice none 0 0]∧IntB W (.slice (some ⟨g,0,none⟩) 2 2) 1 0,fun W v=>IntB W v 1 1,eqV (.slice (some ⟨b1,0,none⟩) 2 2),eqV (.slice (some ⟨b1,1,none⟩) 1 1),fun W v=>∃g,v = .agg #[.slice (some ⟨g,0,none⟩) 2 2,.slice (some ⟨b1,1,none⟩) 1 1,.slice none 0 0]∧IntB W (.slice (some ⟨g,0,none⟩) 2 2) 1 1,fun W v=>∃g g0 g1 g2 g3,v = .slice (some ⟨g,0,none⟩) 4 4∧W.heap[g]? = some (.cells #[.slice (some ⟨g0,0,none⟩) 2 2,.slice (some ⟨b1,0,none⟩) 1 2,.slice none 0 0,.slice (some ⟨g1,0,none⟩) 2 2,.slice (some ⟨b1,0,none⟩) 2 2,.slice none 0 0,.slice (some ⟨g2,0,none⟩) 2 2,.slice (some ⟨b1,0,none⟩) 2 2,.slice none 0 0,.slice (some ⟨g3,0,none⟩) 2 2,.slice (some ⟨b1,1,none⟩) 1 1,.slice none 0 0] 128)∧IntB W (.slice (some ⟨g0,0,none⟩) 2 2) 0 0∧IntB W (.slice (some ⟨g1,0,none⟩) 2 2) 0 1∧IntB W (.slice (some ⟨g2,0,none⟩) 2 2) 1 0∧IntB W (.slice (some ⟨g3,0,none⟩) 2 2) 1 1,fun W v=>∃g g0 g1 g2 g3,v = .agg #[.int .i64 2,.int .i64 2,.int .i64 2,.slice (some ⟨g,0,none⟩) 4 4]∧W.heap[g]? = some (.cells #[.slice (some ⟨g0,0,none⟩) 2 2,.slice (some ⟨b1,0,none⟩) 1 2,.slice none 0 0,.slice (some ⟨g1,0,none⟩) 2 2,.slice (some ⟨b1,0,none⟩) 2 2,.slice none 0 0,.slice (some ⟨g2,0,none⟩) 2 2,.slice (some ⟨b1,0,none⟩) 2 2,.slice none 0 0,.slice (some ⟨g3,0,none⟩) 2 2,.slice (some ⟨b1,1,none⟩) 1 1,.slice none 0 0] 128)∧IntB W (.slice (some ⟨g0,0,none⟩) 2 2) 0 0∧IntB W (.slice (some ⟨g1,0,none⟩) 2 2) 0 1∧IntB W (.slice (some ⟨g2,0,none⟩) 2 2) 1 0∧IntB W (.slice (some ⟨g3,0,none⟩) 2 2) 1 1,anyV] (fun W W'=>KeepX 64 W W') (fun D _ W=>(D 16=false→Below w.heap.size w W)∧(D 16=true→Below b0 w W∧KeepX 64 w W∧∃g g0 g1 g2 g3,W.heap[b0]? = some (.cells #[.int .i64 2,.int .i64 2,.int .i64 2,.slice (some ⟨g,0,none⟩) 4 4] 64)∧W.heap[g]? = some (.cells #[.slice (some ⟨g0,0,none⟩) 2 2,.slice (some ⟨b1,0,none⟩) 1 2,.slice none 0 0,.slice (some ⟨g1,0,none⟩) 2 2,.slice (some ⟨b1,0,none⟩) 2 2,.slice none 0 0,.slice (some ⟨g2,0,none⟩) 2 2,.slice (some ⟨b1,0,none⟩) 2 2,.slice none 0 0,.slice (some ⟨g3,0,none⟩) 2 2,.slice (some ⟨b1,1,none⟩) 1 1,.slice none 0 0] 128)∧IntB W (.slice (some ⟨g0,0,none⟩) 2 2) 0 0∧IntB W (.slice (some ⟨g1,0,none⟩) 2 2) 0 1∧IntB W (.slice (some ⟨g2,0,none⟩) 2 2) 1 0∧IntB W (.slice (some ⟨g3,0,none⟩) 2 2) 1 1)) Q)
 have st0:SG 0 oCo2_0:=by
  subst hSG;refine StepG.mk rfl fun ys D W K hD hcl _ hG hK=>?_;unfold oCo2_0;obtain⟨g1,g2⟩:=hG;have d16:=hcl.no (j:=16) (i:=0) rfl (by kernel_rfl) hD;have hb:=g1 d16;have hba:=(Below.refl W.heap.size W).alloc (Nat.le_refl _) (.cells #[.int .i64 0,.int .i64 0] 3);go_simp;exact hK _ _ (KeepX.below hba) ⟨fun _=>btt hb hba,fun h=>(by rw[show addG D 0 16=D 16 from rfl,d16] at h;cases h)⟩ ⟨_,rfl,heap_alloc_new _ _⟩
 have st1:SG 1 oCo2_1:=by
  subst hSG;refine StepG.mk rfl fun ys D W K _ _ _ hG hK=>?_;unfold oCo2_1;obtain⟨g1,g2⟩:=hG;go_simp;exact hK _ _ (KeepX.refl _ _) ⟨g1,g2⟩ rfl
 have st2:SG 2 oCo2_2:=by
  subst hSG;refine StepG.mk rfl (openY 1 fun y1=>fun ys D W K _ _ hd hG hK=>?_);have e1:y1=_:=(hd.get 1 rfl).2;subst e1;simp only[updG,Nat.reduceEqDiff,reduceIte];unfold oCo2_2;obtain⟨g1,g2⟩:=hG;go_simp;exact hK _ _ (KeepX.refl _ _) ⟨g1,g2⟩ rfl
 have st3:SG 3 oCo2_3:=by
  subst hSG;refine StepG.mk rfl (openY 0 fun y0=>openY 2 fun y2=>fun ys D W K _ _ hd hG hK=>?_);obtain⟨d0,e0⟩:D 0=true∧(IntB W y0 0 0):=hd.get 0 rfl;have e2:y2=_:=(hd.get 2 rfl).2;subst e2;simp only[updG,Nat.reduceEqDiff,reduceIte];unfold oCo2_3;obtain⟨g1,g2⟩:=hG;obtain⟨g,rfl⟩:=e0.shape;go_simp;exact hK _ _ (KeepX.refl _ _) ⟨g1,g2⟩ ⟨g,rfl,e0⟩
 have st4:SG 4 oCo2_4:=by
  subst hSG;refine StepG.mk rfl fun ys D W K hD hcl _ hG hK=>?_;unfold oCo2_4;obtain⟨g1,g2⟩:=hG;have d16:=hcl.no (j:=16) (i:=4) rfl (by kernel_rfl) hD;have hb:=g1 d16;have hba:=(Below.refl W.heap.size W).alloc (Nat.le_refl _) (.cells #[.int .i64 0,.int .i64 1] 3);go_simp;exact hK _ _ (KeepX.below hba) ⟨fun _=>btt hb hba,fun h=>(by rw[show addG D 4 16=D 16 from rfl,d16] at h;cases h)⟩ ⟨_,rfl,heap_alloc_new _ _⟩
 have st5:SG 5 oCo2_5:=by
  subst hSG;refine StepG.mk rfl fun ys D W K _ _ _ hG hK=>?_;unfold oCo2_5;obtain⟨g1,g2⟩:=hG;go_simp;exact hK _ _ (KeepX.refl _ _) ⟨g1,g2⟩ rfl
 have st6:SG 6 oCo2_6:=by
  subst hSG;refine StepG.mk rfl (openY 4 fun y4=>openY 5 fun y5=>fun ys D W K _ _ hd hG hK=>?_);obtain⟨d4,e4⟩:D 4=true∧(IntB W y4 0 1):=hd.get 4 rfl;have e5:y5=_:=(hd.get 5 rfl).2;subst e5;simp only[updG,Nat.reduceEqDiff,reduceIte];unfold oCo2_6;obtain⟨g1,g2⟩:=hG;obtain⟨g,rfl⟩:=e4.shape;go_simp;exact hK _ _ (KeepX.refl _ _) ⟨g1,g2⟩ ⟨g,rfl,e4⟩
 have st7:SG 7 oCo2_7:=by
  subst hSG;refine StepG.mk rfl fun ys D W K hD hcl _ hG hK=>?_;unfold oCo2_7;obtain⟨g1,g2⟩:=hG;have d16:=hcl.no (j:=16) (i:=7) rfl (by kernel_rfl) hD;have hb:=g1 d16;have hba:=(Below.refl W.heap.size W).alloc (Nat.le_refl _) (.cells #[.int .i64 1,.int .i64 0] 3);go_simp;exact hK _ _ (KeepX.below hba) ⟨fun _=>btt hb hba,fun h=>(by rw[show addG D 7 16=D 16 from rfl,d16] at h;cases h)⟩ ⟨_,rfl,heap_alloc_new _ _⟩
 have st8:SG 8 oCo2_8:=by
  subst hSG;refine StepG.mk rfl fun ys D W K _ _ _ hG hK=>?_;unfold oCo2_8;obtain⟨g1,g2⟩:=hG;go_simp;exact hK _ _ (KeepX.refl _ _) ⟨g1,g2⟩ rfl
 have st9:SG 9 oCo2_9:=by
  subst hSG;refine StepG.mk rfl (openY 7 fun y7=>openY 8 fun y8=>fun ys D W K _ _ hd hG hK=>?_);obtain⟨d7,e7⟩:D 7=true∧(IntB W y7 1 0):=hd.get 7 rfl;have e8:y8=_:=(hd.get 8 rfl).2;subst e8;simp only[updG,Nat.reduceEqDiff,reduceIte];unfold oCo2_9;obtain⟨g1,g2⟩:=hG;obtain⟨g,rfl⟩:=e7.shape;go_simp;exact hK _ _ (KeepX.refl _ _) ⟨g1,g2⟩ ⟨g,rfl,e7⟩
 have st10:SG 10 oCo2_10:=by
  subst hSG;refine StepG.mk rfl fun ys D W K hD hcl _ hG hK=>?_;unfold oCo2_10;obtain⟨g1,g2⟩:=hG;have d16:=hcl.no (j:=16) (i:=10) rfl (by kernel_rfl) hD;have hb:=g1 d16;have hba:=(Below.refl W.heap.size W).alloc (Nat.le_refl _) (.cells #[.int .i64 1,.int .i64 1] 3);go_simp;exact hK _ _ (KeepX.below hba) ⟨fun _=>btt hb hba,fun h=>(by rw[show addG D 10 16=D 16 from rfl,d16] at h;cases h)⟩ ⟨_,rfl,heap_alloc_new _ _⟩
 have st11:SG 11 oCo2_11:=by
  subst hSG;refine StepG.mk rfl fun ys D W K _ _ _ hG hK=>?_;unfold oCo2_11;obtain⟨g1,g2⟩:=hG;go_simp;exact hK _ _ (KeepX.refl _ _) ⟨g1,g2⟩ rfl
 have st12:SG 12 oCo2_12:=by
  subst hSG;refine StepG.mk rfl (openY 11 fun y11=>fun ys D W K _ _ hd hG hK=>?_);have e11:y11=_:=(hd.get 11 rfl).2;subst e11;simp only[updG,Nat.reduceEqDiff,reduceIte];unfold oCo2_12;obtain⟨g1,g2⟩:=hG;go_simp;exact hK _ _ (KeepX.refl _ _) ⟨g1,g2⟩ rfl
 have st13:SG 13 oCo2_13:=by
  subst hSG;refine StepG.mk rfl (openY 10 fun y10=>openY 12 fun y12=>fun ys D W K _ _ hd hG hK=>?_);obtain⟨d10,e10⟩:D 10=true∧(IntB W y10 1 1):=hd.get 10 rfl;have e12:y12=_:=(hd.get 12 rfl).2;subst e12;simp only[updG,Nat.reduceEqDiff,reduceIte];unfold oCo2_13;obtain⟨g1,g2⟩:=hG;obtain⟨g,rfl⟩:=e10.shape;go_simp;exact hK _ _ (KeepX.refl _ _) ⟨g1,g2⟩ ⟨g,rfl,e10⟩
 have st14:SG 14 oCo2_14:=by
  subst hSG;refine StepG.mk rfl (openY 3 fun y3=>openY 6 fun y6=>openY 9 fun y9=>openY 13 fun y13=>fun ys D W K hD hcl hd hG hK=>?_);obtain⟨d3,e3⟩:D 3=true∧(∃g,y3 = .agg #[.slice (some ⟨g,0,none⟩) 2 2,.slice (some ⟨b1,0,none⟩) 1 2,.slice none 0 0]∧IntB W (.slice (some ⟨g,0,none⟩) 2 2) 0 0):=hd.get 3 rfl;obtain⟨d6,e6⟩:D 6=true∧(∃g,y6 = .agg #[.slice (some ⟨g,0,none⟩) 2 2,.slice (some ⟨b1,0,none⟩) 2 2,.slice none 0 0]∧IntB W (.slice (some ⟨g,0,none⟩) 2 2) 0 1):=hd.get 6 rfl;obtain⟨d9,e9⟩:D 9=true∧(∃g,y9 = .agg #[.slice (some ⟨g,0,none⟩) 2 2,.slice (some ⟨b1,0,none⟩) 2 2,.slice none 0 0]∧IntB W (.slice (some ⟨g,0,none⟩) 2 2) 1 0):=hd.get 9 rfl;obtain⟨d13,e13⟩:D 13=true∧(∃g,y13 = .agg #[.slice (some ⟨g,0,none⟩) 2 2,.slice (some ⟨b1,1,none⟩) 1 1,.slice none 0 0]∧IntB W (.slice (some ⟨g,0,none⟩) 2 2) 1 1):=hd.get 13 rfl;simp only[updG,Nat.reduceEqDiff,reduceIte];unfold oCo2_14;obtain⟨g1,g2⟩:=hG;have d16:=hcl.no (j:=16) (i:=14) rfl (by kernel_rfl) hD;have hb:=g1 d16;obtain⟨h0,rfl,i0⟩:=e3;obtain⟨h1,rfl,i1⟩:=e6;obtain⟨h2,rfl,i2⟩:=e9;obtain⟨h3,rfl,i3⟩:=e13;have hba:=(Below.refl W.heap.size W).alloc (Nat.le_refl _) (.cells #[.slice (some ⟨h0,0,none⟩) 2 2,.slice (some ⟨b1,0,none⟩) 1 2,.slice none 0 0,.slice (some ⟨h1,0,none⟩) 2 2,.slice (some ⟨b1,0,none⟩) 2 2,.slice none 0 0,.slice (some ⟨h2,0,none⟩) 2 2,.slice (some ⟨b1,0,none⟩) 2 2,.slice none 0 0,.slice (some ⟨h3,0,none⟩) 2 2,.slice (some ⟨b1,1,none⟩) 1 1,.slice none 0 0] 128);have hka:=KeepX.below (E:=64) hba;go_simp;exact hK _ _ hka ⟨fun _=>btt hb hba,fun h=>(by rw[show addG D 14 16=D 16 from rfl,d16] at h;cases h)⟩ ⟨_,h0,h1,h2,h3,rfl,heap_alloc_new _ _,i0.stab hka,i1.stab hka,i2.stab hka,i3.stab hka⟩
 have st15:SG 15 oCo2_15:=by
  subst hSG;refine StepG.mk rfl (openY 14 fun y14=>fun ys D W K _ _ hd hG hK=>?_);obtain⟨d14,e14⟩:D 14=true∧(∃g g0 g1 g2 g3,y14 = .slice (some ⟨g,0,none⟩) 4 4∧W.heap[g]? = some (.cells #[.slice (some ⟨g0,0,none⟩) 2 2,.slice (some ⟨b1,0,none⟩) 1 2,.slice none 0 0,.slice (some ⟨g1,0,none⟩) 2 2,.slice (some ⟨b1,0,none⟩) 2 2,.slice none 0 0,.slice (some ⟨g2,0,none⟩) 2 2,.slice (some ⟨b1,0,none⟩) 2 2,.slice none 0 0,.slice (some ⟨g3,0,none⟩) 2 2,.slice (some ⟨b1,1,none⟩) 1 1,.slice none 0 0] 128)∧IntB W (.slice (some ⟨g0,0,none⟩) 2 2) 0 0∧IntB W (.slice (some ⟨g1,0,none⟩) 2 2) 0 1∧IntB W (.slice (some ⟨g2,0,none⟩) 2 2) 1 0∧IntB W (.slice (some ⟨g3,0,none⟩) 2 2) 1 1):=hd.get 14 rfl;simp only[updG,Nat.reduceEqDiff,reduceIte];unfold oCo2_15;obtain⟨g1,g2⟩:=hG;obtain⟨g,h0,h1,h2,h3,rfl,hh⟩:=e14;go_simp;exact hK _ _ (KeepX.refl _ _) ⟨g1,g2⟩ ⟨g,h0,h1,h2,h3,rfl,hh⟩
 have st16:SG 16 oCo2_16:=by
  subst hSG;refine StepG.mk rfl (openY 15 fun y15=>fun ys D W K hD _ hd hG hK=>?_);obtain⟨d15,e15⟩:D 15=true∧(∃g g0 g1 g2 g3,y15 = .agg #[.int .i64 2,.int .i64 2,.int .i64 2,.slice (some ⟨g,0,none⟩) 4 4]∧W.heap[g]? = some (.cells #[.slice (some ⟨g0,0,none⟩) 2 2,.slice (some ⟨b1,0,none⟩) 1 2,.slice none 0 0,.slice (some ⟨g1,0,none⟩) 2 2,.slice (some ⟨b1,0,none⟩) 2 2,.slice none 0 0,.slice (some ⟨g2,0,none⟩) 2 2,.slice (some ⟨b1,0,none⟩) 2 2,.slice none 0 0,.slice (some ⟨g3,0,none⟩) 2 2,.slice (some ⟨b1,1,none⟩) 1 1,.slice none 0 0] 128)∧IntB W (.slice (some ⟨g0,0,none⟩) 2 2) 0 0∧IntB W (.slice (some ⟨g1,0,none⟩) 2 2) 0 1∧IntB W (.slice (some ⟨g2,0,none⟩) 2 2) 1 0∧IntB W (.slice (some ⟨g3,0,none⟩) 2 2) 1 1):=hd.get 15 rfl;simp only[updG,Nat.reduceEqDiff,reduceIte];unfold oCo2_16;obtain⟨g1,g2⟩:=hG;have hb:=g1 hD;have k0:=(hb.block b0 (Array.getElem?_eq_some_iff.1 q0).1).trans q0;obtain⟨g,h0,h1,h2,h3,rfl,hh,i0,i1,i2,i3⟩:=e15;obtain⟨p0,p1,p2,p3⟩:=boxL4 k0;obtain⟨f0,f1,f2,f3⟩:=freeL4 k0;go_simp;refine storeEnd4 (u0:=.int .i64 2) (u1:=.int .i64 2) (u2:=.int .i64 2) (u3:=.slice (some ⟨g,0,none⟩) 4 4) k0 ?_;intro W9 hW9 hb9 hk9 hm9 _ _ _ _;rw[←hW9];exact hK undef _ hk9 ⟨fun h=>(by cases h),fun _=>⟨hb9 _ _ (Nat.le_refl _) (hb.mono (Nat.le_of_lt (Array.getElem?_eq_some_iff.1 q0).1)),(KeepX.below hb).trans hk9,g,h0,h1,h2,h3,hm9,(hk9 _ _ _ hh (by decide)).trans hh,i0.stab hk9,i1.stab hk9,i2.stab hk9,i3.stab hk9⟩⟩ trivial
 subst hSG;refine wp_region_sg (l:=opsCons2) ⟨st0,st1,st2,st3,st4,st5,st6,st7,st8,st9,st10,st11,st12,st13,st14,st15,st16,trivial⟩ (fun i=>([x5,x6,x7,x8,x9,x10,x11,x12,x13,x14,x15,x16,x17,x18,x19,x20,undef]:List Value).getD i undef) (by kernel_rfl) (by kernel_rfl) ⟨fun W W' v h r=>IntB.stab h r,sE,sE,fun W W' v ⟨g,e,h⟩ r=>⟨g,e,IntB.stab h r⟩,fun W W' v h r=>IntB.stab h r,sE,fun W W' v ⟨g,e,h⟩ r=>⟨g,e,IntB.stab h r⟩,fun W W' v h r=>IntB.stab h r,sE,fun W W' v ⟨g,e,h⟩ r=>⟨g,e,IntB.stab h r⟩,fun W W' v h r=>IntB.stab h r,sE,sE,fun W W' v ⟨g,e,h⟩ r=>⟨g,e,IntB.stab h r⟩,fun W W' v ⟨g,h0,h1,h2,h3,e,h,i0,i1,i2,i3⟩ r=>⟨g,h0,h1,h2,h3,e,(r _ _ _ h (by decide)).trans h,IntB.stab i0 r,IntB.stab i1 r,IntB.stab i2 r,IntB.stab i3 r⟩,fun W W' v ⟨g,h0,h1,h2,h3,e,h,i0,i1,i2,i3⟩ r=>⟨g,h0,h1,h2,h3,e,(r _ _ _ h (by decide)).trans h,IntB.stab i0 r,IntB.stab i1 r,IntB.stab i2 r,IntB.stab i3 r⟩,fun _ _ _ h _=>h,trivial⟩ ?g0 ?gx ?fin
 case g0=>exact⟨fun _=>below_drewN (Below.refl w.heap.size w) 1,fun h=>by cases h⟩
 case gx=>exact fun D D' _ W h ⟨h1,h2⟩=>⟨fun q=>h1 ((h 16 (by decide)).trans q),fun q=>h2 ((h 16 (by decide)).trans q)⟩
 case fin=>
  intro ys W hG hp;try dsimp only
  rw[(hp 1 (by decide):ys 1=_),(hp 2 (by decide):ys 2=_),(hp 5 (by decide):ys 5=_),(hp 8 (by decide):ys 8=_),(hp 11 (by decide):ys 11=_),(hp 12 (by decide):ys 12=_)];exact hfin (ys 0) (ys 3) (ys 4) (ys 6) (ys 7) (ys 9) (ys 10) (ys 13) (ys 14) (ys 15) (ys 16) W hG (hp 0 (by decide)) (hp 3 (by decide)) (hp 4 (by decide)) (hp 6 (by decide)) (hp 7 (by decide)) (hp 9 (by decide)) (hp 10 (by decide)) (hp 13 (by decide)) (hp 14 (by decide)) (hp 15 (by decide)) (hp 16 (by decide))
def csC:List Cs:=[([0,0],[[0,0]],[]),([0,1],[[0,0],[1,1]],[]),([1,0],[[0,0],[1,1]],[]),([1,1],[[1,1]],[])]
theorem cells12 {w:World}{b:Nat}{t:TypeId}{u0 u1 u2 u3 u4 u5 u6 u7 u8 u9 u10 u11:Value}(h:w.heap[b]? = some (.cells #[u0,u1,u2,u3,u4,u5,u6,u7,u8,u9,u10,u11] t)) :
  (w.cell? ⟨b,0,none⟩=some u0∧w.cell? ⟨b,1,none⟩=some u1∧w.cell? ⟨b,2,none⟩=some u2)∧(w.cell? ⟨b,3,none⟩=some u3∧w.cell? ⟨b,4,none⟩=some u4∧w.cell? ⟨b,5,none⟩=some u5)∧
  (w.cell? ⟨b,6,none⟩=some u6∧w.cell? ⟨b,7,none⟩=some u7∧w.cell? ⟨b,8,none⟩=some u8)∧(w.cell? ⟨b,9,none⟩=some u9∧w.cell? ⟨b,10,none⟩=some u10∧w.cell? ⟨b,11,none⟩=some u11):=
 ⟨⟨box_cell h rfl,box_cell h rfl,box_cell h rfl⟩,⟨box_cell h rfl,box_cell h rfl,box_cell h rfl⟩,⟨box_cell h rfl,box_cell h rfl,box_cell h rfl⟩,⟨box_cell h rfl,box_cell h rfl,box_cell h rfl⟩⟩
theorem consensusC {w:World}:Calls Tryz.prog 50 #[] w fun e w'=>∃r,e = .returned r∧TaskV w' r 2 2 2 csC∧Below w.heap.size w w':=by
 obtain⟨W1,hW1⟩:=exF (w.alloc (.cells #[.int .i64 0,.int .i64 0,.int .i64 0,.slice none 0 0] 64));obtain⟨W2,hW2⟩:=exF (W1.alloc (.cells #[.int .i64 0,.int .i64 0] 3));obtain⟨W3,hW3⟩:=exF (W2.alloc (.cells #[.int .i64 1,.int .i64 1] 3));obtain⟨W4,hW4⟩:=exF (W3.alloc (.cells #[.slice (some ⟨W1.heap.size,0,none⟩) 2 2,.slice (some ⟨W2.heap.size,0,none⟩) 2 2] 25));have hb2:Below W1.heap.size W1 W2:=by rw[hW2];exact(Below.refl _ _).alloc (Nat.le_refl _) _
 have hb3:Below W2.heap.size W2 W3:=by rw[hW3];exact(Below.refl _ _).alloc (Nat.le_refl _) _
 have hb4:Below W3.heap.size W3 W4:=by rw[hW4];exact(Below.refl _ _).alloc (Nat.le_refl _) _
 have hb1:Below w.heap.size w W1:=by rw[hW1];exact(Below.refl _ _).alloc (Nat.le_refl _) _
 have m1:W1.heap[w.heap.size]? = some (.cells #[.int .i64 0,.int .i64 0,.int .i64 0,.slice none 0 0] 64):=by rw[hW1];exact heap_alloc_new _ _
 have m2:W2.heap[W1.heap.size]? = some (.cells #[.int .i64 0,.int .i64 0] 3):=by rw[hW2];exact heap_alloc_new _ _
 have m3:W3.heap[W2.heap.size]? = some (.cells #[.int .i64 1,.int .i64 1] 3):=by rw[hW3];exact heap_alloc_new _ _
 have m4:W4.heap[W3.heap.size]? = some (.cells #[.slice (some ⟨W1.heap.size,0,none⟩) 2 2,.slice (some ⟨W2.heap.size,0,none⟩) 2 2] 25):=by rw[hW4];exact heap_alloc_new _ _
 have hb24:=btt hb3 hb4;have hb14:=btt hb2 hb24;have n1:=(hb14.block _ (Array.getElem?_eq_some_iff.1 m1).1).trans m1;have n2:=(hb24.block _ (Array.getElem?_eq_some_iff.1 m2).1).trans m2;have n3:=(hb4.block _ (Array.getElem?_eq_some_iff.1 m3).1).trans m3;have hbw:=bt hb1 hb14 hb1.size
 have hsz:Hid (W3.heap.size=w.heap.size+3∧W2.heap.size=w.heap.size+1+1∧W1.heap.size=w.heap.size+1):=by
  have h1:W1.heap.size=w.heap.size+1:=by rw[hW1,World.size_alloc]
  have h2:W2.heap.size=W1.heap.size+1:=by rw[hW2,World.size_alloc]
  have h3:W3.heap.size=W2.heap.size+1:=by rw[hW3,World.size_alloc]
  exact⟨by omega,by omega,h1⟩
 have hW:Hid (W4=(((w.alloc (.cells #[.int .i64 0,.int .i64 0,.int .i64 0,.slice none 0 0] 64)).alloc (.cells #[.int .i64 0,.int .i64 0] 3)).alloc (.cells #[.int .i64 1,.int .i64 1] 3)).alloc (.cells #[.slice (some ⟨w.heap.size+1,0,none⟩) 2 2,.slice (some ⟨w.heap.size+1+1,0,none⟩) 2 2] 25)):=by
  show _=_;rw[hW4,hsz.out.2.1,hsz.out.2.2,hW3,hW2,hW1]
 clear hW4 hW3 hW2 hW1 m1 m2 m3 hb2 hb3 hb4 hb24 hb14 hb1;go_enter Tryz.func50, Tryz.ntmps50
 go_upto_region 2 with fail
 rw[←hW.out];rw[hsz.out.2.1,hsz.out.2.2] at m4;have hs3:=hsz.out.1;rw[hs3] at m4;rw[hsz.out.2.1] at n3;rw[hsz.out.2.2] at n2;refine regCons2 (b0:=w.heap.size) (b1:=w.heap.size+3) n1 ?_;intro y0 y3 y4 y6 y7 y9 y10 y13 y14 y15 y16 W hG _ _ _ _ _ _ _ _ _ _ _;obtain⟨hb,hkx,g,h0,h1,h2,h3,hT,hR,i0,i1,i2,i3⟩:=hG.2 rfl;have hsw:w.heap.size≤W4.heap.size:=hbw.size;have hbf:=hbw.trans hb;have k2:=(hkx _ _ _ n2 (by decide)).trans n2;have k3:=(hkx _ _ _ n3 (by decide)).trans n3;have k4:=(hkx _ _ _ m4 (by decide)).trans m4;obtain⟨c0,c1⟩:=boxL2 k4;have iz:IntB W (.slice (some ⟨w.heap.size+1,0,none⟩) 2 2) 0 0:=⟨_,rfl,k2⟩;have io:IntB W (.slice (some ⟨w.heap.size+1+1,0,none⟩) 2 2) 1 1:=⟨_,rfl,k3⟩
 have s1:Intss W (.slice (some ⟨w.heap.size+3,0,none⟩) 1 2) [[0,0]]:=⟨_,_,w.heap.size+3,0,rfl,fun _=>rfl,fun j hj=>by
  match j,hj with
  | 0,_=>exact⟨_,c0,iz.ints⟩,show 1≤5864062014805 by decide⟩
 have s2:Intss W (.slice (some ⟨w.heap.size+3,0,none⟩) 2 2) [[0,0],[1,1]]:=⟨_,_,w.heap.size+3,0,rfl,fun _=>rfl,fun j hj=>by
  match j,hj with
  | 0,_=>exact⟨_,c0,iz.ints⟩
  | 1,_=>exact⟨_,c1,io.ints⟩,show 2≤5864062014805 by decide⟩
 have s3:Intss W (.slice (some ⟨w.heap.size+3,1,none⟩) 1 1) [[1,1]]:=⟨_,_,w.heap.size+3,1,rfl,fun _=>rfl,fun j hj=>by
  match j,hj with
  | 0,_=>exact⟨_,c1,io.ints⟩,show 1≤5864062014805 by decide⟩
 have s0:Intss W (.slice none 0 0) []:=⟨_,_,0,0,rfl,fun h=>absurd h (Nat.lt_irrefl 0),fun j hj=>absurd hj (Nat.not_lt_zero j),Nat.zero_le _⟩;obtain⟨⟨a0,a1,a2⟩,⟨a3,a4,a5⟩,⟨a6,a7,a8⟩,a9,a10,a11⟩:=cells12 hR
 have hCs:CsS W (.slice (some ⟨g,0,none⟩) 4 4) csC:=⟨_,_,g,0,rfl,fun _=>rfl,fun j hj=>by
  match j,hj with
  | 0,_=>exact⟨_,_,_,a0,a1,a2,i0.ints,s1,s0⟩
  | 1,_=>exact⟨_,_,_,a3,a4,a5,i1.ints,s2,s0⟩
  | 2,_=>exact⟨_,_,_,a6,a7,a8,i2.ints,s2,s0⟩
  | 3,_=>exact⟨_,_,_,a9,a10,a11,i3.ints,s3,s0⟩,show 4≤1954687338268 by decide⟩
 obtain⟨e0,e1,e2,e3⟩:=boxL4 hT;clear hW hsz m4 n1 n2 n3 hR a0 a1 a2 a3 a4 a5 a6 a7 a8 a9 a10 a11;go_wp2;refine bodyPost_ret (v:=.agg #[.int .i64 2,.int .i64 2,.int .i64 2,.slice (some ⟨g,0,none⟩) 4 4]) (by simp[results,Tryz.results50,go_sem,e0,e1,e2,e3]) rfl ?_;exact⟨_,rfl,⟨_,rfl,hCs⟩,hbf⟩
end Go.Proofs.YtmikofeildnpdaaGreat
