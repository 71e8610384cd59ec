/- Texts of this claim, put together: Rl. -/
import Derived.Test.YtmikofeildnpdaaGreatKZa
import Derived.ProofKit
import Derived.OpenShut
import Derived.Deep.DeepHandedRow
import Derived.Deep.Slices
import Derived.SizedLaws
import Derived.WideKeyArgs
import Derived.OpenVars
import Derived.ChangeCalls

set_option maxRecDepth 100000
set_option maxHeartbeats 12800000
namespace Go.Proofs.YtmikofeildnpdaaGreat
open Go.RowKit Go.ChangeShapes Go.WideShapes Go.ChangeAt Go.Deep Go.WideElems
section
variable {H:Type} {enc:TypeId × Value→H} {P:Program}
theorem trodAll_stays (hl:laidOutB P=true) {W W':World}{sp':Nat→Bool}:∀ {ts:List TypeId}{vs:List Value}{ds:List (DataW H)}{ps:List MemPlace},
  (∀t∈ts,P.readableRec t=true∧t < P.types.size)→DataW.TrodAll enc P W 0 (fun _=>true) true ts vs ds ps→(∀p∈ps,W.sameAt W' p)→(∀p∈ps,sp' p.block=true)→DataW.TrodAll enc P W' 0 sp' true ts vs ds ps
 | [],[],[],_,_,h,_,_=>h
 | [],[],_::_,_,_,h,_,_=>h.elim
 | [],_::_,_,_,_,h,_,_=>h.elim
 | _::_,[],_,_,_,h,_,_=>h.elim
 | _::_,_::_,[],_,_,h,_,_=>h.elim
 | t::ts,v::vs,d::ds,ps,hr,h,hsame,hs=>by
  obtain⟨p,q,h1,h2,rfl⟩:=h;have ht:=hr t (by simp)
  exact⟨p,q,Trod_stays hl ht.1 ht.2 h1 (fun x hx=>hsame x (by simp[hx])) (fun x hx=>hs x (by simp[hx])),
   trodAll_stays hl (fun t ht=>hr t (by simp[ht])) h2 (fun x hx=>hsame x (by simp[hx])) (fun x hx=>hs x (by simp[hx])),rfl⟩
theorem law_post {f:Func}{s:ChangeSpec}{W W':World}{args:Array Value}{ds gs:List (DataW H)}{before:List MemPlace}(hl:laidOutB P=true) (tb:TypeId) (htb:P.underlying tb=some .bool) (hrt:f.resultTypes = #[tb]) (hv:s.vars = [])
  (hr:f.params.toList.all (fun t=>P.readableRec t && decide (t < P.types.size))=true)
  (hs:∀ds:List (DataW H),ds.length=f.params.size→s.fn H ds = { results:=[.lit (.bool true)],args:=ds })
  (hW:DataW.Whole enc P f.params.toList s.vars false W args.toList ds gs before) (hb:Below W.heap.size W W') :
  s.post enc P f false true false false W args (.bool true) W':=by
 have hlt:∀p∈before,p.block < W.heap.size:=fun p hp=>hW.lt p hp;have hold:∀p∈before,(fun b=>decide (b < W.heap.size)) p.block=true:=fun p hp=>by simpa using hlt p hp
 have hW0:=hW;obtain⟨p,q,hA,hV,hpq,hz,hn⟩:=hW
 have hg:gs = []∧q = []:=by
  rw[hv] at hV;cases gs with
  | nil=>exact⟨rfl,hV⟩
  | cons=>exact hV.elim
 obtain⟨rfl,rfl⟩:=hg;rw[List.append_nil] at hpq;subst hpq
 have hdl:ds.length=f.params.size:=by
  have:=(Go.trodAll_length hA).2
  simpa using this
 have hfn:=hs (ds ++ []) (by simpa using hdl);rw[List.append_nil] at hfn
 have hr':∀t∈f.params.toList,P.readableRec t=true∧t < P.types.size:=fun t ht=>by
  have:=List.all_eq_true.1 hr t ht
  simpa using this
 have hres:∀(b:Nat) (sp:Nat→Bool) (hd:Bool),DataW.TrodAll enc P W' b sp hd [tb] [.bool true] [.lit (.bool true)] []:=fun b sp hd=>trodAll_cons_mk (shut_bool htb _) trodAll_mk0
 have hargs:∀sp:Nat→Bool,(∀x∈before,sp x.block=true)→DataW.TrodAll enc P W' 0 sp true f.params.toList args.toList ds before:=fun sp hsp=>
  trodAll_stays hl hr' hA (fun x hx=>hb.same (hlt x hx)) hsp
 refine⟨ds,[],before,[],before,[],hW0,?_,?_,?_,?_,fun h=>by cases h⟩
 ·rw[hrt,List.append_nil,hfn];exact hres _ _ _
 ·rw[List.append_nil,hfn];exact hargs _ hold
 ·rw[List.append_nil,hfn,hv];exact rfl
 ·exact World.keptBut_mono (fun x hx=>⟨hx,.inr (.inl hx)⟩) (hb.frame (· ∈ before))
theorem addr_spot {w:World}{a:Addr}{v:Value}(h:w.cell? a=some v):a=⟨a.block,a.off,none⟩:=by
 unfold World.cell? at h;split at h
 ·split at h
  ·cases h
  ·rename_i hs
   cases a with
   | mk b o s=>
    cases s with
    | none=>rfl
    | some x=>simp at hs
 ·cases h
theorem ints_of_trod {w:World}{t e:TypeId}{v:Value}{d:DataW H}{ps:List MemPlace}(ht:P.underlying t=some (.slice e)) (he:P.underlying e=some (.int .i64)) (hc:P.cellsOf e=1) (hby:P.bytesOf e=8)
  {fuel:Nat} (h:DataW.trod enc P w 0 (fun _=>true) true fuel t [v]=some (d,ps)) (hw:∀n∈d.weights P t,n≤reachBytes):∃xs,Ints w v xs:=by
 rcases open_slice1 ht hc h with⟨h1,h2⟩|⟨a,len,cap,m,n,V,D,Pl,h1,_,hl,hm,hmm,h2,hx⟩
 ·obtain rfl:v = .slice none 0 0:=by simpa using h1
  exact⟨[],Ints.nil _ _ _⟩
 ·obtain rfl:v = .slice (some a) len cap:=by simpa using h1
  simp only[if_true] at hmm;subst hmm;obtain⟨rfl,_⟩:=Prod.mk.injEq ..▸h2;have hsz:=hw ((len+(m - len)) * 8) (by simp[DataW.weights,ht,hby]);unfold reachBytes at hsz
  have hxs:∀i,i < len→∃k,w.cell? (a.add i)=some (.int .i64 k):=fun i hi=>by
   obtain⟨g1,g2⟩:=hx i (by omega);obtain⟨k,hk,_⟩:=DataW.trod_int he g2;obtain hk:V i = .int .i64 k:=(by simpa using hk);exact⟨k,by rw[g1,hk]⟩
  have hlen:len≤17592186044416:=by omega
  refine⟨(List.range len).map (fun i=>match w.cell? (a.add i) with|some (.int _ k)=>k|_=>0),some a,m,a.block,a.off,by simp,fun h0=>?_,fun j hj=>?_,by simpa using hlen⟩
  ·obtain⟨k,hk⟩:=hxs 0 (by simpa using h0);rw[show a.add 0=a by simp[Addr.add]] at hk;rw[←addr_spot hk]
  ·have hj':j < len:=(by simpa using hj);obtain⟨k0,hk0⟩:=hxs 0 (by omega);rw[show a.add 0=a by simp[Addr.add]] at hk0;obtain⟨k,hk⟩:=hxs j hj'
   have e:a.add j=⟨a.block,a.off+j,none⟩:=by
    have:=addr_spot hk0
    rw[this];exact add_plain _ _ _
   rw[←e,hk];simp[hj',hk]
theorem intss_of_trod {w:World}{t e q:TypeId}{v:Value}{d:DataW H}{ps:List MemPlace}(ht:P.underlying t=some (.slice e)) (he:P.underlying e=some (.slice q)) (hq:P.underlying q=some (.int .i64)) (hc:P.cellsOf e=1) (hby:P.bytesOf e=24) (hcq:P.cellsOf q=1) (hbq:P.bytesOf q=8)
  {fuel:Nat} (h:DataW.trod enc P w 0 (fun _=>true) true fuel t [v]=some (d,ps)) (hw:∀n∈d.weights P t,n≤reachBytes):∃xs,Intss w v xs:=by
 rcases open_slice1 ht hc h with⟨h1,h2⟩|⟨a,len,cap,m,n,V,D,Pl,h1,_,hl,hm,hmm,h2,hx⟩
 ·obtain rfl:v = .slice none 0 0:=by simpa using h1
  exact⟨[],none,0,0,0,rfl,by simp,by intro j hj;simp at hj,by simp⟩
 ·obtain rfl:v = .slice (some a) len cap:=by simpa using h1
  simp only[if_true] at hmm;subst hmm;obtain⟨rfl,_⟩:=Prod.mk.injEq ..▸h2;have hsz:=hw ((len+(m - len)) * 24) (by simp[DataW.weights,ht,hby]);unfold reachBytes at hsz
  have hxs:∀i,i < len→∃xs,Ints w (V i) xs:=fun i hi=>by
   obtain⟨g1,g2⟩:=hx i (by omega);refine ints_of_trod he hq hcq hbq g2 fun n hn=>hw n ?_;simp only[DataW.weights,ht,List.mem_cons,List.mem_append];right;left
   have:∀ {l:List (DataW H)} {x:DataW H},x∈l→∀n∈x.weights P e,n∈DataW.weightsAll P e l:=by
    intro l;induction l with
    | nil=>intro x hx;cases hx
    | cons y r ih=>
     intro x hx n hn;simp only[DataW.weightsAll,List.mem_append];rcases List.mem_cons.1 hx with rfl|hx
     ·exact .inl hn
     ·exact .inr (ih hx n hn)
   exact this (List.mem_map_of_mem (List.mem_range.2 hi)) n hn
  have hlen:len≤5864062014805:=by omega
  obtain⟨X,hX⟩:∃X:Nat→List Int,∀i,i < len→Ints w (V i) (X i):=⟨fun i=>if h:i < len then (hxs i h).choose else [],fun i hi=>by simp only[hi,dif_pos];exact(hxs i hi).choose_spec⟩;refine⟨(List.range len).map X,some a,m,a.block,a.off,by simp,fun h0=>?_,fun j hj=>?_,by simpa using hlen⟩
  ·have hk:=(hx 0 (by have:0 < len:=(by simpa using h0);omega)).1;rw[show a.add 0=a by simp[Addr.add]] at hk;rw[←addr_spot hk]
  ·have hj':j < len:=(by simpa using hj);have hk0:=(hx 0 (by omega)).1;rw[show a.add 0=a by simp[Addr.add]] at hk0
   have e1:a.add j=⟨a.block,a.off+j,none⟩:=by
    rw[addr_spot hk0];exact add_plain _ _ _
   refine⟨V j,by rw[←e1];exact(hx j (by omega)).1,?_⟩;have:((List.range len).map X).getD j []=X j:=by simp[hj']
   rw[this];exact hX j hj'
end
end Go.Proofs.YtmikofeildnpdaaGreat
