/- Texts of this claim, put together: UP UQ PB0 PB PC. -/
import Derived.Test.YtcnedkkcgdkioaaGreatKSz

set_option maxRecDepth 100000
set_option maxHeartbeats 12800000
namespace Go.Proofs.YtcnedkkcgdkioaaGreat
def insG {α:Type}(cmp:α->α->Int) (x:α):List α->List α
 | []=>[x]
 | y::l=>if cmp x y < 0 then x::y::l else y::insG cmp x l
def putG {α:Type} [DecidableEq α] (cmp:α->α->Int) (l:List α) (x:α):List α:=if x∈l then l else insG cmp x l
structure OrdP {α:Type} (S:α->Prop) (cmp:α->α->Int):Prop where
 asymm:∀a b,cmp a b < 0->¬cmp b a < 0
 trans:∀a b c,cmp a b < 0->cmp b c < 0->cmp a c < 0
 total:∀a b,S a->S b->cmp a b < 0\/a=b\/cmp b a < 0
def AscG {α:Type}(cmp:α->α->Int) (l:List α):Prop:=l.Pairwise fun a b=>cmp a b < 0
section
variable {α:Type} {cmp:α->α->Int} {S:α->Prop}
theorem insG_mem {x y:α}:∀ {l:List α},y∈insG cmp x l↔y=x\/y∈l
 | []=>by simp[insG]
 | z::l=>by
  rw[insG];split
  ·simp
  ·rw[List.mem_cons,insG_mem (l:=l),List.mem_cons];constructor
   ·rintro(h|h|h)<;>simp[h]
   ·rintro(h|h|h)<;>simp[h]
theorem insG_asc (hO:OrdP S cmp) {x:α}(hx:S x):∀ {l:List α},(∀y∈l,S y)->x ∉ l->AscG cmp l->AscG cmp (insG cmp x l)
 | [],_,_,_=>by simp[insG,AscG]
 | z::l,hl,hn,h=>by
  have hz:=hl z (by simp);rw[AscG,List.pairwise_cons] at h;rw[insG];split
  ·rename_i h1
   rw[AscG,List.pairwise_cons,List.pairwise_cons];refine⟨fun b hb=>?_,h⟩;rcases List.mem_cons.1 hb with rfl|hb
   ·exact h1
   ·exact hO.trans _ _ _ h1 (h.1 b hb)
  ·rename_i h1
   rw[AscG,List.pairwise_cons];refine⟨fun b hb=>?_,insG_asc hO hx (fun y hy=>hl y (by simp[hy])) (fun h=>hn (by simp[h])) h.2⟩;rcases insG_mem.1 hb with rfl|hb
   ·rcases hO.total z b hz hx with h2|h2|h2
    ·exact h2
    ·subst h2;exact absurd (by simp) hn
    ·exact absurd h2 h1
   ·exact h.1 b hb
variable [DecidableEq α]
theorem putG_mem {x y:α}{l:List α}:y∈putG cmp l x↔y=x\/y∈l:=by
 rw[putG];split
 ·rename_i h
  constructor
  ·exact .inr
  ·rintro(rfl|h1)
   ·exact h
   ·exact h1
 ·exact insG_mem
theorem putG_asc (hO:OrdP S cmp) {x:α}(hx:S x) {l:List α}(hl:∀y∈l,S y) (h:AscG cmp l):AscG cmp (putG cmp l x):=by
 rw[putG];split
 ·exact h
 ·rename_i hn
  exact insG_asc hO hx hl hn h
theorem putG_all {y:α}:∀ {xs l:List α},y∈xs.foldl (putG cmp) l↔y∈xs\/y∈l
 | [],l=>by simp
 | x::xs,l=>by
  rw[List.foldl_cons,putG_all (xs:=xs),putG_mem,List.mem_cons];constructor
  ·rintro(h|h|h)<;>simp[h]
  ·rintro((h|h)|h)<;>simp[h]
theorem putG_ascs (hO:OrdP S cmp):∀ {xs l:List α},(∀y∈xs,S y)->(∀y∈l,S y)->AscG cmp l->AscG cmp (xs.foldl (putG cmp) l)
 | [],_,_,_,h=>h
 | x::xs,l,hx,hl,h=>by
  rw[List.foldl_cons];refine putG_ascs hO (fun y hy=>hx y (by simp[hy])) (fun y hy=>?_) (putG_asc hO (hx x (by simp)) hl h);rcases putG_mem.1 hy with rfl|hy
  ·exact hx _ (by simp)
  ·exact hl y hy
omit [DecidableEq α] in
theorem ascG_unique (hO:OrdP S cmp) {l1 l2:List α}(h1:AscG cmp l1) (h2:AscG cmp l2) (h:∀x,x∈l1↔x∈l2):l1=l2:=sorted_unique (lt:=fun a b=>cmp a b < 0) hO.asymm h1 h2 h
def cpG:List α->List α
 | []=>[]
 | [x]=>[x]
 | x::y::r=>if x=y then cpG (y::r) else x::cpG (y::r)
theorem cpG_mem:∀(l:List α) (z:α),z∈cpG l↔z∈l
 | [],z=>by simp[cpG]
 | [x],z=>by simp[cpG]
 | x::y::r,z=>by
  rw[cpG];have ih:=cpG_mem (y::r) z;by_cases e:x=y
  ·rw[if_pos e,ih,e];simp
  ·rw[if_neg e,List.mem_cons,ih];simp
theorem cpG_asc (hO:OrdP S cmp):∀ {l:List α},(∀y∈l,S y)->l.Pairwise (fun a b=>¬cmp b a < 0)->AscG cmp (cpG l)
 | [],_,_=>by simp[cpG,AscG]
 | [x],_,_=>by simp[cpG,AscG]
 | x::y::r,hl,h=>by
  have ih:=cpG_asc hO (l:=y::r) (fun z hz=>hl z (List.mem_cons_of_mem _ hz)) (List.pairwise_cons.1 h).2;rw[cpG];by_cases e:x=y
  ·rw[if_pos e];exact ih
  ·rw[if_neg e,AscG,List.pairwise_cons];refine⟨fun b hb=>?_,ih⟩;have hb:=(cpG_mem (y::r) b).1 hb;have h0:=(List.pairwise_cons.1 h).1
   have hxy:cmp x y < 0:=by
    rcases hO.total x y (hl x (by simp)) (hl y (by simp)) with h2|h2|h2
    ·exact h2
    ·exact absurd h2 e
    ·exact absurd h2 (h0 y (by simp))
   rcases List.mem_cons.1 hb with rfl|hb1
   ·exact hxy
   ·have hyb:=(List.pairwise_cons.1 (List.pairwise_cons.1 h).2).1 b hb1;rcases hO.total x b (hl x (by simp)) (hl b (by simp[hb1])) with h2|h2|h2
    ·exact h2
    ·subst h2;exact absurd hxy hyb
    ·exact absurd h2 (h0 b hb)
end
def W2 (w:Jb):Prop:=∀r∈w,r.length=2
def cmpX (a b:Jb):Int:=cmpL a.flatten b.flatten
theorem flat_inj2:∀ {u v:Jb},W2 u->W2 v->u.flatten=v.flatten->u=v
 | [],[],_,_,_=>rfl
 | [],b::v,_,hv,h=>by
  have:=hv b (by simp)
  have h2:=congrArg List.length h;simp only[List.flatten_nil,List.flatten_cons,List.length_append,List.length_nil] at h2;omega
 | a::u,[],hu,_,h=>by
  have:=hu a (by simp)
  have h2:=congrArg List.length h;simp only[List.flatten_nil,List.flatten_cons,List.length_append,List.length_nil] at h2;omega
 | a::u,b::v,hu,hv,h=>by
  rw[List.flatten_cons,List.flatten_cons] at h;obtain⟨h1,h2⟩:=List.append_inj h (by rw[hu a (by simp),hv b (by simp)]);rw[h1,flat_inj2 (fun r hr=>hu r (by simp[hr])) (fun r hr=>hv r (by simp[hr])) h2]
theorem ordX:OrdP W2 cmpX where
 asymm _ _ h:=cmpL_asymm _ _ h
 trans _ _ _ h1 h2:=cmpL_trans _ _ _ h1 h2
 total a b ha hb:=by
  rcases cmpL_total a.flatten b.flatten with h|h|h
  ·exact .inl h
  ·exact .inr (.inl (flat_inj2 ha hb h))
  ·exact .inr (.inr h)
theorem ordV:OrdP (fun _=>True) cmpL where
 asymm _ _ h:=cmpL_asymm _ _ h
 trans _ _ _ h1 h2:=cmpL_trans _ _ _ h1 h2
 total a b _ _:=cmpL_total a b
def vOk (v:List Int):Prop:=0<=v.getD 0 0/\v.getD 0 0 < 8/\0<=v.getD 1 0/\v.getD 1 0<=1048576
instance (v:List Int):Decidable (vOk v):=by unfold vOk;infer_instance
def vxE (s:Jb) (k:Nat):Int:=if ¬vOk (s.getD k []) then 2 else if 0 < k/\0<=cmpL (s.getD (k - 1) []) (s.getD k []) then 14 else 0
def chkX (s:Jb):Int:=if s.length=0 then 16 else if 8 < s.length then 5 else firstE (vxE s) s.length 0
def subB (a b:Jb):Bool:=a.all fun v=>decide (v∈b)
theorem subB_iff {a b:Jb}:subB a b=true↔∀v∈a,v∈b:=by simp[subB]
def covB (l:Jc) (s:Jb):Bool:=l.any fun t=>decide (s.length < t.length) && subB s t
theorem covB_iff {l:Jc}{s:Jb}:covB l s=true↔∃t∈l,s.length < t.length/\∀v∈s,v∈t:=by simp[covB,subB]
theorem covB_congr {l m:Jc}(h:∀x,x∈l↔x∈m) (s:Jb):covB l s=covB m s:=by
 rw[Bool.eq_iff_iff,covB_iff,covB_iff];exact⟨fun⟨t,h1,h2⟩=>⟨t,(h t).1 h1,h2⟩,fun⟨t,h1,h2⟩=>⟨t,(h t).2 h1,h2⟩⟩
def mxPut (l:Jc):Jc->Jc->Jc
 | [],out=>out
 | s::r,out=>mxPut l r (if 0 < s.length/\covB l s=false then putG cmpX out s else out)
def maxX (l:Jc):Jc:=mxPut l l []
theorem mxPut_eq (l:Jc):∀(r out:Jc),mxPut l r out=(r.filter fun s=>decide (0 < s.length/\covB l s=false)).foldl (putG cmpX) out
 | [],out=>rfl
 | s::r,out=>by
  rw[mxPut,mxPut_eq l r,List.filter_cons];by_cases h:0 < s.length/\covB l s=false
  ·rw[if_pos h,if_pos (decide_eq_true h),List.foldl_cons]
  ·rw[if_neg h,if_neg (by simpa using h)]
theorem maxX_mem {l:Jc}{s:Jb}:s∈maxX l↔s∈l/\0 < s.length/\covB l s=false:=by
 rw[maxX,mxPut_eq,putG_all,List.mem_filter];simp
theorem maxX_asc {l:Jc}(h2:∀s∈l,W2 s):AscG cmpX (maxX l):=by
 rw[maxX,mxPut_eq];exact putG_ascs ordX (fun y hy=>h2 y (List.mem_filter.1 hy).1) (fun y hy=>by cases hy) (by simp[AscG])
theorem covB_drop {l:Jc}(s:Jb):covB (l.filter fun t=>decide (0 < t.length)) s=covB l s:=by
 rw[Bool.eq_iff_iff,covB_iff,covB_iff];constructor
 ·rintro⟨t,h1,h2⟩;exact⟨t,(List.mem_filter.1 h1).1,h2⟩
 ·rintro⟨t,h1,h2⟩;exact⟨t,List.mem_filter.2 ⟨h1,decide_eq_true (by omega)⟩,h2⟩
theorem maxX_drop {l:Jc}(h2:∀s∈l,W2 s):maxX (l.filter fun t=>decide (0 < t.length))=maxX l:=by
 refine ascG_unique ordX (maxX_asc fun s hs=>h2 s (List.mem_filter.1 hs).1) (maxX_asc h2) fun x=>?_;rw[maxX_mem,maxX_mem,covB_drop,List.mem_filter];simp only[decide_eq_true_eq];exact⟨fun⟨h,h3,h4⟩=>⟨h.1,h3,h4⟩,fun⟨h,h3,h4⟩=>⟨⟨h,h3⟩,h3,h4⟩⟩
def ptsX (l:Jc):Jb:=l.foldl (fun out f=>f.foldl (putG cmpL) out) []
theorem ptsG_mem {v:List Int}:∀(l:Jc) (out:Jb),v∈l.foldl (fun out f=>f.foldl (putG cmpL) out) out↔v∈l.flatten\/v∈out
 | [],out=>by simp
 | f::l,out=>by
  rw[List.foldl_cons,ptsG_mem l,putG_all,List.flatten_cons,List.mem_append];constructor
  ·rintro(h|h|h)<;>simp[h]
  ·rintro((h|h)|h)<;>simp[h]
theorem ptsG_asc:∀(l:Jc) (out:Jb),AscG cmpL out->AscG cmpL (l.foldl (fun out f=>f.foldl (putG cmpL) out) out)
 | [],_,h=>h
 | f::l,out,h=>by
  rw[List.foldl_cons];exact ptsG_asc l _ (putG_ascs ordV (fun _ _=>trivial) (fun _ _=>trivial) h)
theorem ptsX_mem {v:List Int}{l:Jc}:v∈ptsX l↔∃s∈l,v∈s:=by
 rw[ptsX,ptsG_mem,List.mem_flatten];simp
theorem ptsX_asc (l:Jc):AscG cmpL (ptsX l):=ptsG_asc l [] (by simp[AscG])
theorem ptsX_sorted {l:Jc}{m:Jb}(hp:m.Perm l.flatten) (hs:m.Pairwise fun a b=>¬cmpL b a < 0):cpG m=ptsX l:=
 ascG_unique ordV (cpG_asc ordV (fun _ _=>trivial) hs) (ptsX_asc l) fun x=>by
  rw[cpG_mem,hp.mem_iff,ptsX_mem,List.mem_flatten]
theorem chkX_asc {s:Jb}(h:chkX s=0):AscG cmpL s/\(∀v∈s,vOk v)/\0 < s.length/\s.length<=8:=by
 rw[chkX] at h;split at h
 ·cases h
 ·split at h
  ·cases h
  ·rename_i h0 h8
   have hf:=(firstE_zero _ _).1 h;refine⟨?_,fun v hv=>?_,by omega,by omega⟩
   ·have hs:∀k,k+1 < s.length->cmpL (s.getD k []) (s.getD (k+1) []) < 0:=fun k hk=>by
     have:=hf (k+1) (by omega) (by omega)
     rw[vxE] at this;split at this
     ·cases this
     ·split at this
      ·cases this
      ·rename_i h1;rw[Nat.add_sub_cancel] at h1;omega
    have hg:∀d k,k+d+1 < s.length->cmpL (s.getD k []) (s.getD (k+d+1) []) < 0:=by
     intro d;induction d with
     | zero=>exact fun k hk=>hs k hk
     | succ d ih=>exact fun k hk=>cmpL_trans _ _ _ (ih k (by omega)) (hs (k+d+1) (by omega))
    rw[AscG,List.pairwise_iff_getElem];intro i j hi hj hij;have:=hg (j - i - 1) i (by omega)
    rw[show i+(j - i - 1)+1=j by omega] at this;simpa [List.getD_eq_getElem?_getD,hi,hj] using this
   ·obtain⟨k,hk,rfl⟩:=List.mem_iff_getElem.1 hv;have:=hf k (by omega) (by omega)
    rw[vxE] at this;split at this
    ·cases this
    ·rename_i h1
     have:=Classical.not_not.1 h1
     simpa [List.getD_eq_getElem?_getD,hk] using this
theorem chkX_zero {s:Jb}(h1:AscG cmpL s) (h2:∀v∈s,vOk v) (h3:0 < s.length) (h4:s.length<=8):chkX s=0:=by
 rw[chkX,if_neg (by omega),if_neg (by omega)];refine(firstE_zero _ _).2 fun k _ hk=>?_;have hk:k < s.length:=by omega
 rw[vxE,if_neg,if_neg]
 ·rintro⟨h5,h6⟩;have:=(List.pairwise_iff_getElem.1 h1) (k - 1) k (by omega) (by omega) (by omega)
  rw[List.getD_eq_getElem?_getD,List.getD_eq_getElem?_getD,List.getElem?_eq_getElem hk,List.getElem?_eq_getElem (show k - 1 < s.length by omega)] at h6;exact absurd this (by simpa using h6)
 ·intro h5;refine h5 ?_;rw[List.getD_eq_getElem?_getD,List.getElem?_eq_getElem hk];exact h2 _ (List.getElem_mem hk)
end Go.Proofs.YtcnedkkcgdkioaaGreat
namespace Go.Proofs.YtcnedkkcgdkioaaGreat
def VwOK (n:Nat) (vs:Jb) (v:List Int):Prop:=
 v.length=8/\(∃p:Nat,v.getD 0 0=(p:Int)/\p < n)/\∃k:Nat,v.getD 1 0=(k:Int)/\(0 < k->∃j:Nat,v.getD (3+(v.getD 0 0).toNat) 0=(j:Int)/\j < vs.length/\(vs.getD j []).getD 0 0=v.getD 0 0/\(vs.getD j []).getD 1 0=((k - 1:Nat):Int))
def TabOK (n:Nat) (vs:Jb):Prop:=∀v∈vs,VwOK n vs v
def RowOK (n:Nat) (vs:Jb) (k:Nat) (l:List Int):Prop:=
 l.length=n/\∀p,p < n->∃j:Nat,l.getD p 0=(j:Int)/\j < vs.length/\(vs.getD j []).getD 0 0=(p:Int)/\(vs.getD j []).getD 1 0=(k:Int)
theorem getD_app {α:Type}{l t:List α}{j:Nat}{d:α}(h:j < l.length):(l++t).getD j d=l.getD j d:=by
 rw[List.getD_eq_getElem?_getD,List.getD_eq_getElem?_getD,List.getElem?_append_left h]
theorem VwOK.pre {n:Nat}{vs:Jb}{v:List Int}(h:VwOK n vs v) (t:Jb):VwOK n (vs++t) v:=by
 obtain⟨h1,h2,k,h3,h4⟩:=h;refine⟨h1,h2,k,h3,fun h0=>?_⟩;obtain⟨j,g1,g2,g3,g4⟩:=h4 h0;exact⟨j,g1,by rw[List.length_append];omega,by rw[getD_app g2];exact g3,by rw[getD_app g2];exact g4⟩
theorem RowOK.pre {n k:Nat}{vs:Jb}{l:List Int}(h:RowOK n vs k l) (t:Jb):RowOK n (vs++t) k l:=by
 refine⟨h.1,fun p hp=>?_⟩;obtain⟨j,g1,g2,g3,g4⟩:=h.2 p hp;exact⟨j,g1,by rw[List.length_append];omega,by rw[getD_app g2];exact g3,by rw[getD_app g2];exact g4⟩
theorem putV_pre (vs:Jb) (v:List Int):∃t,putV vs v=vs++t:=by
 unfold putV;split
 ·exact⟨[],by simp⟩
 ·exact⟨[v],rfl⟩
theorem TabOK.put {n:Nat}{vs:Jb}{v:List Int}(h:TabOK n vs) (hv:VwOK n vs v):TabOK n (putV vs v):=by
 obtain⟨t,ht⟩:=putV_pre vs v;intro x hx;rw[ht];rcases putV_mem.1 hx with h1|rfl
 ·exact(h x h1).pre t
 ·exact hv.pre t
theorem ixOf_at {κ:Type} [DecidableEq κ] {l:List κ}{x d:κ}(h:x∈l):l.getD (ixOf l x) d=x:=by
 have hl:=ixOf_ltV h;rw[getD_eq hl];exact List.getElem_idxOf hl
section
variable {f:Nat->List Int} {vs:Jb}
theorem idN_pre:∀k,∃t,(idN f vs k).1=vs++t
 | 0=>⟨[],by simp[idN]⟩
 | k+1=>by
  obtain⟨t,ht⟩:=idN_pre k;obtain⟨u,hu⟩:=putV_pre (idN f vs k).1 (f k);exact⟨t++u,by rw[idN];show putV _ _=_;rw[hu,ht,List.append_assoc]⟩
theorem idN_tab {n:Nat}(h:TabOK n vs):∀k,(∀p,p < k->VwOK n vs (f p))->TabOK n (idN f vs k).1
 | 0,_=>h
 | k+1,hf=>by
  obtain⟨t,ht⟩:=idN_pre (f:=f) (vs:=vs) k;rw[idN];refine TabOK.put (idN_tab h k fun p hp=>hf p (by omega)) ?_;rw[ht];exact(hf k (by omega)).pre t
theorem idN_at:∀k p,p < k->∃j:Nat,(idN f vs k).2.getD p 0=(j:Int)/\j < (idN f vs k).1.length/\(idN f vs k).1.getD j []=f p
 | 0,p,hp=>absurd hp (by omega)
 | k+1,p,hp=>by
  rw[idN];by_cases e:p=k
  ·subst e;have hm:f p∈putV (idN f vs p).1 (f p):=putV_mem.2 (.inr rfl);have hl:=ixOf_ltV hm;refine⟨ixOf (putV (idN f vs p).1 (f p)) (f p),?_,hl,?_⟩
   ·show(_ ++ [_]).getD p 0=_
    rw[List.getD_eq_getElem?_getD,List.getElem?_append_right (by rw[idN_len];exact Nat.le_refl _),idN_len,Nat.sub_self];rfl
   ·show(putV _ _).getD _ []=_
    exact ixOf_at hm
  ·obtain⟨j,h1,h2,h3⟩:=idN_at k p (by omega);obtain⟨u,hu⟩:=putV_pre (idN f vs k).1 (f k);refine⟨j,?_,?_,?_⟩
   ·show(_ ++ [_]).getD p 0=_
    rw[getD_app (by rw[idN_len];omega)];exact h1
   ·show j < (putV _ _).length;rw[hu,List.length_append];omega
   ·show(putV _ _).getD j []=_
    rw[hu,getD_app h2];exact h3
end
theorem herL_at {hs:Int}{bf:List Int}{q:Nat}(h5:q < 5) (hb:q < bf.length) (hh:hasI hs (q:Int)=true):(herL hs bf).getD q 0=bf.getD q 0:=by
 unfold herL;rw[List.getD_eq_getElem?_getD,List.getElem?_map,List.getElem?_range h5];simp[hb,hh]
theorem seeV_len (r:List Int) (k p:Nat) (bf:List Int):(seeV r k p bf).length=8:=by simp[seeV,herL]
theorem seeV_own {r:List Int}{k p:Nat}{bf:List Int}(h5:p < 5) (hb:p < bf.length) (hh:hasI (r.getD (1+p) 0) (p:Int)=true):(seeV r k p bf).getD (3+p) 0=bf.getD p 0:=by
 rw[<-herL_at h5 hb hh];unfold seeV;rw[List.getD_eq_getElem?_getD,List.getD_eq_getElem?_getD,List.getElem?_append_right (by simp)];simp
def SelfW (n:Nat) (wd:Jb):Prop:=∀k,k < wd.length->∀p,p < n->hasI ((wd.getD k []).getD (1+p) 0) (p:Int)=true
theorem plN_pre (n:Nat) (xs:List Int) (wd:Jb) (vs:Jb):∀k,∃t,(plN n xs wd vs k).1=vs++t
 | 0=>idN_pre n
 | k+1=>by
  obtain⟨t,ht⟩:=plN_pre n xs wd vs k;rw[plN];obtain⟨u,hu⟩:=idN_pre (f:=fun p=>seeV (wd.getD k []) (k+1) p ((plN n xs wd vs k).2.getD k [])) (vs:=(plN n xs wd vs k).1) n;exact⟨t++u,by rw[hu,ht,List.append_assoc]⟩
theorem rowOf {n:Nat}{f:Nat->List Int}{vs:Jb}{k:Nat}(h0:∀p,p < n->(f p).getD 0 0=(p:Int)) (h1:∀p,p < n->(f p).getD 1 0=(k:Int)):RowOK n (idN f vs n).1 k (idN f vs n).2:=
 ⟨idN_len n,fun p hp=>by
  obtain⟨j,g1,g2,g3⟩:=idN_at (f:=f) (vs:=vs) n p hp;exact⟨j,g1,g2,by rw[g3];exact h0 p hp,by rw[g3];exact h1 p hp⟩⟩
theorem plN_row {n:Nat}{xs:List Int}{wd:Jb}{vs:Jb}{k j:Nat}(h:j<=k):(plN n xs wd vs (k+1)).2.getD j []=(plN n xs wd vs k).2.getD j []:=by
 rw[plN];show(_ ++ [_]).getD j []=_
 rw[getD_app (by rw[plN_len];omega)]
theorem plN_tab {n:Nat}{xs:List Int}{wd:Jb}{vs:Jb}(hn:n<=5) (h:TabOK n vs) (hs:SelfW n wd):∀k,k<=wd.length->TabOK n (plN n xs wd vs k).1/\∀j,j<=k->RowOK n (plN n xs wd vs k).1 j ((plN n xs wd vs k).2.getD j [])
 | 0,_=>by
  refine⟨idN_tab h n fun p hp=>⟨rfl,⟨p,rfl,hp⟩,0,rfl,fun h=>absurd h (by omega)⟩,fun j hj=>?_⟩;obtain rfl:j=0:=by omega
  exact rowOf (fun p hp=>rfl) (fun p hp=>rfl)
 | k+1,hk=>by
  obtain⟨h1,h2⟩:=plN_tab hn h hs k (by omega);have hR:=h2 k (Nat.le_refl _);obtain⟨u,hu⟩:=idN_pre (f:=fun p=>seeV (wd.getD k []) (k+1) p ((plN n xs wd vs k).2.getD k [])) (vs:=(plN n xs wd vs k).1) n;constructor
  ·rw[plN];refine idN_tab h1 n fun p hp=>?_;have hown:=seeV_own (r:=wd.getD k []) (k:=k+1) (p:=p) (bf:=(plN n xs wd vs k).2.getD k []) (by omega) (by rw[hR.1];exact hp) (hs k (by omega) p hp);obtain⟨j,g1,g2,g3,g4⟩:=hR.2 p hp;refine⟨seeV_len _ _ _ _,⟨p,rfl,hp⟩,k+1,rfl,fun _=>⟨j,?_,g2,g3,by rw[Nat.add_sub_cancel];exact g4⟩⟩;rw[<-g1,<-hown];rfl
  ·intro j hj;by_cases e:j=k+1
   ·subst e
    have:(plN n xs wd vs (k+1)).2.getD (k+1) []=(idN (fun p=>seeV (wd.getD k []) (k+1) p ((plN n xs wd vs k).2.getD k [])) (plN n xs wd vs k).1 n).2:=by
     rw[plN];show(_ ++ [_]).getD (k+1) []=_
     rw[List.getD_eq_getElem?_getD,List.getElem?_append_right (by rw[plN_len];exact Nat.le_refl _),plN_len,Nat.sub_self];rfl
    rw[this,plN];exact rowOf (fun p hp=>rfl) (fun p hp=>rfl)
   ·rw[plN_row (by omega)];rw[plN,hu];exact(h2 j (by omega)).pre u
structure ExOK (n r:Nat) (vs:Jb) (x:Ex):Prop where
 word:x.2.1.length=r
 views:x.2.2.length=r+1
 rows:∀j,j<=r->RowOK n vs j (x.2.2.getD j [])
theorem ExOK.pre {n r:Nat}{vs:Jb}{x:Ex}(h:ExOK n r vs x) (t:Jb):ExOK n r (vs++t) x:=⟨h.word,h.views,fun j hj=>(h.rows j hj).pre t⟩
theorem exeL_pre (n:Nat):∀(l:List (Int × List Int × Jb)) (vs:Jb),∃t,(exeL n vs l).1=vs++t
 | [],vs=>⟨[],by simp[exeL]⟩
 | (c,xs,wd)::l,vs=>by
  obtain⟨t,ht⟩:=plN_pre n xs wd vs wd.length;obtain⟨u,hu⟩:=exeL_pre n l (plN n xs wd vs wd.length).1;exact⟨t++u,by rw[exeL];show(exeL _ _ l).1=_;rw[hu,ht,List.append_assoc]⟩
theorem exeL_ok {n r:Nat}(hn:n<=5):∀(l:List (Int × List Int × Jb)) (vs:Jb),TabOK n vs->(∀x∈l,x.2.2.length=r/\SelfW n x.2.2)->TabOK n (exeL n vs l).1/\∀x∈(exeL n vs l).2,ExOK n r (exeL n vs l).1 x
 | [],vs,h,_=>⟨h,fun x hx=>by cases hx⟩
 | (c,xs,wd)::l,vs,h,hl=>by
  obtain⟨w1,w2⟩:=hl (c,xs,wd) (by simp);obtain⟨p1,p2⟩:=plN_tab (xs:=xs) hn h w2 wd.length (Nat.le_refl _);obtain⟨q1,q2⟩:=exeL_ok hn l (plN n xs wd vs wd.length).1 p1 (fun x hx=>hl x (by simp[hx]));obtain⟨u,hu⟩:=exeL_pre n l (plN n xs wd vs wd.length).1;rw[exeL];refine⟨q1,fun x hx=>?_⟩;rcases List.mem_cons.1 hx with rfl|hx
  ·show ExOK n r (exeL n _ l).1 _;rw[hu];refine ExOK.pre ⟨w1,?_,fun j hj=>p2 j (by rw[w1];exact hj)⟩ u;show(plN n xs wd vs wd.length).2.length=_
   rw[plN_len,w1]
  ·exact q2 x hx
def simN (ok:Nat->Bool) (l:List Int):Nat->Jb
 | 0=>[]
 | k+1=>if ok k=true then simN ok l k ++ [[(k:Int),l.getD k 0]] else simN ok l k
theorem simN_mem {ok:Nat->Bool}{l:List Int}{v:List Int}:∀ {k:Nat},v∈simN ok l k↔∃p,p < k/\ok p=true/\v = [(p:Int),l.getD p 0]
 | 0=>⟨fun h=>(by cases h),fun⟨p,h,_⟩=>absurd h (by omega)⟩
 | k+1=>by
  rw[simN];split
  ·rename_i hk
   rw[List.mem_append,simN_mem,List.mem_singleton];constructor
   ·rintro(⟨p,h1,h2⟩|h)
    ·exact⟨p,by omega,h2⟩
    ·exact⟨k,by omega,hk,h⟩
   ·rintro⟨p,h1,h2,h3⟩;by_cases e:p=k
    ·subst e;exact .inr h3
    ·exact .inl ⟨p,by omega,h2,h3⟩
  ·rename_i hk
   rw[simN_mem];constructor
   ·rintro⟨p,h1,h2⟩;exact⟨p,by omega,h2⟩
   ·rintro⟨p,h1,h2,h3⟩;by_cases e:p=k
    ·subst e;exact absurd h2 hk
    ·exact⟨p,by omega,h2,h3⟩
theorem simN_len {ok:Nat->Bool}{l:List Int}:∀k,(simN ok l k).length<=k
 | 0=>Nat.le_refl _
 | k+1=>by
  have:=simN_len (ok:=ok) (l:=l) k
  rw[simN];split
  ·rw[List.length_append];simp;omega
  ·omega
theorem simN_w2 {ok:Nat->Bool}{l:List Int}{k:Nat}:W2 (simN ok l k):=fun v hv=>by
 obtain⟨_,_,_,rfl⟩:=simN_mem.1 hv;rfl
theorem simN_asc {ok:Nat->Bool}{l:List Int}:∀k,AscG cmpL (simN ok l k)
 | 0=>by simp[simN,AscG]
 | k+1=>by
  rw[simN];split
  ·rw[AscG,List.pairwise_append];refine⟨simN_asc k,by simp,fun a ha b hb=>?_⟩;obtain⟨p,h1,_,rfl⟩:=simN_mem.1 ha;rw[List.mem_singleton] at hb;subst hb;rw[cmpL_cons];exact .inl (by omega)
  ·exact simN_asc k
theorem simN_chk {ok:Nat->Bool}{l:List Int}{k:Nat}(hk:k<=5) (hb:∀p,p < k->0<=l.getD p 0/\l.getD p 0<=1048576) (h0:0 < (simN ok l k).length):chkX (simN ok l k)=0:=by
 refine chkX_zero (simN_asc k) (fun v hv=>?_) h0 (by have:=simN_len (ok:=ok) (l:=l) k;omega);obtain⟨p,h1,_,rfl⟩:=simN_mem.1 hv;obtain⟨h2,h3⟩:=hb p h1;exact⟨by show(0:Int)<=p;omega,by show(p:Int) < 8;omega,h2,h3⟩
def fltX (x:Ex):Int:=if x.2.1.length=0 then 0 else (x.2.1.getD (x.2.1.length - 1) []).getD 6 0
def simX (n r:Nat) (x:Ex):Jb:=simN (fun p=>!hasI (fltX x) (p:Int)) (x.2.2.getD r []) n
def simsX (n r:Nat) (xs:List Ex) (idx:Int):Jc:=(xs.filter fun x=>decide (idx < 0\/x.1=idx)).map (simX n r)
theorem simX_w2 {n r:Nat}{x:Ex}:W2 (simX n r x):=simN_w2
theorem simX_chk {n r:Nat}{vs:Jb}{x:Ex}(h:ExOK n r vs x) (hn:n<=5) (hv:vs.length<=100000) (h0:0 < (simX n r x).length):chkX (simX n r x)=0:=by
 refine simN_chk hn (fun p hp=>?_) h0;obtain⟨j,g1,g2,_⟩:=(h.rows r (Nat.le_refl _)).2 p hp;rw[g1];exact⟨by omega,by omega⟩
end Go.Proofs.YtcnedkkcgdkioaaGreat
namespace Go.Proofs.YtcnedkkcgdkioaaGreat
theorem covB_pf (l:Jc) (s:Jb):covB l s=l.any fun t=>pf s t:=by
 unfold covB pf subB;congr 1
 funext t
 congr 1
 rw[Bool.eq_iff_iff,List.all_eq_true,decide_eq_true_eq];simp only[decide_eq_true_eq]
theorem cxP_max {ss:Jc}(hv:∀s∈ss,VS s):cxP ss=maxX ss:=by
 refine ascG_unique ordX (layS_asc fun s hs=>hv s (List.mem_filter.1 hs).1) (maxX_asc hv) fun x=>?_;rw[maxX_mem];unfold cxP;rw[layS_mem,List.mem_filter,covB_pf];have e:(!x.isEmpty)=decide (0 < x.length):=by cases x<;>simp
 rw[e,Bool.and_eq_true,decide_eq_true_eq];cases(ss.any fun t=>pf x t)<;>simp
theorem posV_ok {x:List Int}:posV x=true↔vOk x:=by
 unfold posV vOk;simp only[Bool.and_eq_true,decide_eq_true_eq]
theorem simX_sm {n r:Nat}{vs:Jb}{x:Ex}(h:ExOK n r vs x) (hn:n<=5) (hv:vs.length<=100000) (h0:0 < (simX n r x).length):SmS (simX n r x):=by
 obtain⟨h1,h2,h3,h4⟩:=chkX_asc (simX_chk h hn hv h0);exact⟨h3,h4,fun x hx=>posV_ok.2 (h2 x hx),h1⟩
theorem simX_vs {n r:Nat}{x:Ex}:VS (simX n r x):=simX_w2
def simsN (n r:Nat) (xs:List Ex) (idx:Int):Jc:=(simsX n r xs idx).filter fun t=>decide (0 < t.length)
theorem simsN_max {n r:Nat}{xs:List Ex}{idx:Int}:cxP (simsN n r xs idx)=maxX (simsX n r xs idx):=by
 have hw:∀s∈simsX n r xs idx,W2 s:=fun s hs=>by
  obtain⟨x,_,rfl⟩:=List.mem_map.1 hs;exact simX_w2
 have hv:∀s∈simsN n r xs idx,VS s:=fun s hs=>hw s (List.mem_filter.1 hs).1;rw[cxP_max hv];exact maxX_drop hw
theorem simsN_sm {n r:Nat}{vs:Jb}{xs:List Ex}{idx:Int}(h:∀x∈xs,ExOK n r vs x) (hn:n<=5) (hv:vs.length<=100000):∀s∈simsN n r xs idx,VS s/\SmS s:=fun s hs=>by
 obtain⟨h1,h2⟩:=List.mem_filter.1 hs;obtain⟨x,hx,rfl⟩:=List.mem_map.1 h1;exact⟨simX_vs,simX_sm (h x (List.mem_filter.1 hx).1) hn hv (of_decide_eq_true h2)⟩
theorem simsN_len {n r:Nat}{xs:List Ex}{idx:Int}:(simsN n r xs idx).length<=xs.length:=by
 unfold simsN simsX;refine Nat.le_trans (List.length_filter_le _ _) ?_;rw[List.length_map];exact List.length_filter_le _ _
end Go.Proofs.YtcnedkkcgdkioaaGreat
namespace Go.Proofs.YtcnedkkcgdkioaaGreat
open Go.RowKit
theorem hasI_z {s:Int}{k:Nat}(h0:0<=s) (h1:s<=31) (hk:k<=4):(bits BinOp.and IntKind.i64 (s / 2 ^ k) 1 == 0) = !hasI s (k:Int):=by
 have:=and1 (x:=s) (p:=(k:Int)) h0 h1 (by omega) (by omega)
 have e:twoI (k:Int)=2 ^ k:=by
  have:k=0\/k=1\/k=2\/k=3\/k=4:=by omega
  rcases this with rfl|rfl|rfl|rfl|rfl<;>rfl
 rw[e] at this;rw[this];cases hasI s (k:Int)<;>rfl
theorem simplexOfC {w:World}{x:Ex}{u1 u2:Value}{n r:Nat}(k1:KS 7 w u1 x.2.1) (k2:Intss w u2 x.2.2) (hw:x.2.1.length<=10) (hr:x.2.2.length=r+1) (hr9:r<=10) (hl:(x.2.2.getD r []).length=n) (hn1:1<=n) (hn:n<=5) (hf0:0<=fltX x) (hf1:fltX x<=31) :
  Calls Tryz.prog 68 #[.agg #[.int .i64 x.1,u1,u2]] w fun e w'=>∃v,e = .returned v/\OwX 83 2 EI w' w.heap.size v (simX n r x).length (simX n r x)/\Below w.heap.size w w':=by
 obtain⟨cx,wd,vss⟩:=x;obtain⟨F,hF⟩:=exE (fltX (cx,wd,vss));obtain⟨ok,hok⟩:∃ok:Nat->Bool,ok=fun(p:Nat)=>!hasI F (p:Int):=⟨_,rfl⟩;obtain⟨l,hle⟩:=exE (vss.getD r [])
 have hsx:simX n r (cx,wd,vss)=simN ok l n:=by
  unfold simX;rw[hF,hok];show simN _ (vss.getD r []) n=_;rw[hle]
 rw[hsx];simp only at k1 k2 hw hr hl|-
 rw[hF] at hf0 hf1;rw[hle] at hl;obtain⟨wa,wc,rfl⟩:=k1.shape;obtain⟨va,vc,vb,vo,rfl,hva,hvc,-⟩:=k2;obtain rfl:=hva (by omega);obtain⟨lv,clv,klv⟩:=hvc r (by omega);rw[hle] at klv;obtain⟨la,lc,lb,lo,rfl,hla,hlc,-⟩:=klv;obtain rfl:=hla (by omega);obtain⟨M,hM⟩:=exE (vss.length);rw[hM] at hr|-;replace hM:=qH hM;obtain⟨W1,hW1⟩:=exF (w.alloc (.cells #[.int .i64 cx,.slice wa wd.length wc,.slice (some ⟨vb,vo,none⟩) M vc] 80));have hb1:Below w.heap.size w W1:=by rw[hW1];exact(Below.refl _ w).alloc (Nat.le_refl _) _
 have kX:W1.heap[w.heap.size]? = some (.cells #[.int .i64 cx,.slice wa wd.length wc,.slice (some ⟨vb,vo,none⟩) M vc] 80):=by rw[hW1];exact heap_alloc_new _ _
 have x1:W1.cell? ⟨w.heap.size,1,none⟩=some (.slice wa wd.length wc):=by rw[cell_of_row _ _ 1 _ _ _ kX];rfl
 have x2:W1.cell? ⟨w.heap.size,2,none⟩=some (.slice (some ⟨vb,vo,none⟩) M vc):=by rw[cell_of_row _ _ 2 _ _ _ kX];rfl
 have clv1:=cell_kept hb1 clv;have hlc1:=qH (hlc.keep hb1);replace hle:=qH hle;replace hok:=qH hok;replace hsx:=qH hsx;replace hF:=qH hF;have h0:OwX 83 2 EI W1 W1.heap.size (.slice none 0 0) 0 []:=OwX.nil _ _;have hr1:IntKind.i64.wrap ((M:Int) - 1)=(r:Int):=by rw[hr];exact(IntWalk.i64_in _ (by omega)).trans (by omega)
 have hrv:(r:Int) < (M:Int):=by omega
 replace hr:=qH hr;subst hl;clear hlc hvc clv;go_enter Tryz.func68, Tryz.ntmps68
 go_upto_region 2 with fail
 rw[<-hW1];replace hW1:=qH hW1;rcases Nat.eq_zero_or_pos wd.length with hz|hz
 case' inl=>
  have hF0:F=0:=by rw[<-hF.out];unfold fltX;rw[if_pos hz]
  subst hF0;go_wp2_with fail
 case' inr=>
  obtain⟨m,hm⟩:∃m,wd.length=m+1:=⟨wd.length - 1,by omega⟩;obtain⟨wb,wo,rfl,hwc⟩:=k1.at7 hz;obtain⟨f7,fc⟩:=hwc m (by omega)
  have hFm:(wd.getD m []).getD 6 0=F:=by
   rw[<-hF.out];unfold fltX;rw[if_neg (show ¬wd.length=0 by omega)];show _=(wd.getD (wd.length - 1) []).getD 6 0;rw[hm,Nat.add_sub_cancel]
  obtain⟨rr,hrr⟩:=exE (wd.getD m []);rw[hrr] at f7 fc hFm;have fc6:=fc 6 (by omega);rw[hFm] at fc6;replace fc6:=cell_kept hb1 fc6;have hmw:IntKind.i64.wrap ((wd.length:Int) - 1)=(m:Int):=by rw[IntWalk.i64_in _ (by omega)];omega
  have hm1:(m:Int) < (wd.length:Int):=by omega
  have hd:decide ((0:Int) < (wd.length:Int))=true:=decide_eq_true (by omega);replace hm:=qH hm;clear fc f7 hFm hrr hwc k1;go_wp2_with fail
 all_goals
  go_loopw [5,29] (fun ov iv wr=>∃(p:Nat),iv = .int .i64 p/\p<=l.length/\OwX 83 2 EI wr W1.heap.size ov (simN ok l p).length (simN ok l p)/\Below W1.heap.size W1 wr) (fun _ iv _=>l.length - (intOf iv).toNat)
  case atStart=>exact⟨0,rfl,by omega,h0,Below.refl _ _⟩
  case round=>
   clear h0;obtain⟨p,rfl,hp,hO,hbr⟩:=hrel;obtain⟨oa,oc,hos⟩:=hO.shape;subst hos;by_cases hlt:p < l.length
   ·have cl:=hlc1.out.keep hbr p (by omega);obtain⟨y,hy⟩:=exE (l.getD p 0);rw[hy] at cl;have hln:(p:Int) < (l.length:Int):=(by omega);have hbit:=hasI_z (k:=p) hf0 hf1 (by omega);have hokp:=congrFun hok.out p;rw[<-hokp] at hbit;have hpl:(simN ok l p).length<=1000:=(by have:=simN_len (ok:=ok) (l:=l) p;omega);have hp1:IntKind.i64.wrap ((p:Int)+1)=((p+1:Nat):Int):=(by rw[IntWalk.i64_in _ (by omega)];omega);have hOh:=qH hO;clear hokp hO;obtain⟨K,hK⟩:=exE (ok p);rw[hK] at hbit;cases K
    ·first|exact absurd hbit (by rw[Int.zero_ediv];decide)|skip
     all_goals
      have hsn:simN ok l (p+1)=simN ok l p:=(by rw[simN,hK];rfl);have hO2:Hid (OwX 83 2 EI wr W1.heap.size (.slice oa (simN ok l p).length oc) (simN ok l (p+1)).length (simN ok l (p+1))):=(by show OwX _ _ _ _ _ _ _ _;rw[hsn];exact hOh.out);clear hsn hOh;go_wp2_with fail
      go_roundw
      case rel=>exact⟨p+1,by go_num,hlt,hO2,hbr⟩
      case measure=>simp[intOf];omega
    ·have hsn:simN ok l (p+1)=simN ok l p ++ [[(p:Int),y]]:=(by rw[simN,hK,if_pos rfl,hy]);obtain⟨S,hS⟩:=exE (simN ok l p);rw[hS] at hsn hOh hpl|-;have hO2:=hOh.out;have hi9:S.length<=1000000000000:=by omega
     have hc9:Hid (∀u∈(#[.int .i64 (p:Int),.int .i64 y]:Array Value).toList,u.oneCell'=true):=fun u hu=>by
      rcases List.mem_cons.1 hu with rfl|hu
      ·rfl
      ·rw[List.mem_singleton.1 hu];rfl
     have hEl:Hid (EI wr [.int .i64 (p:Int),.int .i64 y] [(p:Int),y]):=rfl;have hsn:=qH hsn;have hsz:=hbr.size;clear hS hOh;go_wp2_with (at_builtin;refine wpAppX (x:=[(p:Int),y]) elemVx (by decide) (by decide) (EI.stab _) rfl _ _ rfl rfl hO2 rfl rfl rfl hc9.out hEl.out hi9 hsz ?_)
     intro v3 w3 ho3 hg3 hb3 hx3
     have hO3:Hid (OwX 83 2 EI w3 W1.heap.size v3 (simN ok l (p+1)).length (simN ok l (p+1))):=by
      show OwX _ _ _ _ _ _ _ _;rw[hsn.out,List.length_append];exact ho3
     have hbr3:=hbr.trans hb3;clear ho3 hO2 hg3 hx3;go_wp2_with fail
     go_roundw
     case rel=>exact⟨p+1,by go_num,hlt,hO3,hbr3⟩
     case measure=>simp[intOf];omega
   ·obtain rfl:p=l.length:=(by omega);have hOh:=qH hO;clear hO;go_wp2;go_ret;exact⟨_,rfl,hOh.out.base hb1.size,btt hb1 hbr⟩
attribute [local go_sem] Oper.semAt_some
abbrev Sv:=Value × Jb
def svEnc (x:Sv):Array Value:=#[x.1]
def svR (L:Jc) (pre:List Sv) (x:Sv) (W:World):Prop:=
 OwX 83 2 EI W 0 x.1 x.2.length x.2/\0 < x.2.length/\∃rest,pre.map Prod.snd++x.2::rest=L
def svRd (b1 b2:Nat) (xa:Option Addr) (xc:Nat) (xs:List Ex) (idx:Int) (W:World):Prop:=
 W.cell? ⟨b1,9,none⟩=some (.slice xa xs.length xc)/\W.cell? ⟨b2,0,none⟩=some (.int .i64 idx)/\ExS W (.slice xa xs.length xc) xs
theorem simsN_cons (n r:Nat) (x:Ex) (xs:List Ex) (idx:Int):simsN n r (x::xs) idx=(if (idx < 0\/x.1=idx)/\0 < (simX n r x).length then [simX n r x] else [])++simsN n r xs idx:=by
 unfold simsN simsX;rw[List.filter_cons];by_cases h:idx < 0\/x.1=idx
 ·rw[if_pos (decide_eq_true h),List.map_cons,List.filter_cons];by_cases h2:0 < (simX n r x).length
  ·rw[if_pos (decide_eq_true h2),if_pos ⟨h,h2⟩];rfl
  ·rw[if_neg (by simpa using h2),if_neg (fun e=>h2 e.2)];rfl
 ·rw[if_neg (by simpa using h),if_neg (fun e=>h e.1)];rfl
theorem simsN_drop {n r:Nat}{xs:List Ex}{idx:Int}{k:Nat}(h:k < xs.length):simsN n r (xs.drop k) idx=(if (idx < 0\/(xs.getD k exNil).1=idx)/\0 < (simX n r (xs.getD k exNil)).length then [simX n r (xs.getD k exNil)] else [])++simsN n r (xs.drop (k+1)) idx:=by
 rw[<-simsN_cons,List.drop_eq_getElem_cons h,getD_eq h]
structure ExG (n r:Nat) (x:Ex):Prop where
 wd:x.2.1.length<=10
 vw:x.2.2.length=r+1
 fin:(x.2.2.getD r []).length=n
 f0:0<=fltX x
 f1:fltX x<=31
theorem simSeq {b1 b2 xc n r:Nat}{xa:Option Addr}{xs:List Ex}{idx:Int}(hn1:1<=n) (hn:n<=5) (hr9:r<=10) (hx:∀x∈xs,ExG n r x) (hxl:xs.length<=100000) :
  SeqA Tryz.prog 115 #[.pointer (some ⟨b1,0,none⟩),.pointer (some ⟨b2,0,none⟩)] svEnc (svR (simsN n r xs idx)) (fun l=>l.map Prod.snd=simsN n r xs idx) (svRd b1 b2 xa xc xs idx):=by
 intro l J Jx W hRd hSt hY h0;replace hRd:=qH hRd;replace hSt:=qH hSt;replace hY:=qH hY;show CallsIn Fence.wide 0 Tryz.prog 115 #[.func (.yield l) #[] #[],.pointer (some ⟨b1,0,none⟩),.pointer (some ⟨b2,0,none⟩)] W _;refine callsIn_of_wp Tryz.func115 rfl trivial ?_
 simp only[Tryz.ntmps115,List.size_toArray,List.length_cons,List.length_nil,Nat.reduceAdd,Nat.reduceSub,Array.replicate_succ,
   Array.replicate_zero,List.push_toArray,List.append_toArray,List.nil_append,List.cons_append]
 obtain⟨r0,r1,r2⟩:=hRd.out _ _ h0;obtain⟨L,hL⟩:=exE (simsN n r xs idx);rw[hL] at hY|-;have hL0:Hid (([]:List Sv).map Prod.snd++simsN n r (xs.drop 0) idx=L):=by show _=_;rw[List.drop_zero];exact hL
 clear hL;gi_wp2;obtain⟨wo',hwo⟩:∃wo,wo=W:=⟨_,rfl⟩;have h00:J [] wo':=by rw[hwo];exact h0
 rw[<-hwo];clear hwo h0 r0 r1 r2;gi_loopw [10] (fun kv wr=>∃(k:Nat) (pre:List Sv),kv = .int .i64 k/\k<=xs.length/\J pre wr/\Hid (pre.map Prod.snd++simsN n r (xs.drop k) idx=L)) (fun kv _=>xs.length - (intOf kv).toNat)
 case atStart=>exact⟨0,[],rfl,by omega,h00,hL0⟩
 case round=>
  clear h00 hL0;obtain⟨k,pre,rfl,hk,hJk,hp⟩:=hrel;by_cases hlt:k < xs.length
  ·obtain⟨r0,r1,r2⟩:=hRd.out _ _ hJk;have hki:(k:Int) < (xs.length:Int):=(by omega);obtain⟨xb,xo,rfl,hxc⟩:=r2.at (by omega);obtain⟨u1,u2,c0,c1,c2,kw,kv⟩:=hxc k hlt;have hxg:=hx (xs.getD k exNil) (by rw[getD_eq hlt];exact List.getElem_mem hlt);have hp1:=hp.out;rw[simsN_drop hlt] at hp1;obtain⟨x,hxe⟩:=exE (xs.getD k exNil);rw[hxe] at c0 kw kv hxg hp1;obtain⟨wa,wc,rfl⟩:=kw.shape;obtain⟨va,vc,vb,vo,hve,-⟩:=id kv;subst hve;obtain⟨wl,hwl⟩:=exE (x.2.1.length);obtain⟨vl,hvl⟩:=exE (x.2.2.length);have HS0:∀W,Below wr.heap.size wr W->_:=fun W hb=>simplexOfC (w:=W) (kw.keep hb) (kv.keep hb) hxg.wd hxg.vw hr9 hxg.fin hn1 hn hxg.f0 hxg.f1;rw[hwl,hvl] at HS0;rw[hwl] at c1;rw[hvl] at c2;obtain⟨W2,hW2⟩:=exF (wr.alloc (.cells #[.int .i64 x.1,.slice wa wl wc,.slice va vl vc] 80));have hb2:Below wr.heap.size wr W2:=(by rw[hW2];exact(Below.refl _ wr).alloc (Nat.le_refl _) _);have kX:W2.heap[wr.heap.size]? = some (.cells #[.int .i64 x.1,.slice wa wl wc,.slice va vl vc] 80):=(by rw[hW2];exact heap_alloc_new _ _);have x0:W2.cell? ⟨wr.heap.size,0,none⟩=some (.int .i64 x.1):=(by rw[cell_of_row _ _ 0 _ _ _ kX];rfl);have x1:W2.cell? ⟨wr.heap.size,1,none⟩=some (.slice wa wl wc):=(by rw[cell_of_row _ _ 1 _ _ _ kX];rfl);have x2:W2.cell? ⟨wr.heap.size,2,none⟩=some (.slice va vl vc):=(by rw[cell_of_row _ _ 2 _ _ _ kX];rfl);have HS:=HS0 W2 hb2;have r12:=cell_kept hb2 r1;obtain⟨s,hs⟩:=exE (simX n r x);rw[hs] at HS hp1;have hs5:s.length<=1000:=(by rw[<-hs];have:=simN_len (ok:=fun p=>!hasI (fltX x) (p:Int)) (l:=x.2.2.getD r []) n;unfold simX;omega);replace HS:=qH HS;have hJ2:=hSt.out _ _ W2 hJk hb2;replace hp1:=qH hp1;clear HS0 hwl hvl hp hxe hs kw kv hxg hx r2 hxc hJk kX hb2;refine wpIn_wide.2 ?_;go_upto_region 3 with fail
   rw[<-hW2];replace hW2:=qH hW2;by_cases hsel:idx < 0\/x.1=idx
   ·rcases Int.lt_or_le idx 0 with hneg|hpos
    case' inl=>
     have dn:decide ((0:Int)<=idx)=false:=decide_eq_false (by omega);replace hneg:=qH hneg;go_wp2_with fail
    case' inr=>
     have hxi:x.1=idx:=(by omega);rw[hxi] at x0 HS;go_wp2_with fail
    all_goals
     refine HS.out.mono ?_;rintro e w5 ⟨v5,rfl,hO5,hb5⟩;obtain⟨sa,sc,hsh⟩:=hO5.shape;subst hsh;have hJ5:=hSt.out _ _ w5 hJ2 hb5;rcases Nat.eq_zero_or_pos s.length with hs0|hs0
     case' inl=>
      have hp2:Hid (pre.map Prod.snd++simsN n r (xs.drop (k+1)) idx=L):=by
       have:=hp1.out
       rw[if_neg (fun h=>absurd h.2 (by omega))] at this;exact this
      clear hO5 hp1 HS hJ2;rw[hs0];go_wp2_with fail
      go_roundw
      case rel=>exact⟨k+1,pre,by go_num,hlt,hJ5,hp2⟩
      case measure=>simp[intOf];omega
     case' inr=>
      have hp2:Hid (pre.map Prod.snd++s::simsN n r (xs.drop (k+1)) idx=L):=by
       have:=hp1.out
       rw[if_pos ⟨hsel,hs0⟩] at this;exact this
      have hRx:svR L pre (.slice sa s.length sc,s) w5:=⟨hO5.base (Nat.zero_le _),hs0,_,hp2.out⟩;obtain⟨fn,tmps,assign,body,hy,hR⟩:=hY.out pre (.slice sa s.length sc,s) _ hJ5 hRx;simp only[svEnc] at hy hR;replace hR:=qH hR;have ds:decide ((0:Int) < (s.length:Int))=true:=decide_eq_true (by omega);clear hJ5 hRx hO5 hp1 HS hJ2;go_upto_region 5 with fail
      refine(wpIn_wide (n:=0)).1 ?_;gi_wp2;refine⟨rfl,hR.out.mono ?_⟩;rintro e W' (⟨rfl,hJ'⟩|⟨rfl,hJ'⟩)
      ·clear hy hR;gi_wp2;go_wp2_with fail
       go_roundw
       case rel=>exact⟨k+1,_,by go_num,hlt,hJ',by show _=_;rw[List.map_append,List.append_assoc];exact hp2.out⟩
       case measure=>simp[intOf];omega
      ·gi_wp2;go_wp2_with fail
       refine bodyPost_ret (results_none rfl _ _ _) rfl ?_;exact⟨⟨_,rfl⟩,.inr ⟨_,hJ'⟩⟩
   ·have hpos:(0:Int)<=idx:=(by omega);have hne : ¬x.1=idx:=fun h=>hsel (.inr h);have d1:(x.1 == idx)=false:=by simpa using hne
    have hp2:Hid (pre.map Prod.snd++simsN n r (xs.drop (k+1)) idx=L):=by
     have:=hp1.out
     rw[if_neg (fun h=>hsel h.1)] at this;exact this
    replace hsel:=qH hsel;clear HS hp1;go_wp2_with fail
    go_roundw
    case rel=>exact⟨k+1,pre,by go_num,hlt,hJ2,hp2⟩
    case measure=>simp[intOf];omega
  ·obtain rfl:k=xs.length:=by omega
   have hpe:pre.map Prod.snd=L:=by
    have:=hp.out
    rw[List.drop_length] at this;simpa [simsN,simsX] using this
   replace hpe:=qH hpe;clear hY hp;gi_wp2;first|refine bodyPost_end (results_none rfl _ _ _) rfl ?_|refine bodyPost_ret (results_none rfl _ _ _) rfl ?_
   exact⟨⟨_,rfl⟩,.inl ⟨_,hpe.out,hJk⟩⟩
theorem simplicesC {w:World}{v0 v1 v2 v3 v4 v5 v6 v7 v8 v9:Value}{idx:Int}{vc:Array Value}(hv:vc = #[v0,v1,v2,v3,v4,v5,v6,v7,v8,v9]) :
  Calls Tryz.prog 64 #[.agg vc,.int .i64 idx] w fun e w'=>e = .returned (.func (.func 115) #[] #[.pointer (some ⟨w.heap.size,0,none⟩),.pointer (some ⟨w.heap.size+1,0,none⟩)])/\w'=(w.alloc (.cells vc 35)).alloc (.cells #[.int .i64 idx] 3):=by
 subst hv;go_enter Tryz.func64, Tryz.ntmps64
 go_wp2;go_ret;exact⟨rfl,rfl⟩
end Go.Proofs.YtcnedkkcgdkioaaGreat
