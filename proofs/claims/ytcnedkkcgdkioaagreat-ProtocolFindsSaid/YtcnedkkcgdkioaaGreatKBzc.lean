/- Texts of this claim, put together: UP UQ PB0 PB PC. -/
import Derived.Test.YtcnedkkcgdkioaaGreatKBzb

set_option maxRecDepth 100000
set_option maxHeartbeats 12800000
namespace Go.Proofs.YtcnedkkcgdkioaaGreat
def DA {α:Type}(cmp:α->α->Int) (x:α):List α->List α
 | []=>[x]
 | y::l=>if cmp x y < 0 then x::y::l else y::DA cmp x l
def BK {α:Type} [DecidableEq α] (cmp:α->α->Int) (l:List α) (x:α):List α:=if x∈l then l else DA cmp x l
structure LK {α:Type} (S:α->Prop) (cmp:α->α->Int):Prop where
 asymm:∀a b,cmp a b < 0->¬cmp b a < 0
 trans:∀a b c,cmp a b < 0->cmp b c < 0->cmp a c < 0
 total:∀a b,S a->S b->cmp a b < 0\/a=b\/cmp b a < 0
def DF {α:Type}(cmp:α->α->Int) (l:List α):Prop:=l.Pairwise fun a b=>cmp a b < 0
section
variable {α:Type} {cmp:α->α->Int} {S:α->Prop}
theorem TC {x y:α}:∀ {l:List α},y∈DA cmp x l↔y=x\/y∈l
 | []=>by simp[DA]
 | z::l=>by
  rw[DA];split
  ·simp
  ·rw[List.mem_cons,TC (l:=l),List.mem_cons];constructor
   ·rintro(h|h|h)<;>simp[h]
   ·rintro(h|h|h)<;>simp[h]
theorem ZL (O:LK S cmp) {x:α}(e:S x):∀ {l:List α},(∀y∈l,S y)->x ∉ l->DF cmp l->DF cmp (DA cmp x l)
 | [],_,_,_=>by simp[DA,DF]
 | z::l,hl,hn,h=>by
  have i:=hl z (by simp);rw[DF,List.pairwise_cons] at h;rw[DA];split
  ·rename_i d
   rw[DF,List.pairwise_cons,List.pairwise_cons];refine⟨fun b a=>?_,h⟩;rcases List.mem_cons.1 a with rfl|a
   ·exact d
   ·exact O.trans _ _ _ d (h.1 b a)
  ·rename_i d
   rw[DF,List.pairwise_cons];refine⟨fun b a=>?_,ZL O e (fun y g=>hl y (by simp[g])) (fun h=>hn (by simp[h])) h.2⟩;rcases TC.1 a with rfl|a
   ·rcases O.total z b i e with c|c|c
    ·exact c
    ·subst c;exact absurd (by simp) hn
    ·exact absurd c d
   ·exact h.1 b a
variable [DecidableEq α]
theorem UF {x y:α}{l:List α}:y∈BK cmp l x↔y=x\/y∈l:=by
 rw[BK];split
 ·rename_i h
  constructor
  ·exact .inr
  ·rintro(rfl|a)
   ·exact h
   ·exact a
 ·exact TC
theorem oU (O:LK S cmp) {x:α}(b:S x) {l:List α}(a:∀y∈l,S y) (h:DF cmp l):DF cmp (BK cmp l x):=by
 rw[BK];split
 ·exact h
 ·rename_i n
  exact ZL O b a n h
theorem UD {y:α}:∀ {xs l:List α},y∈xs.foldl (BK cmp) l↔y∈xs\/y∈l
 | [],l=>by simp
 | x::xs,l=>by
  rw[List.foldl_cons,UD (xs:=xs),UF,List.mem_cons];constructor
  ·rintro(h|h|h)<;>simp[h]
  ·rintro((h|h)|h)<;>simp[h]
theorem UE (O:LK S cmp):∀ {xs l:List α},(∀y∈xs,S y)->(∀y∈l,S y)->DF cmp l->DF cmp (xs.foldl (BK cmp) l)
 | [],_,_,_,h=>h
 | x::xs,l,hx,hl,h=>by
  rw[List.foldl_cons];refine UE O (fun y a=>hx y (by simp[a])) (fun y a=>?_) (oU O (hx x (by simp)) hl h);rcases UF.1 a with rfl|a
  ·exact hx _ (by simp)
  ·exact hl y a
omit [DecidableEq α] in
theorem RR (O:LK S cmp) {l c:List α}(d:DF cmp l) (e:DF cmp c) (h:∀x,x∈l↔x∈c):l=c:=UU (lt:=fun a b=>cmp a b < 0) O.asymm d e h
def BV:List α->List α
 | []=>[]
 | [x]=>[x]
 | x::y::r=>if x=y then BV (y::r) else x::BV (y::r)
theorem SK:∀(l:List α) (z:α),z∈BV l↔z∈l
 | [],z=>by simp[BV]
 | [x],z=>by simp[BV]
 | x::y::r,z=>by
  rw[BV];have i:=SK (y::r) z;by_cases e:x=y
  ·rw[if_pos e,i,e];simp
  ·rw[if_neg e,List.mem_cons,i];simp
theorem XO (O:LK S cmp):∀ {l:List α},(∀y∈l,S y)->l.Pairwise (fun a b=>¬cmp b a < 0)->DF cmp (BV l)
 | [],_,_=>by simp[BV,DF]
 | [x],_,_=>by simp[BV,DF]
 | x::y::r,hl,h=>by
  have k:=XO O (l:=y::r) (fun z n=>hl z (List.mem_cons_of_mem _ n)) (List.pairwise_cons.1 h).2;rw[BV];by_cases e:x=y
  ·rw[if_pos e];exact k
  ·rw[if_neg e,DF,List.pairwise_cons];refine⟨fun b d=>?_,k⟩;have d:=(SK (y::r) b).1 d;have g:=(List.pairwise_cons.1 h).1
   have j:cmp x y < 0:=by
    rcases O.total x y (hl x (by simp)) (hl y (by simp)) with c|c|c
    ·exact c
    ·exact absurd c e
    ·exact absurd c (g y (by simp))
   rcases List.mem_cons.1 d with rfl|i
   ·exact j
   ·have m:=(List.pairwise_cons.1 (List.pairwise_cons.1 h).2).1 b i;rcases O.total x b (hl x (by simp)) (hl b (by simp[i])) with c|c|c
    ·exact c
    ·subst c;exact absurd j m
    ·exact absurd c (g b d)
end
def W2 (w:Jb):Prop:=∀r∈w,r.length=2
def CY (a b:Jb):Int:=AH a.flatten b.flatten
theorem SX:∀ {u v:Jb},W2 u->W2 v->u.flatten=v.flatten->u=v
 | [],[],_,_,_=>rfl
 | [],b::v,_,hv,h=>by
  have:=hv b (by simp)
  have c:=congrArg List.length h;simp only[List.flatten_nil,List.flatten_cons,List.length_append,List.length_nil] at c;omega
 | a::u,[],hu,_,h=>by
  have:=hu a (by simp)
  have c:=congrArg List.length h;simp only[List.flatten_nil,List.flatten_cons,List.length_append,List.length_nil] at c;omega
 | a::u,b::v,hu,hv,h=>by
  rw[List.flatten_cons,List.flatten_cons] at h;obtain⟨e,c⟩:=List.append_inj h (by rw[hu a (by simp),hv b (by simp)]);rw[e,SX (fun r d=>hu r (by simp[d])) (fun r d=>hv r (by simp[d])) c]
theorem TV:LK W2 CY where
 asymm _ _ h:=KN _ _ h
 trans _ _ _ h1 h2:=JV _ _ _ h1 h2
 total a b ha hb:=by
  rcases OA a.flatten b.flatten with h|h|h
  ·exact .inl h
  ·exact .inr (.inl (SX ha hb h))
  ·exact .inr (.inr h)
theorem TU:LK (fun _=>True) AH where
 asymm _ _ h:=KN _ _ h
 trans _ _ _ h1 h2:=JV _ _ _ h1 h2
 total a b _ _:=OA a b
theorem gX (a:Jb):CY a a=0:=NZ _
theorem gY {a b:Jb}(c:W2 a) (d:W2 b):CY a b=0↔a=b:=by
 rw[CY,cmpL_zero];exact⟨SX c d,fun h=>by rw[h]⟩
def MH (v:List Int):Prop:=0<=v.getD 0 0/\v.getD 0 0 < 8/\0<=v.getD 1 0/\v.getD 1 0<=1048576
instance (v:List Int):Decidable (MH v):=by unfold MH;infer_instance
def RH (s:Jb) (k:Nat):Int:=if ¬MH (s.getD k []) then 2 else if 0 < k/\0<=AH (s.getD (k - 1) []) (s.getD k []) then 14 else 0
def MT (s:Jb):Int:=if s.length=0 then 16 else if 8 < s.length then 5 else CZ (RH s) s.length 0
def CJ (a b:Jb):Bool:=a.all fun v=>decide (v∈b)
theorem dY {a b:Jb}:CJ a b=true↔∀v∈a,v∈b:=by simp[CJ]
def FE (l:Jc) (s:Jb):Bool:=l.any fun t=>decide (s.length < t.length) && CJ s t
theorem MY {l:Jc}{s:Jb}:FE l s=true↔∃t∈l,s.length < t.length/\∀v∈s,v∈t:=by simp[FE,CJ]
def GG (l:Jc):Jc->Jc->Jc
 | [],out=>out
 | s::r,out=>GG l r (if 0 < s.length/\FE l s=false then BK CY out s else out)
def BC (l:Jc):Jc:=GG l l []
theorem TQ (l:Jc):∀(r out:Jc),GG l r out=(r.filter fun s=>decide (0 < s.length/\FE l s=false)).foldl (BK CY) out
 | [],out=>rfl
 | s::r,out=>by
  rw[GG,TQ l r,List.filter_cons];by_cases h:0 < s.length/\FE l s=false
  ·rw[if_pos h,if_pos (vZ h),List.foldl_cons]
  ·rw[if_neg h,if_neg (by simpa using h)]
theorem GF {l:Jc}{s:Jb}:s∈BC l↔s∈l/\0 < s.length/\FE l s=false:=by
 rw[BC,TQ,UD,List.mem_filter];simp
theorem OO {l:Jc}(a:∀s∈l,W2 s):DF CY (BC l):=by
 rw[BC,TQ];exact UE TV (fun y h=>a y (List.mem_filter.1 h).1) (fun y h=>by cases h) (by simp[DF])
theorem iQ {l:Jc}(s:Jb):FE (l.filter fun t=>decide (0 < t.length)) s=FE l s:=by
 rw[Bool.eq_iff_iff,MY,MY];constructor
 ·rintro⟨t,h,a⟩;exact⟨t,(List.mem_filter.1 h).1,a⟩
 ·rintro⟨t,h,a⟩;exact⟨t,List.mem_filter.2 ⟨h,vZ (by omega)⟩,a⟩
theorem nB {l:Jc}(c:∀s∈l,W2 s):BC (l.filter fun t=>decide (0 < t.length))=BC l:=by
 refine RR TV (OO fun s d=>c s (List.mem_filter.1 d).1) (OO c) fun x=>?_;rw[GF,GF,iQ,List.mem_filter];simp only[decide_eq_true_eq];exact⟨fun⟨h,a,b⟩=>⟨h.1,a,b⟩,fun⟨h,a,b⟩=>⟨⟨h,a⟩,a,b⟩⟩
def DB (l:Jc):Jb:=l.foldl (fun o f=>f.foldl (BK AH) o) []
theorem bV {v:List Int}:∀(l:Jc) (out:Jb),v∈l.foldl (fun out f=>f.foldl (BK AH) out) out↔v∈l.flatten\/v∈out
 | [],out=>by simp
 | f::l,out=>by
  rw[List.foldl_cons,bV l,UD,List.flatten_cons,List.mem_append];constructor
  ·rintro(h|h|h)<;>simp[h]
  ·rintro((h|h)|h)<;>simp[h]
theorem bU:∀(l:Jc) (out:Jb),DF AH out->DF AH (l.foldl (fun out f=>f.foldl (BK AH) out) out)
 | [],_,h=>h
 | f::l,out,h=>by
  rw[List.foldl_cons];exact bU l _ (UE TU (fun _ _=>trivial) (fun _ _=>trivial) h)
theorem UC {v:List Int}{l:Jc}:v∈DB l↔∃s∈l,v∈s:=by
 rw[DB,bV,List.mem_flatten];simp
theorem bX (l:Jc):DF AH (DB l):=bU l [] (by simp[DF])
theorem oT {l:Jc}{m:Jb}(h:m.Perm l.flatten) (hs:m.Pairwise fun a b=>¬AH b a < 0):BV m=DB l:=
 RR TU (XO TU (fun _ _=>trivial) hs) (bX l) fun x=>by
  rw[SK,h.mem_iff,UC,List.mem_flatten]
theorem fV {s:Jb}(h:MT s=0):DF AH s/\(∀v∈s,MH v)/\0 < s.length/\s.length<=8:=by
 rw[MT] at h;split at h
 ·cases h
 ·split at h
  ·cases h
  ·rename_i p q
   have c:=(QA _ _).1 h;refine⟨?_,fun v n=>?_,by omega,by omega⟩
   ·have e:∀k,k+1 < s.length->AH (s.getD k []) (s.getD (k+1) []) < 0:=fun k a=>by
     have:=c (k+1) (by omega) (by omega)
     rw[RH] at this;split at this
     ·cases this
     ·split at this
      ·cases this
      ·rename_i b;rw[Nat.add_sub_cancel] at b;omega
    have g:∀d k,k+d+1 < s.length->AH (s.getD k []) (s.getD (k+d+1) []) < 0:=by
     intro d;induction d with
     | zero=>exact fun k a=>e k a
     | succ d o=>exact fun k a=>JV _ _ _ (o k (by omega)) (e (k+d+1) (by omega))
    rw[DF,List.pairwise_iff_getElem];intro i j l m r;have:=g (j - i - 1) i (by omega)
    rw[show i+(j - i - 1)+1=j by omega] at this;simpa [List.getD_eq_getElem?_getD,l,m] using this
   ·obtain⟨k,a,rfl⟩:=List.mem_iff_getElem.1 n;have:=c k (by omega) (by omega)
    rw[RH] at this;split at this
    ·cases this
    ·rename_i b
     have:=Classical.not_not.1 b
     simpa [List.getD_eq_getElem?_getD,a] using this
theorem fW {s:Jb}(c:DF AH s) (d:∀v∈s,MH v) (e:0 < s.length) (g:s.length<=8):MT s=0:=by
 rw[MT,if_neg (by omega),if_neg (by omega)];refine(QA _ _).2 fun k _ h=>?_;have h:k < s.length:=by omega
 rw[RH,if_neg,if_neg]
 ·rintro⟨a,b⟩;have:=(List.pairwise_iff_getElem.1 c) (k - 1) k (by omega) (by omega) (by omega)
  rw[List.getD_eq_getElem?_getD,List.getD_eq_getElem?_getD,List.getElem?_eq_getElem h,List.getElem?_eq_getElem (show k - 1 < s.length by omega)] at b;exact absurd this (by simpa using b)
 ·intro a;refine a ?_;rw[List.getD_eq_getElem?_getD,List.getElem?_eq_getElem h];exact d _ (wG h)
end Go.Proofs.YtcnedkkcgdkioaaGreat
namespace Go.Proofs.YtcnedkkcgdkioaaGreat
def MN (n:Nat) (vs:Jb) (v:List Int):Prop:=
 v.length=8/\(∃p:Nat,v.getD 0 0=(p:Int)/\p < n)/\∃k:Nat,v.getD 1 0=(k:Int)/\(0 < k->∃j:Nat,v.getD (3+(v.getD 0 0).toNat) 0=(j:Int)/\j < vs.length/\(vs.getD j []).getD 0 0=v.getD 0 0/\(vs.getD j []).getD 1 0=((k - 1:Nat):Int))
def GI (n:Nat) (vs:Jb):Prop:=∀v∈vs,MN n vs v
def ML (n:Nat) (vs:Jb) (k:Nat) (l:List Int):Prop:=
 l.length=n/\∀p,p < n->∃j:Nat,l.getD p 0=(j:Int)/\j < vs.length/\(vs.getD j []).getD 0 0=(p:Int)/\(vs.getD j []).getD 1 0=(k:Int)
theorem LW {α:Type}{l t:List α}{j:Nat}{d:α}(h:j < l.length):(l++t).getD j d=l.getD j d:=by
 rw[List.getD_eq_getElem?_getD,List.getD_eq_getElem?_getD,List.getElem?_append_left h]
theorem MN.pre {n:Nat}{vs:Jb}{v:List Int}(h:MN n vs v) (t:Jb):MN n (vs++t) v:=by
 obtain⟨e,i,k,l,m⟩:=h;refine⟨e,i,k,l,fun d=>?_⟩;obtain⟨j,a,g,b,c⟩:=m d;exact⟨j,a,by rw[List.length_append];omega,by rw[LW g];exact b,by rw[LW g];exact c⟩
theorem ML.pre {n k:Nat}{vs:Jb}{l:List Int}(h:ML n vs k l) (t:Jb):ML n (vs++t) k l:=by
 refine⟨h.1,fun p d=>?_⟩;obtain⟨j,a,g,b,c⟩:=h.2 p d;exact⟨j,a,by rw[List.length_append];omega,by rw[LW g];exact b,by rw[LW g];exact c⟩
theorem UG (vs:Jb) (v:List Int):∃t,BO vs v=vs++t:=by
 unfold BO;split
 ·exact⟨[],by simp⟩
 ·exact⟨[v],rfl⟩
theorem GI.put {n:Nat}{vs:Jb}{v:List Int}(h:GI n vs) (c:MN n vs v):GI n (BO vs v):=by
 obtain⟨t,b⟩:=UG vs v;intro x d;rw[b];rcases QS.1 d with a|rfl
 ·exact(h x a).pre t
 ·exact c.pre t
theorem mF {a:Type} [DecidableEq a] {l:List a}{x d:a}(h:x∈l):l.getD (ixOf l x) d=x:=by
 have b:=TF h;rw[AK b];exact List.getElem_idxOf b
section
variable {f:Nat->List Int} {vs:Jb}
theorem OL:∀k,∃t,(AS f vs k).1=vs++t
 | 0=>⟨[],by simp[AS]⟩
 | k+1=>by
  obtain⟨t,h⟩:=OL k;obtain⟨u,a⟩:=UG (AS f vs k).1 (f k);exact⟨t++u,by rw[AS];show BO _ _=_;rw[a,h,List.append_assoc]⟩
theorem TA {n:Nat}(h:GI n vs):∀k,(∀p,p < k->MN n vs (f p))->GI n (AS f vs k).1
 | 0,_=>h
 | k+1,a=>by
  obtain⟨t,b⟩:=OL (f:=f) (vs:=vs) k;rw[AS];refine GI.put (TA h k fun p c=>a p (by omega)) ?_;rw[b];exact(a k (by omega)).pre t
theorem ZF:∀k p,p < k->∃j:Nat,(AS f vs k).2.getD p 0=(j:Int)/\j < (AS f vs k).1.length/\(AS f vs k).1.getD j []=f p
 | 0,p,a=>absurd a (by omega)
 | k+1,p,a=>by
  rw[AS];by_cases e:p=k
  ·subst e;have h:f p∈BO (AS f vs p).1 (f p):=QS.2 (.inr rfl);have l:=TF h;refine⟨ixOf (BO (AS f vs p).1 (f p)) (f p),?_,l,?_⟩
   ·show(_ ++ [_]).getD p 0=_
    rw[List.getD_eq_getElem?_getD,List.getElem?_append_right (by rw[HJ];exact wC _),HJ,Nat.sub_self];rfl
   ·show(BO _ _).getD _ []=_
    exact mF h
  ·obtain⟨j,c,d,g⟩:=ZF k p (by omega);obtain⟨u,b⟩:=UG (AS f vs k).1 (f k);refine⟨j,?_,?_,?_⟩
   ·show(_ ++ [_]).getD p 0=_
    rw[LW (by rw[HJ];omega)];exact c
   ·show j < (BO _ _).length;rw[b,List.length_append];omega
   ·show(BO _ _).getD j []=_
    rw[b,LW d];exact g
end
theorem lM {hs:Int}{bf:List Int}{q:Nat}(h:q < 5) (b:q < bf.length) (a:AY hs (q:Int)=true):(IL hs bf).getD q 0=bf.getD q 0:=by
 unfold IL;rw[List.getD_eq_getElem?_getD,List.getElem?_map,List.getElem?_range h];simp[b,a]
theorem tA (r:List Int) (k p:Nat) (bf:List Int):(FY r k p bf).length=8:=by simp[FY,IL]
theorem tC {r:List Int}{k p:Nat}{bf:List Int}(h:p < 5) (b:p < bf.length) (a:AY (r.getD (1+p) 0) (p:Int)=true):(FY r k p bf).getD (3+p) 0=bf.getD p 0:=by
 rw[<-lM h b a];unfold FY;rw[List.getD_eq_getElem?_getD,List.getD_eq_getElem?_getD,List.getElem?_append_right (by simp)];simp
def PG (n:Nat) (wd:Jb):Prop:=∀k,k < wd.length->∀p,p < n->AY ((wd.getD k []).getD (1+p) 0) (p:Int)=true
theorem bL (n:Nat) (xs:List Int) (wd:Jb) (vs:Jb):∀k,∃t,(AQ n xs wd vs k).1=vs++t
 | 0=>OL n
 | k+1=>by
  obtain⟨t,h⟩:=bL n xs wd vs k;rw[AQ];obtain⟨u,a⟩:=OL (f:=fun p=>FY (wd.getD k []) (k+1) p ((AQ n xs wd vs k).2.getD k [])) (vs:=(AQ n xs wd vs k).1) n;exact⟨t++u,by rw[a,h,List.append_assoc]⟩
theorem cS {n:Nat}{f:Nat->List Int}{vs:Jb}{k:Nat}(c:∀p,p < n->(f p).getD 0 0=(p:Int)) (d:∀p,p < n->(f p).getD 1 0=(k:Int)):ML n (AS f vs n).1 k (AS f vs n).2:=
 ⟨HJ n,fun p h=>by
  obtain⟨j,a,b,g⟩:=ZF (f:=f) (vs:=vs) n p h;exact⟨j,a,b,by rw[g];exact c p h,by rw[g];exact d p h⟩⟩
theorem oG {n:Nat}{xs:List Int}{wd:Jb}{vs:Jb}{k j:Nat}(h:j<=k):(AQ n xs wd vs (k+1)).2.getD j []=(AQ n xs wd vs k).2.getD j []:=by
 rw[AQ];show(_ ++ [_]).getD j []=_
 rw[LW (by rw[IN];omega)]
theorem bM {n:Nat}{xs:List Int}{wd:Jb}{vs:Jb}(o:n<=5) (h:GI n vs) (hs:PG n wd):∀k,k<=wd.length->GI n (AQ n xs wd vs k).1/\∀j,j<=k->ML n (AQ n xs wd vs k).1 j ((AQ n xs wd vs k).2.getD j [])
 | 0,_=>by
  refine⟨TA h n fun p a=>⟨rfl,⟨p,rfl,a⟩,0,rfl,fun h=>absurd h (by omega)⟩,fun j m=>?_⟩;obtain rfl:j=0:=by omega
  exact cS (fun p a=>rfl) (fun p a=>rfl)
 | k+1,s=>by
  obtain⟨l,b⟩:=bM o h hs k (by omega);have R:=b k (wC _);obtain⟨u,q⟩:=OL (f:=fun p=>FY (wd.getD k []) (k+1) p ((AQ n xs wd vs k).2.getD k [])) (vs:=(AQ n xs wd vs k).1) n;constructor
  ·rw[AQ];refine TA l n fun p a=>?_;have w:=tC (r:=wd.getD k []) (k:=k+1) (p:=p) (bf:=(AQ n xs wd vs k).2.getD k []) (by omega) (by rw[R.1];exact a) (hs k (by omega) p a);obtain⟨j,g,c,d,i⟩:=R.2 p a;refine⟨tA _ _ _ _,⟨p,rfl,a⟩,k+1,rfl,fun _=>⟨j,?_,c,d,by rw[Nat.add_sub_cancel];exact i⟩⟩;rw[<-g,<-w];rfl
  ·intro j m;by_cases e:j=k+1
   ·subst e
    have:(AQ n xs wd vs (k+1)).2.getD (k+1) []=(AS (fun p=>FY (wd.getD k []) (k+1) p ((AQ n xs wd vs k).2.getD k [])) (AQ n xs wd vs k).1 n).2:=by
     rw[AQ];show(_ ++ [_]).getD (k+1) []=_
     rw[List.getD_eq_getElem?_getD,List.getElem?_append_right (by rw[IN];exact wC _),IN,Nat.sub_self];rfl
    rw[this,AQ];exact cS (fun p a=>rfl) (fun p a=>rfl)
   ·rw[oG (by omega)];rw[AQ,q];exact(b j (by omega)).pre u
structure IU (n r:Nat) (vs:Jb) (x:Ex):Prop where
 word:x.2.1.length=r
 views:x.2.2.length=r+1
 rows:∀j,j<=r->ML n vs j (x.2.2.getD j [])
theorem IU.pre {n r:Nat}{vs:Jb}{x:Ex}(h:IU n r vs x) (t:Jb):IU n r (vs++t) x:=⟨h.word,h.views,fun j a=>(h.rows j a).pre t⟩
theorem YK (n:Nat):∀(l:List (Int × List Int × Jb)) (vs:Jb),∃t,(BB n vs l).1=vs++t
 | [],vs=>⟨[],by simp[BB]⟩
 | (c,xs,wd)::l,vs=>by
  obtain⟨t,h⟩:=bL n xs wd vs wd.length;obtain⟨u,a⟩:=YK n l (AQ n xs wd vs wd.length).1;exact⟨t++u,by rw[BB];show(BB _ _ l).1=_;rw[a,h,List.append_assoc]⟩
theorem YJ {n r:Nat}(b:n<=5):∀(l:List (Int × List Int × Jb)) (vs:Jb),GI n vs->(∀x∈l,x.2.2.length=r/\PG n x.2.2)->GI n (BB n vs l).1/\∀x∈(BB n vs l).2,IU n r (BB n vs l).1 x
 | [],vs,h,_=>⟨h,fun x a=>by cases a⟩
 | (c,xs,wd)::l,vs,h,hl=>by
  obtain⟨w,k⟩:=hl (c,xs,wd) (by simp);obtain⟨p,g⟩:=bM (xs:=xs) b h k wd.length (wC _);obtain⟨q,i⟩:=YJ b l (AQ n xs wd vs wd.length).1 p (fun x a=>hl x (by simp[a]));obtain⟨u,e⟩:=YK n l (AQ n xs wd vs wd.length).1;rw[BB];refine⟨q,fun x a=>?_⟩;rcases List.mem_cons.1 a with rfl|a
  ·show IU n r (BB n _ l).1 _;rw[e];refine IU.pre ⟨w,?_,fun j d=>g j (by rw[w];exact d)⟩ u;show(AQ n xs wd vs wd.length).2.length=_
   rw[IN,w]
  ·exact i x a
def BL (ok:Nat->Bool) (l:List Int):Nat->Jb
 | 0=>[]
 | k+1=>if ok k=true then BL ok l k ++ [[(k:Int),l.getD k 0]] else BL ok l k
theorem NN {ok:Nat->Bool}{l:List Int}{v:List Int}:∀ {k:Nat},v∈BL ok l k↔∃p,p < k/\ok p=true/\v = [(p:Int),l.getD p 0]
 | 0=>⟨fun h=>(by cases h),fun⟨p,h,_⟩=>absurd h (by omega)⟩
 | k+1=>by
  rw[BL];split
  ·rename_i d
   rw[List.mem_append,NN,List.mem_singleton];constructor
   ·rintro(⟨p,c,a⟩|h)
    ·exact⟨p,by omega,a⟩
    ·exact⟨k,by omega,d,h⟩
   ·rintro⟨p,c,a,b⟩;by_cases e:p=k
    ·subst e;exact .inr b
    ·exact .inl ⟨p,by omega,a,b⟩
  ·rename_i d
   rw[NN];constructor
   ·rintro⟨p,c,a⟩;exact⟨p,by omega,a⟩
   ·rintro⟨p,c,a,b⟩;by_cases e:p=k
    ·subst e;exact absurd a d
    ·exact⟨p,by omega,a,b⟩
theorem IQ {ok:Nat->Bool}{l:List Int}:∀k,(BL ok l k).length<=k
 | 0=>wC _
 | k+1=>by
  have:=IQ (ok:=ok) (l:=l) k
  rw[BL];split
  ·rw[List.length_append];simp;omega
  ·omega
theorem tJ {ok:Nat->Bool}{l:List Int}{k:Nat}:W2 (BL ok l k):=fun v h=>by
 obtain⟨_,_,_,rfl⟩:=NN.1 h;rfl
theorem US {ok:Nat->Bool}{l:List Int}:∀k,DF AH (BL ok l k)
 | 0=>by simp[BL,DF]
 | k+1=>by
  rw[BL];split
  ·rw[DF,List.pairwise_append];refine⟨US k,by simp,fun a c b h=>?_⟩;obtain⟨p,d,_,rfl⟩:=NN.1 c;rw[List.mem_singleton] at h;subst h;rw[NY];exact .inl (by omega)
  ·exact US k
theorem tI {ok:Nat->Bool}{l:List Int}{k:Nat}(g:k<=5) (d:∀p,p < k->0<=l.getD p 0/\l.getD p 0<=1048576) (h:0 < (BL ok l k).length):MT (BL ok l k)=0:=by
 refine fW (US k) (fun v e=>?_) h (by have:=IQ (ok:=ok) (l:=l) k;omega);obtain⟨p,a,_,rfl⟩:=NN.1 e;obtain⟨b,c⟩:=d p a;exact⟨by show(0:Int)<=p;omega,by show(p:Int) < 8;omega,b,c⟩
def DT (x:Ex):Int:=if x.2.1.length=0 then 0 else (x.2.1.getD (x.2.1.length - 1) []).getD 6 0
def BP (n r:Nat) (x:Ex):Jb:=BL (fun p=>!AY (DT x) (p:Int)) (x.2.2.getD r []) n
def AX (n r:Nat) (xs:List Ex) (idx:Int):Jc:=(xs.filter fun x=>decide (idx < 0\/x.1=idx)).map (BP n r)
theorem UT {n r:Nat}{x:Ex}:W2 (BP n r x):=tJ
theorem tK {n r:Nat}{vs:Jb}{x:Ex}(h:IU n r vs x) (b:n<=5) (v:vs.length<=100000) (a:0 < (BP n r x).length):MT (BP n r x)=0:=by
 refine tI b (fun p c=>?_) a;obtain⟨j,g,d,_⟩:=(h.rows r (wC _)).2 p c;rw[g];exact⟨by omega,by omega⟩
end Go.Proofs.YtcnedkkcgdkioaaGreat
namespace Go.Proofs.YtcnedkkcgdkioaaGreat
theorem XL (l:Jc) (s:Jb):FE l s=l.any fun t=>pf s t:=by
 unfold FE pf CJ;congr 1
 funext t
 congr 1
 rw[Bool.eq_iff_iff,List.all_eq_true,decide_eq_true_eq];simp only[decide_eq_true_eq]
theorem iS {ss:Jc}(h:∀s∈ss,VS s):JB ss=BC ss:=by
 refine RR TV (ZU fun s a=>h s (List.mem_filter.1 a).1) (OO h) fun x=>?_;rw[GF];unfold JB;rw[ZV,List.mem_filter,XL];have e:(!x.isEmpty)=decide (0 < x.length):=by cases x<;>simp
 rw[e,Bool.and_eq_true,decide_eq_true_eq];cases(ss.any fun t=>pf x t)<;>simp
theorem oI {x:List Int}:EZ x=true↔MH x:=by
 unfold EZ MH;simp only[Bool.and_eq_true,decide_eq_true_eq]
theorem dJ {n r:Nat}{vs:Jb}{x:Ex}(h:IU n r vs x) (g:n<=5) (v:vs.length<=100000) (a:0 < (BP n r x).length):IX (BP n r x):=by
 obtain⟨b,c,d,e⟩:=fV (tK h g v a);exact⟨d,e,fun x i=>oI.2 (c x i),b⟩
theorem RB {n r:Nat}{x:Ex}:VS (BP n r x):=UT
def DL (n r:Nat) (xs:List Ex) (idx:Int):Jc:=(AX n r xs idx).filter fun t=>decide (0 < t.length)
theorem tN {n r:Nat}{xs:List Ex}{idx:Int}:JB (DL n r xs idx)=BC (AX n r xs idx):=by
 have w:∀s∈AX n r xs idx,W2 s:=fun s h=>by
  obtain⟨x,_,rfl⟩:=List.mem_map.1 h;exact UT
 have v:∀s∈DL n r xs idx,VS s:=fun s h=>w s (List.mem_filter.1 h).1;rw[iS v];exact nB w
theorem dO {n r:Nat}{vs:Jb}{xs:List Ex}{idx:Int}(h:∀x∈xs,IU n r vs x) (c:n<=5) (v:vs.length<=100000):∀s∈DL n r xs idx,VS s/\IX s:=fun s d=>by
 obtain⟨a,b⟩:=List.mem_filter.1 d;obtain⟨x,e,rfl⟩:=List.mem_map.1 a;exact⟨RB,dJ (h x (List.mem_filter.1 e).1) c v (of_decide_eq_true b)⟩
theorem dN {n r:Nat}{xs:List Ex}{idx:Int}:(DL n r xs idx).length<=xs.length:=by
 unfold DL AX;refine wI (List.length_filter_le _ _) ?_;rw[List.length_map];exact List.length_filter_le _ _
end Go.Proofs.YtcnedkkcgdkioaaGreat
namespace Go.Proofs.YtcnedkkcgdkioaaGreat
open Go.RowKit
theorem lJ {s:Int}{k:Nat}(h:0<=s) (a:s<=31) (b:k<=4):(bits BinOp.and IntKind.i64 (s / 2 ^ k) 1 == 0) = !AY s (k:Int):=by
 have:=VR (x:=s) (p:=(k:Int)) h a (by omega) (by omega)
 have e:CD (k:Int)=2 ^ k:=by
  have:k=0\/k=1\/k=2\/k=3\/k=4:=by omega
  rcases this with rfl|rfl|rfl|rfl|rfl<;>rfl
 rw[e] at this;rw[this];cases AY s (k:Int)<;>rfl
theorem dK {w:World}{x:Ex}{u1 u2:Value}{n r:Nat}(A:KS 7 w u1 x.2.1) (k2:BM w u2 x.2.2) (hw:x.2.1.length<=10) (o:x.2.2.length=r+1) (e2:r<=10) (H:(x.2.2.getD r []).length=n) (d9:1<=n) (hn:n<=5) (Z:0<=DT x) (a0:DT x<=31) :
  Calls Tryz.prog 68 #[.agg #[.int .i64 x.1,u1,u2]] w fun e w'=>∃v,e = .returned v/\AA 83 2 EI w' w.heap.size v (BP n r x).length (BP n r x)/\Below w.heap.size w w':=by
 obtain⟨t,d,q⟩:=x;obtain⟨F,b⟩:=AB (DT (t,d,q));obtain⟨ok,z⟩:∃ok:Nat->Bool,ok=fun(p:Nat)=>!AY F (p:Int):=⟨_,rfl⟩;obtain⟨a,j⟩:=AB (q.getD r [])
 have J:BP n r (t,d,q)=BL ok a n:=by
  unfold BP;rw[b,z];show BL _ (q.getD r []) n=_;rw[j]
 rw[J];simp only at A k2 hw o H|-
 rw[b] at Z a0;rw[j] at H;obtain⟨T,wc,rfl⟩:=A.shape;obtain⟨va,Q,P,R,rfl,c6,a6,-⟩:=k2;obtain rfl:=c6 (by omega);obtain⟨lv,U,b0⟩:=a6 r (by omega);rw[j] at b0;obtain⟨la,lc,lb,lo,rfl,c1,a1,-⟩:=b0;obtain rfl:=c1 (by omega);obtain⟨M,E⟩:=AB (q.length);rw[E] at o|-;replace E:=qH E;obtain⟨W,c⟩:=AF (w.alloc (.cells #[.int .i64 t,.slice T d.length wc,.slice (some ⟨P,R,none⟩) M Q] 80));have g:Below w.heap.size w W:=by rw[c];exact(wB _ w).alloc (wC _) _
 have kX:W.heap[w.heap.size]? = some (.cells #[.int .i64 t,.slice T d.length wc,.slice (some ⟨P,R,none⟩) M Q] 80):=by rw[c];exact wE _ _
 have x1:W.cell? ⟨w.heap.size,1,none⟩=some (.slice T d.length wc):=by rw[cell_of_row _ _ 1 _ _ _ kX];rfl
 have x2:W.cell? ⟨w.heap.size,2,none⟩=some (.slice (some ⟨P,R,none⟩) M Q):=by rw[cell_of_row _ _ 2 _ _ _ kX];rfl
 have d3:=AC g U;have c2:=qH (a1.keep g);replace j:=qH j;replace z:=qH z;replace J:=qH J;replace b:=qH b;have X:AA 83 2 EI W W.heap.size (.slice none 0 0) 0 []:=AA.nil _ _;have e1:IntKind.i64.wrap ((M:Int) - 1)=(r:Int):=by rw[o];exact(IntWalk.i64_in _ (by omega)).trans (by omega)
 have e3:(r:Int) < (M:Int):=by omega
 replace o:=qH o;subst H;clear a1 a6 U;go_enter Tryz.func68, Tryz.ntmps68
 go_upto_region 2 with fail
 rw[<-c];replace c:=qH c;rcases Nat.eq_zero_or_pos d.length with hz|hz
 case' inl=>
  have b5:F=0:=by rw[<-b.out];unfold DT;rw[if_pos hz]
  subst b5;go_wp2_with fail
 case' inr=>
  obtain⟨m,I⟩:∃m,d.length=m+1:=⟨d.length - 1,by omega⟩;obtain⟨wb,wo,rfl,a7⟩:=A.at7 hz;obtain⟨V,B⟩:=a7 m (by omega)
  have D:(d.getD m []).getD 6 0=F:=by
   rw[<-b.out];unfold DT;rw[if_neg (show ¬d.length=0 by omega)];show _=(d.getD (d.length - 1) []).getD 6 0;rw[I,Nat.add_sub_cancel]
  obtain⟨rr,a5⟩:=AB (d.getD m []);rw[a5] at V B D;have C:=B 6 (by omega);rw[D] at C;replace C:=AC g C;have d7:IntKind.i64.wrap ((d.length:Int) - 1)=(m:Int):=by rw[IntWalk.i64_in _ (by omega)];omega
  have d6:(m:Int) < (d.length:Int):=by omega
  have hd:decide ((0:Int) < (d.length:Int))=true:=vZ (by omega);replace I:=qH I;clear B V D a5 a7 A;go_wp2_with fail
 all_goals
  go_loopw [5,29] (fun ov N wr=>∃(p:Nat),N = .int .i64 p/\p<=a.length/\AA 83 2 EI wr W.heap.size ov (BL ok a p).length (BL ok a p)/\Below W.heap.size W wr) (fun _ N _=>a.length - (intOf N).toNat)
  case atStart=>exact⟨0,rfl,by omega,X,wB _ _⟩
  case round=>
   clear X;obtain⟨p,rfl,hp,O,i⟩:=hrel;obtain⟨oa,oc,c3⟩:=O.shape;subst c3;by_cases a2:p < a.length
   ·have cl:=c2.out.keep i p (by omega);obtain⟨y,hy⟩:=AB (a.getD p 0);rw[hy] at cl;have d5:(p:Int) < (a.length:Int):=(by omega);have G:=lJ (k:=p) Z a0 (by omega);have a4:=congrFun z.out p;rw[<-a4] at G;have c4:(BL ok a p).length<=1000:=(by have:=IQ (ok:=ok) (l:=a) p;omega);have e0:IntKind.i64.wrap ((p:Int)+1)=((p+1:Nat):Int):=(by rw[IntWalk.i64_in _ (by omega)];omega);have h:=qH O;clear a4 O;obtain⟨b2,K⟩:=AB (ok p);rw[K] at G;cases b2
    ·first|exact absurd G (by rw[Int.zero_ediv];decide)|skip
     all_goals
      have s:BL ok a (p+1)=BL ok a p:=(by rw[BL,K];rfl);have u:Hid (AA 83 2 EI wr W.heap.size (.slice oa (BL ok a p).length oc) (BL ok a (p+1)).length (BL ok a (p+1))):=(by show AA _ _ _ _ _ _ _ _;rw[s];exact h.out);clear s h;go_wp2_with fail
      go_roundw
      case rel=>exact⟨p+1,by go_num,a2,u,i⟩
      case measure=>simp[intOf];omega
    ·have s:BL ok a (p+1)=BL ok a p ++ [[(p:Int),y]]:=(by rw[BL,K,if_pos rfl,hy]);obtain⟨S,Y⟩:=AB (BL ok a p);rw[Y] at s h c4|-;have u:=h.out;have c0:S.length<=1000000000000:=by omega
     have b9:Hid (∀b1∈(#[.int .i64 (p:Int),.int .i64 y]:Array Value).toList,b1.oneCell'=true):=fun b1 L=>by
      rcases List.mem_cons.1 L with rfl|L
      ·rfl
      ·rw[List.mem_singleton.1 L];rfl
     have b4:Hid (EI wr [.int .i64 (p:Int),.int .i64 y] [(p:Int),y]):=rfl;have s:=qH s;have c5:=i.size;clear Y h;go_wp2_with (at_builtin;refine FH (x:=[(p:Int),y]) EE (by decide) (by decide) (EI.stab _) rfl _ _ rfl rfl u rfl rfl rfl b9.out b4.out c0 c5 ?_)
     intro v3 w3 a3 b' b7 c8
     have b6:Hid (AA 83 2 EI w3 W.heap.size v3 (BL ok a (p+1)).length (BL ok a (p+1))):=by
      show AA _ _ _ _ _ _ _ _;rw[s.out,List.length_append];exact a3
     have b8:=i.trans b7;clear a3 u b' c8;go_wp2_with fail
     go_roundw
     case rel=>exact⟨p+1,by go_num,a2,b6,b8⟩
     case measure=>simp[intOf];omega
   ·obtain rfl:p=a.length:=(by omega);have h:=qH O;clear O;go_wp2;go_ret;exact⟨_,rfl,h.out.base g.size,btt g i⟩
attribute [local go_sem] Oper.semAt_some
abbrev Sv:=Value × Jb
def RC (x:Sv):Array Value:=#[x.1]
def OX (L:Jc) (p:List Sv) (x:Sv) (W:World):Prop:=
 AA 83 2 EI W 0 x.1 x.2.length x.2/\0 < x.2.length/\∃r,p.map Prod.snd++x.2::r=L
def KE (b1 b2:Nat) (xa:Option Addr) (xc:Nat) (xs:List Ex) (idx:Int) (W:World):Prop:=
 W.cell? ⟨b1,9,none⟩=some (.slice xa xs.length xc)/\W.cell? ⟨b2,0,none⟩=some (.int .i64 idx)/\IV W (.slice xa xs.length xc) xs
theorem tL (n r:Nat) (x:Ex) (xs:List Ex) (idx:Int):DL n r (x::xs) idx=(if (idx < 0\/x.1=idx)/\0 < (BP n r x).length then [BP n r x] else [])++DL n r xs idx:=by
 unfold DL AX;rw[List.filter_cons];by_cases h:idx < 0\/x.1=idx
 ·rw[if_pos (vZ h),List.map_cons,List.filter_cons];by_cases a:0 < (BP n r x).length
  ·rw[if_pos (vZ a),if_pos ⟨h,a⟩];rfl
  ·rw[if_neg (by simpa using a),if_neg (fun e=>a e.2)];rfl
 ·rw[if_neg (by simpa using h),if_neg (fun e=>h e.1)];rfl
theorem tM {n r:Nat}{xs:List Ex}{idx:Int}{k:Nat}(h:k < xs.length):DL n r (xs.drop k) idx=(if (idx < 0\/(xs.getD k BJ).1=idx)/\0 < (BP n r (xs.getD k BJ)).length then [BP n r (xs.getD k BJ)] else [])++DL n r (xs.drop (k+1)) idx:=by
 rw[<-tL,List.drop_eq_getElem_cons h,AK h]
structure MK (n r:Nat) (x:Ex):Prop where
 wd:x.2.1.length<=10
 vw:x.2.2.length=r+1
 fin:(x.2.2.getD r []).length=n
 f0:0<=DT x
 f1:DT x<=31
theorem dI {b1 b2 xc n r:Nat}{xa:Option Addr}{xs:List Ex}{idx:Int}(b8:1<=n) (hn:n<=5) (b':r<=10) (hx:∀x∈xs,MK n r x) (d':xs.length<=100000) :
  VO Tryz.prog 115 #[.pointer (some ⟨b1,0,none⟩),.pointer (some ⟨b2,0,none⟩)] RC (OX (DL n r xs idx)) (fun l=>l.map Prod.snd=DL n r xs idx) (KE b1 b2 xa xc xs idx):=by
 intro l J Jx W j m Y A;replace j:=qH j;replace m:=qH m;replace Y:=qH Y;show CallsIn Fence.wide 0 Tryz.prog 115 #[.func (.yield l) #[] #[],.pointer (some ⟨b1,0,none⟩),.pointer (some ⟨b2,0,none⟩)] W _;refine callsIn_of_wp Tryz.func115 rfl trivial ?_
 simp only[Tryz.ntmps115,List.size_toArray,List.length_cons,List.length_nil,Nat.reduceAdd,Nat.reduceSub,Array.replicate_succ,
   Array.replicate_zero,List.push_toArray,List.append_toArray,List.nil_append,List.cons_append]
 obtain⟨r0,M,y⟩:=j.out _ _ A;obtain⟨L,D⟩:=AB (DL n r xs idx);rw[D] at Y|-;have Z:Hid (([]:List Sv).map Prod.snd++DL n r (xs.drop 0) idx=L):=by show _=_;rw[List.drop_zero];exact D
 clear D;gi_wp2;obtain⟨c8,K⟩:∃wo,wo=W:=⟨_,rfl⟩;have V:J [] c8:=by rw[K];exact A
 rw[<-K];clear K A r0 M y;gi_loopw [10] (fun v wr=>∃(k:Nat) (e:List Sv),v = .int .i64 k/\k<=xs.length/\J e wr/\Hid (e.map Prod.snd++DL n r (xs.drop k) idx=L)) (fun v _=>xs.length - (intOf v).toNat)
 case atStart=>exact⟨0,[],rfl,by omega,V,Z⟩
 case round=>
  clear V Z;obtain⟨k,e,rfl,hk,i,q⟩:=hrel;by_cases t:k < xs.length
  ·obtain⟨r0,M,y⟩:=j.out _ _ i;have d8:(k:Int) < (xs.length:Int):=(by omega);obtain⟨xb,xo,rfl,a4⟩:=y.at (by omega);obtain⟨u1,u2,c0,c1,c2,u,v⟩:=a4 k t;have g:=hx (xs.getD k BJ) (by rw[AK t];exact wG t);have p:=q.out;rw[tM t] at p;obtain⟨x,a5⟩:=AB (xs.getD k BJ);rw[a5] at c0 u v g p;obtain⟨T,wc,rfl⟩:=u.shape;obtain⟨N,P,vb,vo,c4,-⟩:=id v;subst c4;obtain⟨U,I⟩:=AB (x.2.1.length);obtain⟨Q,G⟩:=AB (x.2.2.length);have z:∀W,Below wr.heap.size wr W->_:=fun W hb=>dK (w:=W) (u.keep hb) (v.keep hb) g.wd g.vw b' g.fin b8 hn g.f0 g.f1;rw[I,G] at z;rw[I] at c1;rw[G] at c2;obtain⟨W2,b⟩:=AF (wr.alloc (.cells #[.int .i64 x.1,.slice T U wc,.slice N Q P] 80));have o:Below wr.heap.size wr W2:=(by rw[b];exact(wB _ wr).alloc (wC _) _);have X:W2.heap[wr.heap.size]? = some (.cells #[.int .i64 x.1,.slice T U wc,.slice N Q P] 80):=(by rw[b];exact wE _ _);have x0:W2.cell? ⟨wr.heap.size,0,none⟩=some (.int .i64 x.1):=(by rw[cell_of_row _ _ 0 _ _ _ X];rfl);have x1:W2.cell? ⟨wr.heap.size,1,none⟩=some (.slice T U wc):=(by rw[cell_of_row _ _ 1 _ _ _ X];rfl);have x2:W2.cell? ⟨wr.heap.size,2,none⟩=some (.slice N Q P):=(by rw[cell_of_row _ _ 2 _ _ _ X];rfl);have H:=z W2 o;have e0:=AC o M;obtain⟨s,F⟩:=AB (BP n r x);rw[F] at H p;have d9:s.length<=1000:=(by rw[<-F];have:=IQ (ok:=fun c6=>!AY (DT x) (c6:Int)) (l:=x.2.2.getD r []) n;unfold BP;omega);replace H:=qH H;have d:=m.out _ _ W2 i o;replace p:=qH p;clear z I G q a5 F u v g hx y a4 i X o;refine wpIn_wide.2 ?_;go_upto_region 3 with fail
   rw[<-b];replace b:=qH b;by_cases c:idx < 0\/x.1=idx
   ·rcases Int.lt_or_le idx 0 with a2|hpos
    case' inl=>
     have dn:decide ((0:Int)<=idx)=false:=vY (by omega);replace a2:=qH a2;go_wp2_with fail
    case' inr=>
     have c5:x.1=idx:=(by omega);rw[c5] at x0 H;go_wp2_with fail
    all_goals
     refine H.out.mono ?_;rintro b5 w5 ⟨v5,rfl,O,b6⟩;obtain⟨sa,sc,c3⟩:=O.shape;subst c3;have C:=m.out _ _ w5 d b6;rcases Nat.eq_zero_or_pos s.length with hs0|hs0
     case' inl=>
      have a:Hid (e.map Prod.snd++DL n r (xs.drop (k+1)) idx=L):=by
       have:=p.out
       rw[if_neg (fun h=>absurd h.2 (by omega))] at this;exact this
      clear O p H d;rw[hs0];go_wp2_with fail
      go_roundw
      case rel=>exact⟨k+1,e,by go_num,t,C,a⟩
      case measure=>simp[intOf];omega
     case' inr=>
      have a:Hid (e.map Prod.snd++s::DL n r (xs.drop (k+1)) idx=L):=by
       have:=p.out
       rw[if_pos ⟨c,hs0⟩] at this;exact this
      have a0:OX L e (.slice sa s.length sc,s) w5:=⟨O.base (Nat.zero_le _),hs0,_,a.out⟩;obtain⟨fn,e1,d1,d2,hy,R⟩:=Y.out e (.slice sa s.length sc,s) _ C a0;simp only[RC] at hy R;replace R:=qH R;have ds:decide ((0:Int) < (s.length:Int))=true:=vZ (by omega);clear C a0 O p H d;go_upto_region 5 with fail
      refine(wpIn_wide (n:=0)).1 ?_;gi_wp2;refine⟨rfl,R.out.mono ?_⟩;rintro b5 W' (⟨rfl,B⟩|⟨rfl,B⟩)
      ·clear hy R;gi_wp2;go_wp2_with fail
       go_roundw
       case rel=>exact⟨k+1,_,by go_num,t,B,by show _=_;rw[List.map_append,List.append_assoc];exact a.out⟩
       case measure=>simp[intOf];omega
      ·gi_wp2;go_wp2_with fail
       refine bodyPost_ret (results_none rfl _ _ _) rfl ?_;exact⟨⟨_,rfl⟩,.inr ⟨_,B⟩⟩
   ·have hpos:(0:Int)<=idx:=(by omega);have b9 : ¬x.1=idx:=fun h=>c (.inr h);have d3:(x.1 == idx)=false:=by simpa using b9
    have a:Hid (e.map Prod.snd++DL n r (xs.drop (k+1)) idx=L):=by
     have:=p.out
     rw[if_neg (fun h=>c h.1)] at this;exact this
    replace c:=qH c;clear H p;go_wp2_with fail
    go_roundw
    case rel=>exact⟨k+1,e,by go_num,t,d,a⟩
    case measure=>simp[intOf];omega
  ·obtain rfl:k=xs.length:=by omega
   have E:e.map Prod.snd=L:=by
    have:=q.out
    rw[List.drop_length] at this;simpa [DL,AX] using this
   replace E:=qH E;clear Y q;gi_wp2;first|refine bodyPost_end (results_none rfl _ _ _) rfl ?_|refine bodyPost_ret (results_none rfl _ _ _) rfl ?_
   exact⟨⟨_,rfl⟩,.inl ⟨_,E.out,i⟩⟩
theorem dL {w:World}{a b c d g i j k l m:Value}{idx:Int}{v:Array Value}(h:v = #[a,b,c,d,g,i,j,k,l,m]) :
  Calls Tryz.prog 64 #[.agg v,.int .i64 idx] w fun e w'=>e = .returned (.func (.func 115) #[] #[.pointer (some ⟨w.heap.size,0,none⟩),.pointer (some ⟨w.heap.size+1,0,none⟩)])/\w'=(w.alloc (.cells v 35)).alloc (.cells #[.int .i64 idx] 3):=by
 subst h;go_enter Tryz.func64, Tryz.ntmps64
 go_wp2;go_ret;exact⟨rfl,rfl⟩
end Go.Proofs.YtcnedkkcgdkioaaGreat
