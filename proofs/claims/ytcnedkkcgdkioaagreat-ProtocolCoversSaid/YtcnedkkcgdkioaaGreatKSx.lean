/- Texts of this claim, put together: OF0 JA OD OE OF. -/
import Derived.Test.YtcnedkkcgdkioaaGreatKSw
import Derived.WideKeyEntry

set_option maxRecDepth 100000
set_option maxHeartbeats 12800000
namespace Go.Proofs.YtcnedkkcgdkioaaGreat
open Go.RowKit Go.ChangeMaps Go.MapKept Go.WideMaps
section
variable {α:Type} {E:TypeId} {k:Nat} {El:World->List Value->α->Prop} {B n:Nat} {v:Value} {xs:List α}
theorem wpList_appX {P:Program}{T:TypeId}{z:Value}{bytes:Nat}(hE:ElemK P T E z k bytes) (hby:bytes<=128) (hk:0 < k) (hS:Stab E El) {w:World}{cs:List Value}{x:α}{ops:Array Oper}{rest:List Oper}{o:Oper}{a:Act}{Q:Exit->Act->World->Prop}(hgd:o.guard=none) (s y:Operand)
  (ho:o.op = .call { callee:=.builtin .append,args:=#[s,y],argTypes:=#[T,T] }) (hs:a.eval s=v) (hown:OwX E k El w B v n xs) (ad:Addr) (c:Nat) (hx:a.eval y = .slice (some ad) 1 c) (hcs:cs.length=k)
  (hnews:∀j u,cs[j]? = some u->w.cell? (ad.add j)=some u) (hc1:∀u∈cs,u.oneCell'=true) (hEl:El w cs x) (hn:n<=1000000000000) (hB:B<=w.heap.size)
  (h:∀v' w',OwX E k El w' B v' (n+1) (xs ++ [x])->w.grownBy w' v.ownBlock->NewAt w v v'->Below B w w'->KeepX E w w'->wpList P ops Q rest (a.put o.dst v') w'):wpList P ops Q (o::rest) a w:=
 wpList_plain hgd fun _ hK=>wp_appX hE hby hk hS s y ho hs hown ad c hx hcs hnews hc1 hEl hn hB fun v' w' h1 h2 h3 h4 h5=>hK _ _ (h v' w' h1 h2 h3 h4 h5)
end
theorem Apart.ne {u v:Value}(h:Apart u v):u.ownBlock=none\/u.ownBlock ≠ v.ownBlock:=by
 cases hu:u.ownBlock with
 | none=>exact .inl rfl
 | some a=>exact .inr fun e=>h a a hu e.symm rfl
theorem OI.kept {w w':World}{row:Option Nat}{B:Nat}{v:Value}{n:Nat}{xs:List Int}(h:OI w B v n xs) (hg:w.grownBy w' row) (hne:v.ownBlock=none\/v.ownBlock ≠ row):OI w' B v n xs:=World.ownsRow.kept h hg hne
theorem setBlock_keep {w:World}{b k:Nat}(o:Obj) (h:k ≠ b):(setBlock w b o).heap[k]? = w.heap[k]?:=by
 simp only[setBlock];rw[Array.getElem?_setIfInBounds_ne (by omega)]
theorem keepX_map {E:TypeId}{w:World}{b:Nat}{es:Array MapEntry}{c:Nat}(h:w.heap[b]? = some (.map es c)) (o:Obj):KeepX E w (setBlock w b o):=fun k cs t hk _=>by
 refine setBlock_keep o fun e=>?_;subst e;rw[hk] at h;cases h
section
variable {κ:Type}
def MS (kv:κ->Value) (w:World) (b:Nat) (m:List (κ × Value)):Prop:=
 ∃es clock,w.heap[b]? = some (.map es clock)/\es.toList.map (fun e=>(e.key,e.val))=m.map (fun p=>(kv p.1,p.2))/\(es.toList.map (·.born)).Nodup/\∀e∈es.toList,e.born < clock
variable {P:Program} {K E M:TypeId} {kv:κ->Value} {S:κ->Prop} {m:List (κ × Value)} {x:κ} {w:World} {b:Nat}
theorem MS.mx (h:MS kv w b m):MX kv (id:Value->Value) w b m:=by
 obtain⟨es,c,h1,h2,_⟩:=h;exact⟨es,c,h1,h2⟩
theorem MS.lt (h:MS kv w b m):b < w.heap.size:=h.mx.lt
theorem MS.keep {w':World}(h:MS kv w b m) (hb:w'.heap[b]? = w.heap[b]?):MS kv w' b m:=by
 obtain⟨es,clock,h1,h2⟩:=h;exact⟨es,clock,hb.trans h1,h2⟩
theorem MS.made (w:World):MS kv (w.alloc (.map #[] 0)) w.heap.size []:=⟨#[],0,heap_alloc_new w _,rfl,by simp,by simp⟩
theorem MS.entry {z:Value}(hX:KeyX P K kv S) (hM:P.underlying M=some (.map K E)) (hz:∀u:World,(zeroValue E).run P u = .ok z u) (h:MS kv w b m) (hm:∀p∈m,S p.1) (hx:S x) :
  ∃(v0:Value) (st:Nat) (es1:Array MapEntry) (c1:Nat),(Instr.mapEntry M (.map (some b)) (kv x)).run P w = .ok (.tuple #[v0,goInt st]) (setBlock w b (.map es1 c1))/\
   ((x ∉ m.map Prod.fst/\v0=z/\∀(w2:World) (val:Value),w2.heap[b]? = some (.map es1 c1)->∃es2 c2,(Instr.entryStore M (.map (some b)) (goInt st) val).run P w2 = .ok () (setBlock w2 b (.map es2 c2))/\MS kv (setBlock w2 b (.map es2 c2)) b (m ++ [(x,val)]))\/
    (∃j,m[j]? = some (x,v0)/\∀(w2:World) (val:Value),w2.heap[b]? = some (.map es1 c1)->∃es2 c2,(Instr.entryStore M (.map (some b)) (goInt st) val).run P w2 = .ok () (setBlock w2 b (.map es2 c2))/\MS kv (setBlock w2 b (.map es2 c2)) b (m.set j (x,val)))):=by
 obtain⟨es,clock,hb,hk,s2,s1⟩:=h;obtain⟨lx,hlx⟩:=hX.has x hx;have hc:=hX.law.check w false hlx;have hfi:=MX.find (vv:=(id:Value->Value)) hX hm hx hk w;rcases hfi with⟨h1,h2⟩|⟨j,v,h1,h2,h3⟩
 ·refine⟨z,clock,es.push ⟨kv x,z,clock⟩,clock+1,?_,.inl ⟨h1,rfl,fun w2 val hw2=>⟨es.push ⟨kv x,val,clock⟩,clock+1,?_,_,_,heap_setBlock_same hw2 _,?_,?_,?_⟩⟩⟩
  ·simp[Instr.mapEntry,run_underlying hM,MapKept.run_getObj_map hb,hc,h2,hz,MapKept.run_setObj_map _ hb,Result.andThen,setBlock]
  ·have hidx:(es.push ⟨kv x,z,clock⟩).findIdx? (fun e=>((e.born:Nat):Int) == ((clock:Nat):Int))=some es.size:=by
    rw[Go.WideElems.findIdx_arr]
    exact Go.WideElems.findIdx_born (l:=(es.push ⟨kv x,z,clock⟩).toList) (j:=es.size) (e0:=⟨kv x,z,clock⟩) (by
     simp only[Array.toList_push,List.map_append,List.map_cons,List.map_nil];refine List.nodup_append.2 ⟨s2,by simp,fun a ha c hc e1=>?_⟩;simp only[List.mem_singleton] at hc;obtain⟨y,hy,rfl⟩:=List.mem_map.1 ha;have:=s1 y hy
     omega) (by simp)
   have hmod:(es.push ⟨kv x,z,clock⟩).modify es.size (fun e=>{ e with val:=val })=es.push ⟨kv x,val,clock⟩:=by
    apply Array.ext'
    rw[Array.toList_modify,Array.toList_push,Array.toList_push,<-Array.length_toList,Go.WideElems.modify_last]
   simp[Instr.entryStore,MapKept.run_getObj_map hw2,asInt,asIntOf,goInt,hidx,hmod,MapKept.run_setObj_map _ hw2,Result.andThen,setBlock]
  ·rw[Array.toList_push,List.map_append,hk,List.map_append];rfl
  ·rw[Array.toList_push,List.map_append];refine List.nodup_append.2 ⟨s2,by simp,fun a ha c hc e1=>?_⟩;simp only[List.map_cons,List.map_nil,List.mem_singleton] at hc;obtain⟨y,hy,rfl⟩:=List.mem_map.1 ha;have:=s1 y hy
   omega
  ·intro e he;rw[Array.toList_push] at he;rcases List.mem_append.1 he with he|he
   ·have:=s1 e he;omega
   ·obtain rfl:=List.mem_singleton.1 he;exact Nat.lt_succ_self _
 ·have hl:(es.toList.map (fun e:MapEntry=>(e.key,e.val)))[j]? = some (kv x,v):=by rw[hk,List.getElem?_map,h3];rfl
  rw[List.getElem?_map] at hl
  obtain⟨e0,h4,h5⟩:∃e0,es.toList[j]? = some e0/\(e0.key,e0.val)=(kv x,v):=by
   cases he:es.toList[j]? with
   | none=>rw[he] at hl;cases hl
   | some e0=>rw[he] at hl;exact⟨e0,rfl,Option.some.inj hl⟩
  injection h5 with h5 h6;have hj:es[j]? = some e0:=by simpa using h4
  have hsame:es.modify j (fun e=>{ e with key:=kv x })=es:=by
   apply Array.ext'
   rw[Array.toList_modify,modify_eq_set _ _ _ _ h4];have:({ e0 with key:=kv x }:MapEntry)=e0:=by rw[<-h5]
   rw[this];exact Go.WideElems.set_self _ _ _ h4
  have htl:∀val,(es.modify j (fun e'=>{ e' with key:=kv x,val:=val })).toList=es.toList.set j { e0 with key:=kv x,val:=val }:=fun val=>by
   rw[Array.toList_modify,modify_eq_set _ _ _ _ h4]
  refine⟨v,e0.born,es,clock,?_,.inr ⟨j,h3,fun w2 val hw2=>⟨es.modify j (fun e'=>{ e' with key:=kv x,val:=val }),clock,?_,_,_,heap_setBlock_same hw2 _,?_,?_,?_⟩⟩⟩
  ·have h2':(Instr.findKey K (kv x) es.toList).run P w = .ok (some (j,v)) w:=h2;simp[Instr.mapEntry,run_underlying hM,MapKept.run_getObj_map hb,hc,h2',hj,h5,hX.law.stays w hlx,hsame,MapKept.run_setObj_map _ hb,Result.andThen,setBlock]
  ·have hidx:es.findIdx? (fun e=>((e.born:Nat):Int) == ((e0.born:Nat):Int))=some j:=by
    rw[Go.WideElems.findIdx_arr];exact Go.WideElems.findIdx_born s2 h4
   have hmod:es.modify j (fun e=>{ e with val:=val })=es.modify j (fun e'=>{ e' with key:=kv x,val:=val }):=by
    apply Array.ext'
    rw[Array.toList_modify,Array.toList_modify,modify_eq_set _ _ _ _ h4,modify_eq_set _ _ _ _ h4,<-h5]
   simp[Instr.entryStore,MapKept.run_getObj_map hw2,asInt,asIntOf,goInt,hidx,hmod,MapKept.run_setObj_map _ hw2,Result.andThen,setBlock]
  ·rw[htl,List.map_set,hk,List.map_set]
  ·rw[htl,List.map_set];have:(es.toList.map (·.born)).set j e0.born=es.toList.map (·.born):=Go.WideElems.set_self _ _ _ (by rw[List.getElem?_map,h4];rfl)
   rw[this];exact s2
  ·intro e he;rw[htl] at he;rcases List.mem_or_eq_of_mem_set he with he|rfl
   ·exact s1 e he
   ·exact s1 e0 (List.mem_of_getElem? h4)
end
end Go.Proofs.YtcnedkkcgdkioaaGreat
namespace Go.Proofs.YtcnedkkcgdkioaaGreat
theorem cmpL_app:∀ {a b:List Int},a.length=b.length->∀xs ys:List Int,cmpL (a++xs) (b++ys)=if cmpL a b=0 then cmpL xs ys else cmpL a b
 | [],[],_,_,_=>by simp[cmpL]
 | [],_::_,h,_,_=>by cases h
 | _::_,[],h,_,_=>by cases h
 | a::x,b::y,h,xs,ys=>by
  rw[List.cons_append,List.cons_append];by_cases e:cmpI a b=0
  ·rw[cmpL_hd e,cmpL_hd e,cmpL_app (by simpa using h)]
  ·rw[cmpL_ne e,cmpL_ne e,if_neg e]
section
variable {ss:Jc}
end
end Go.Proofs.YtcnedkkcgdkioaaGreat
namespace Go.Proofs.YtcnedkkcgdkioaaGreat
open Go.RowKit
def KSSC (k:Nat) (w:World) (v:Value) (xs:Jc):Prop:=
 ∃a c b off,v = .slice a xs.length c/\(0 < xs.length->a=some ⟨b,off,none⟩)/\(∀j,j < xs.length->∃u,w.cell? ⟨b,off+j,none⟩=some u/\KSC k w u (xs.getD j []))/\xs.length<=5864062014805/\xs.length<=c
theorem KSSC.keep {k:Nat}{w w':World}{v:Value}{xs:Jc}(h:KSSC k w v xs) (hb:Below w.heap.size w w'):KSSC k w' v xs:=by
 obtain⟨a,c,b,off,h1,h2,h3,h4⟩:=h;exact⟨a,c,b,off,h1,h2,fun j hj=>let ⟨u,k1,k2⟩:=h3 j hj;⟨u,cell_kept hb k1,k2.keep hb⟩,h4⟩
theorem KSSC.kss {k:Nat}{w:World}{v:Value}{xs:Jc}(h:KSSC k w v xs):KSS k w v xs:=by
 obtain⟨a,c,b,off,h1,h2,h3,h4,_⟩:=h;exact⟨a,c,b,off,h1,h2,fun j hj=>let ⟨u,k1,k2⟩:=h3 j hj;⟨u,k1,k2.ks⟩,h4⟩
theorem KSC.shape {k:Nat}{w:World}{v:Value}{xs:Jb}(h:KSC k w v xs):∃a c,v = .slice a xs.length c:=by
 obtain⟨a,c,_,_,h1,_⟩:=h;exact⟨a,c,h1⟩
theorem KSSC.shape {k:Nat}{w:World}{v:Value}{xs:Jc}(h:KSSC k w v xs):∃a c,v = .slice a xs.length c:=by
 obtain⟨a,c,_,_,h1,_⟩:=h;exact⟨a,c,h1⟩
def cmpS (a b:Jb):Int:=cmpL a.flatten b.flatten
theorem cmpS_cons {x y:List Int}(h:x.length=y.length) (r t:Jb):cmpS (x::r) (y::t)=if cmpL x y=0 then cmpS r t else cmpL x y:=by
 unfold cmpS;rw[List.flatten_cons,List.flatten_cons,cmpL_app h]
theorem cmpS_nil:cmpS [] []=0:=rfl
theorem cmpS_nl {y:List Int}(h:y.length=2) (t:Jb):cmpS [] (y::t) = -1:=by
 obtain⟨a,b,rfl⟩:=two h;rfl
theorem cmpS_nr {y:List Int}(h:y.length=2) (t:Jb):cmpS (y::t) []=1:=by
 obtain⟨a,b,rfl⟩:=two h;rfl
theorem compareFuncC {w:World}{u v:Value}{xs ys:Jb}(hx:KS 2 w u xs) (hy:KS 2 w v ys) :
  Calls Tryz.prog 148 #[u,v,.func (.func 111) #[] #[]] w fun e w'=>e = .returned (.int .i64 (cmpS xs ys))/\Below w.heap.size w w'/\w.drawn<=w'.drawn:=by
 obtain⟨xa,xc,xb,xo,rfl,hxa,hxc,hxl⟩:=hx;obtain⟨ya,yc,yb,yo,rfl,hya,hyc,hyl⟩:=hy;obtain⟨E,hE⟩:=exE (cmpS xs ys);rw[hE];have h0:Hid (cmpS (xs.drop 0) (ys.drop 0)=E):=hE;obtain⟨n,hn⟩:=exE (xs.length);obtain⟨m,hm⟩:=exE (ys.length)
 have hst:Hid (∀i,i < n->i < m->(xs.getD i []).length=2->(ys.getD i []).length=2->cmpS (xs.drop i) (ys.drop i)=if cmpL (xs.getD i []) (ys.getD i [])=0 then cmpS (xs.drop (i+1)) (ys.drop (i+1)) else cmpL (xs.getD i []) (ys.getD i [])):=fun i h1 h2 l1 l2=>by
  have e1:xs.getD i []=xs[i]'(by rw[hn];exact h1):=getD_eq (by rw[hn];exact h1) [];have e2:ys.getD i []=ys[i]'(by rw[hm];exact h2):=getD_eq (by rw[hm];exact h2) [];rw[List.drop_eq_getElem_cons (by omega),List.drop_eq_getElem_cons (l:=ys) (by omega),<-e1,<-e2,cmpS_cons (by rw[l1,l2])]
 have hsl:Hid (n < m->(ys.getD n []).length=2->cmpS (xs.drop n) (ys.drop n) = -1):=fun h l=>by
  have e2:ys.getD n []=ys[n]'(by rw[hm];exact h):=getD_eq (by rw[hm];exact h) [];rw[List.drop_eq_nil_of_le (by omega),List.drop_eq_getElem_cons (l:=ys) (by omega),<-e2,cmpS_nl l]
 have hsr:Hid (m < n->(xs.getD m []).length=2->cmpS (xs.drop m) (ys.drop m)=1):=fun h l=>by
  have e2:xs.getD m []=xs[m]'(by rw[hn];exact h):=getD_eq (by rw[hn];exact h) [];rw[show ys.drop m = [] from List.drop_eq_nil_of_le (by omega),List.drop_eq_getElem_cons (l:=xs) (by omega),<-e2,cmpS_nr l]
 have hse:Hid (n=m->cmpS (xs.drop n) (ys.drop m)=0):=fun h=>by
  rw[List.drop_eq_nil_of_le (by omega),List.drop_eq_nil_of_le (by omega)];rfl
 rw[hn] at hxa hxl|-;rw[hm] at hya hyl|-;have hcx:=qH (fun j (hj:j < n)=>hxc j (by omega));have hcy:=qH (fun j (hj:j < m)=>hyc j (by omega));clear hE hn hm hxc hyc;go_enter Tryz.func148, Tryz.ntmps148
 go_wp2_with fail
 go_loopw [13] (fun iv wr=>∃i:Nat,iv = .int .i64 i/\i<=n/\i<=m/\Hid (cmpS (xs.drop i) (ys.drop i)=E)/\Below w.heap.size w wr/\Hid (w.drawn<=wr.drawn)) (fun iv _=>n - (intOf iv).toNat)
 case atStart=>exact⟨0,rfl,by omega,by omega,h0,Below.refl _ w,Nat.le_refl _⟩
 case round=>
  clear h0;obtain⟨i,rfl,hi,him,hg,hbr,hdr⟩:=hrel;by_cases hlt:i < n
  ·have hii:(i:Int) < (n:Int):=(by omega);obtain rfl:=hxa (by omega);obtain⟨x2,xi⟩:=hcx.out i hlt;obtain⟨x,hx⟩:=exE (xs.getD i []);rw[hx] at x2 xi;obtain⟨a,b,rfl⟩:=two x2;obtain⟨c0,c1⟩:=xi.all2;replace c0:=cell_kept hbr c0;replace c1:=cell_kept hbr c1;clear xi;by_cases hlm:i < m
   ·have hd:decide ((m:Int)<=(i:Int))=false:=decide_eq_false (by omega);have him2:(i:Int) < (m:Int):=(by omega);obtain rfl:=hya (by omega);obtain⟨y2,yi⟩:=hcy.out i hlm;obtain⟨y,hy⟩:=exE (ys.getD i []);rw[hy] at y2 yi;obtain⟨c,d,rfl⟩:=two y2;obtain⟨d0,d1⟩:=yi.all2;replace d0:=cell_kept hbr d0;replace d1:=cell_kept hbr d1;have hg2:=hst.out i hlt hlm (by rw[hx];exact x2) (by rw[hy];exact y2);rw[hx,hy,hg.out] at hg2;clear yi x2 y2 hx hy;obtain⟨W2,hW2⟩:=exF ((wr.alloc (.cells #[.int .i64 a,.int .i64 b] 83)).alloc (.cells #[.int .i64 c,.int .i64 d] 83));have hbw:Below wr.heap.size wr W2:=(by rw[hW2];exact((Below.refl _ _).alloc (Nat.le_refl _) _).alloc (by simp) _);have hdw:Hid (w.drawn<=W2.drawn):=(by rw[hW2];exact hdr);have d0':=cell_kept (Below.alloc (Below.refl wr.heap.size wr) (Nat.le_refl _) (.cells #[.int .i64 a,.int .i64 b] 83)) d0;have d1':=cell_kept (Below.alloc (Below.refl wr.heap.size wr) (Nat.le_refl _) (.cells #[.int .i64 a,.int .i64 b] 83)) d1
    have kA:W2.heap[wr.heap.size]? = some (.cells #[.int .i64 a,.int .i64 b] 83):=by
     rw[hW2];exact(Below.heap_alloc _ _ _ (by simp)).trans (heap_alloc_new wr _)
    have kB:W2.heap[wr.heap.size+1]? = some (.cells #[.int .i64 c,.int .i64 d] 83):=by
     rw[hW2];have:=heap_alloc_new (wr.alloc (.cells #[.int .i64 a,.int .i64 b] 83)) (.cells #[.int .i64 c,.int .i64 d] 83)
     rwa [World.size_alloc] at this
    obtain⟨z0,z1⟩:=boxL2 kA;obtain⟨z2,z3⟩:=boxL2 kB;rw[hW2] at z0 z1 z2 z3;have HO:=orderC a b c d W2;obtain⟨Z,hZ⟩:=exE (cmpL [a,b] [c,d]);rw[hZ] at HO hg2;replace HO:=qH HO;replace hdr:=qH hdr;clear hZ kA kB d0 d1 hg;by_cases hz:Z=0
    ·subst hz;rw[if_pos rfl] at hg2;have hg2:=qH hg2.symm;go_wp2_with fail
     rw[<-hW2];replace hW2:=qH hW2;refine HO.out.mono ?_;rintro e w3 ⟨rfl,hb3,hd3⟩;have hd3:Hid (w.drawn<=w3.drawn):=Nat.le_trans hdw.out hd3;go_wp2_with fail
     go_roundw
     case rel=>exact⟨i+1,by go_num,by omega,by omega,hg2,btt (btt hbr hbw) hb3,hd3⟩
     case measure=>simp[intOf];omega
    ·have hzb:(Z != 0)=true:=(by simpa using hz);rw[if_neg hz] at hg2;have hg2:=qH hg2;replace hz:=qH hz;go_wp2_with fail
     rw[<-hW2];replace hW2:=qH hW2;refine HO.out.mono ?_;rintro e w3 ⟨rfl,hb3,hd3⟩;have hd3:Hid (w.drawn<=w3.drawn):=Nat.le_trans hdw.out hd3;go_wp2;go_ret;exact⟨by rw[hg2.out];rfl,btt (btt hbr hbw) hb3,hd3.out⟩
   ·obtain rfl:i=m:=(by omega);have hd:decide ((i:Int)<=(i:Int))=true:=decide_eq_true (Int.le_refl _)
    have hEe:Hid (E=1):=by
     show _=_;rw[<-hg.out];exact hsr.out hlt (by rw[hx];exact x2)
    clear hg hx x2;have hdr2:=qH hdr;clear hdr;have hb9:Below w.heap.size w (wr.alloc (.cells #[.int .i64 a,.int .i64 b] 83)):=hbr.alloc hbr.size _;go_wp2;go_ret;exact⟨by rw[hEe.out];rfl,hb9,hdr2.out.out⟩
  ·obtain rfl:i=n:=(by omega);by_cases hlm:i < m
   ·have hd:decide ((i:Int) < (m:Int))=true:=decide_eq_true (by omega)
    have hEe:Hid (E = -1):=by
     show _=_;rw[<-hg.out];exact hsl.out hlm (hcy.out i hlm).1
    clear hg;have hdr2:=qH hdr;clear hdr;go_wp2;go_ret;exact⟨by rw[hEe.out];rfl,hbr,hdr2.out.out⟩
   ·obtain rfl:i=m:=by omega
    have hEe:Hid (E=0):=by
     show _=_;rw[<-hg.out];exact hse.out rfl
    clear hg;have hdr2:=qH hdr;clear hdr;go_wp2;go_ret;exact⟨by rw[hEe.out];rfl,hbr,hdr2.out.out⟩
theorem compareC {w:World}{u v:Value}{xs ys:Jb}(hx:KS 2 w u xs) (hy:KS 2 w v ys):Calls Tryz.prog 92 #[u,v] w fun e w'=>e = .returned (.int .i64 (cmpS xs ys))/\Below w.heap.size w w'/\w.drawn<=w'.drawn:=by
 have HC:=qH (compareFuncC hx hy);obtain⟨Z,hZ⟩:=exE (cmpS xs ys);rw[hZ] at HC|-;obtain⟨_,_,rfl⟩:=hx.shape;obtain⟨_,_,rfl⟩:=hy.shape;go_enter Tryz.func92, Tryz.ntmps92
 go_wp2_with fail
 refine HC.out.mono ?_;rintro e w3 ⟨rfl,hb3,hd3⟩;replace hd3:=qH hd3;go_wp2;go_ret;exact⟨rfl,hb3,hd3.out⟩
theorem eqVxs {w:World}{u v:Value}{xs ys:Jb}(hx:KS 2 w u xs) (hy:KS 2 w v ys) :
  Calls Tryz.prog 199 #[u,v] w fun e w'=>e = .returned (.bool (decide (xs=ys)))/\Qt w w':=by
 obtain⟨xa,xc,xb,xo,rfl,hxa,hxc,_⟩:=hx;obtain⟨ya,yc,yb,yo,rfl,hya,hyc,_⟩:=hy;obtain⟨B,hB⟩:∃B,decide (xs=ys)=B:=⟨_,rfl⟩;rw[hB];replace hB:=qH hB;replace hxc:=qH hxc;replace hyc:=qH hyc;by_cases hlen:xs.length=ys.length
 ·rw[<-hlen];replace hlen:=qH hlen;have h0:Hid (xs.take 0=ys.take 0):=rfl;go_enter Tryz.func199, Tryz.ntmps199
  go_wp2;go_loopw [13] (fun iv wr=>∃i:Nat,iv = .int .i64 i/\i<=xs.length/\Hid (xs.take i=ys.take i)/\Qt w wr) (fun iv _=>xs.length - (intOf iv).toNat)
  case atStart=>exact⟨0,rfl,by omega,h0,Qt.refl w⟩
  case round=>
   clear h0;obtain⟨i,rfl,hi,ht,n,rfl⟩:=hrel;by_cases hlt:i < xs.length
   ·obtain rfl:=hxa (by omega);obtain rfl:=hya (by rw[<-hlen.out];omega);have hlt':i < ys.length:=(by rw[<-hlen.out];exact hlt);obtain⟨hx8,hxi⟩:=hxc.out i hlt;obtain⟨hy8,hyi⟩:=hyc.out i hlt';obtain⟨x,hx⟩:=exE (xs.getD i []);obtain⟨y,hy⟩:=exE (ys.getD i []);rw[hx] at hx8 hxi;rw[hy] at hy8 hyi;obtain⟨x0,x1,rfl⟩:=two hx8;obtain⟨y0,y1,rfl⟩:=two hy8;obtain⟨c0,c1⟩:=hxi.all2;obtain⟨d0,d1⟩:=hyi.all2;clear hxi hyi hx8 hy8;by_cases he : [x0,x1] = [y0,y1]
    ·have hE:eqL [x0,x1] [y0,y1]=true:=eqL_true.2 he;have ht2:Hid (xs.take (i+1)=ys.take (i+1)):=takes_next ht.out hlt hlt' (by rw[hx,hy,he]);clear hx hy he ht;go_wp2;go_quiet (fail)
     go_wp2;go_roundw
     case rel=>exact⟨i+1,by go_num,hlt,ht2,by first|exact(Qt.mk' w n).step nq|exact Qt.mk' w _⟩
     case measure=>simp[intOf];omega
    ·have hE:eqL [x0,x1] [y0,y1]=false:=eqL_false.2 he
     have hBf:Hid (B=false):=by
      show _=_;rw[<-hB.out];refine decide_eq_false fun h=>he ?_;rw[<-hx,<-hy,h]
     clear hx hy he ht;go_wp2;go_quiet (fail)
     go_wp2;go_ret;exact⟨by rw[hBf.out];rfl,by first|exact(Qt.mk' w n).step nq|exact Qt.mk' w _⟩
   ·have hBt:Hid (B=true):=by
     show _=_;rw[<-hB.out];exact decide_eq_true (takes_all ht.out (by omega) (by rw[<-hlen.out];omega))
    clear ht;go_wp2;go_ret;exact⟨by rw[hBt.out];rfl,Qt.mk' w n⟩
 ·have hBf:B=false:=by rw[<-hB.out];exact decide_eq_false fun h=>hlen (by rw[h])
  subst hBf;have h1:((xs.length:Int) == (ys.length:Int))=false:=by simp;omega
  go_enter Tryz.func199, Tryz.ntmps199
  go_wp2;go_ret;exact⟨rfl,Qt.refl w⟩
def faceG:Jb->Jb->Bool
 | [],_=>true
 | _::_,[]=>false
 | v::r,y::t=>if y=v then faceG r (y::t) else faceG (v::r) t
 termination_by a b=>a.length+b.length
theorem faceG_mem:∀ {a b:Jb},AscL a->AscL b->faceG a b=decide (∀x∈a,x∈b)
 | [],b,_,_=>by rw[faceG];simp
 | v::r,[],_,_=>by
  rw[faceG];exact(decide_eq_false fun h=>absurd (h v (by simp)) (by simp)).symm
 | v::r,y::t,ha,hb=>by
  rw[faceG];have ha2:=(List.pairwise_cons.1 ha);have hb2:=(List.pairwise_cons.1 hb);by_cases h:y=v
  ·rw[if_pos h,faceG_mem ha2.2 hb];subst h;simp
  ·rw[if_neg h,faceG_mem ha hb2.2];refine decide_eq_decide.2 ⟨fun q x hx=>List.mem_cons_of_mem _ (q x hx),fun q x hx=>?_⟩;rcases List.mem_cons.1 (q x hx) with e|e
   ·subst e;rcases List.mem_cons.1 hx with e2|e2
    ·exact absurd e2 h
    ·have h1:=ha2.1 _ e2;rcases List.mem_cons.1 (q v (by simp)) with e3|e3
     ·exact absurd e3.symm h
     ·exact absurd h1 (cmpL_asymm _ _ (hb2.1 _ e3))
   ·exact e
 termination_by a b=>a.length+b.length
theorem faceC {w:World}{u v:Value}{xs ys:Jb}(hx:KS 2 w u xs) (hy:KSC 2 w v ys) :
  Calls Tryz.prog 151 #[u,v] w fun e w'=>e = .returned (.bool (faceG xs ys))/\Below w.heap.size w w':=by
 obtain⟨xa,xc,xb,xo,rfl,hxa,hxc,hxl⟩:=hx;obtain⟨ya,yc,yb,yo,rfl,hya,hyc,hyl,hyC⟩:=hy;obtain⟨E,hE⟩:=exE (faceG xs ys);rw[hE];have h0:Hid (faceG (xs.drop 0) (ys.drop 0)=E):=hE;obtain⟨n,hn⟩:=exE (xs.length);obtain⟨m,hm⟩:=exE (ys.length)
 have hsa:Hid (∀i j,i < n->j < m->ys.getD j []=xs.getD i []->faceG (xs.drop i) (ys.drop j)=faceG (xs.drop (i+1)) (ys.drop j)):=fun i j h1 h2 he=>by
  have e1:xs.getD i []=xs[i]'(by rw[hn];exact h1):=getD_eq (by rw[hn];exact h1) [];have e2:ys.getD j []=ys[j]'(by rw[hm];exact h2):=getD_eq (by rw[hm];exact h2) [];rw[List.drop_eq_getElem_cons (by omega),List.drop_eq_getElem_cons (l:=ys) (by omega),<-e1,<-e2,faceG,if_pos he]
 have hsb:Hid (∀i j,i < n->j < m->ys.getD j [] ≠ xs.getD i []->faceG (xs.drop i) (ys.drop j)=faceG (xs.drop i) (ys.drop (j+1))):=fun i j h1 h2 he=>by
  have e1:xs.getD i []=xs[i]'(by rw[hn];exact h1):=getD_eq (by rw[hn];exact h1) [];have e2:ys.getD j []=ys[j]'(by rw[hm];exact h2):=getD_eq (by rw[hm];exact h2) [];rw[List.drop_eq_getElem_cons (by omega),List.drop_eq_getElem_cons (l:=ys) (by omega),<-e1,<-e2,faceG,if_neg he]
 have hsc:Hid (∀i,i < n->faceG (xs.drop i) (ys.drop m)=false):=fun i h1=>by
  rw[List.drop_eq_getElem_cons (l:=xs) (by omega),show ys.drop m = [] from List.drop_eq_nil_of_le (by omega),faceG]
 have hsd:Hid (∀j,faceG (xs.drop n) (ys.drop j)=true):=fun j=>by
  rw[List.drop_eq_nil_of_le (by omega),faceG]
 rw[hn] at hxa hxl|-;rw[hm] at hya hyl hyC|-;have hcx:=qH (fun j (hj:j < n)=>hxc j (by omega));have hcy:=qH (fun j (hj:j < m)=>hyc j (by omega));clear hE hn hm hxc hyc;go_enter Tryz.func151, Tryz.ntmps151
 go_wp2_with fail
 go_loopw [1,9] (fun bv iv wr=>∃(i j L C:Nat) (p:Option Addr),bv = .slice p L C/\iv = .int .i64 i/\i<=n/\Hid (j+L=m/\L<=C/\(0 < L->p=some ⟨yb,yo+j * 2,none⟩))/\L<=2199023255552/\Hid (faceG (xs.drop i) (ys.drop j)=E)/\Below w.heap.size w wr) (fun _ iv _=>n - (intOf iv).toNat)
 case atStart=>exact⟨0,0,m,yc,ya,rfl,rfl,by omega,⟨by omega,hyC,fun h=>by rw[hya h,Nat.zero_mul,Nat.add_zero]⟩,hyl,h0,Below.refl _ w⟩
 case round=>
  clear h0;obtain⟨i,j,L,C,p,rfl,rfl,hi,hj,hL,hg,hbr⟩:=hrel;by_cases hlt:i < n
  ·have hii:(i:Int) < (n:Int):=(by omega);obtain rfl:=hxa (by omega);obtain⟨x2,xi⟩:=hcx.out i hlt;obtain⟨x,hx⟩:=exE (xs.getD i []);rw[hx] at x2 xi;obtain⟨a,b,rfl⟩:=two x2;obtain⟨c0,c1⟩:=xi.all2;replace c0:=cell_kept hbr c0;replace c1:=cell_kept hbr c1;clear xi x2;replace hx:=qH hx;obtain⟨W2,hW2⟩:=exF (wr.alloc (.cells #[.int .i64 a,.int .i64 b] 83));have hbw:Below wr.heap.size wr W2:=(by rw[hW2];exact(Below.refl _ _).alloc (Nat.le_refl _) _);have kA:W2.heap[wr.heap.size]? = some (.cells #[.int .i64 a,.int .i64 b] 83):=(by rw[hW2];exact heap_alloc_new wr _);have HKA:=qH (fun W (hb:Below W2.heap.size W2 W)=>boxL2 (keptO hb kA));clear kA;have hb2:=btt hbr hbw;go_wp2_with fail
   rw[<-hW2];replace hW2:=qH hW2;obtain⟨wo,hwo⟩:=exF (wr);subst hwo;go_loopw [1] (fun bv w5=>∃(j L C:Nat) (p:Option Addr),bv = .slice p L C/\Hid (j+L=m/\L<=C/\(0 < L->p=some ⟨yb,yo+j * 2,none⟩))/\L<=2199023255552/\Hid (faceG (xs.drop i) (ys.drop j)=E)/\Below W2.heap.size W2 w5) (fun bv _=>match bv with | .slice _ l _=>l|_=>0)
   case atStart=>exact⟨j,L,C,p,rfl,hj,hL,hg,Below.refl _ _⟩
   case round=>
    clear hj hL hg;obtain⟨j,L,C,p,rfl,hj,hL,hg,hb5⟩:=hrel;obtain⟨z0,z1⟩:=HKA.out wr hb5;rcases Nat.eq_zero_or_pos L with h0|h0
    ·subst h0
     have hEf:Hid (E=false):=by
      show _=_;have:=hj.out.1
      rw[<-hg.out,show j=m by omega];exact hsc.out i hlt
     clear hg;go_wp2;go_quiet (fail)
     go_wp2;go_ret;exact⟨by rw[hEf.out];rfl,below_drewN (btt hb2 hb5) _⟩
    ·obtain⟨hj1,hj2,hj3⟩:=hj.out;obtain rfl:=hj3 h0;obtain⟨y2,yi⟩:=hcy.out j (by omega);obtain⟨y,hy⟩:=exE (ys.getD j []);rw[hy] at y2 yi;obtain⟨c,d,rfl⟩:=two y2;obtain⟨d0,d1⟩:=yi.all2;replace d0:=cell_kept (btt hb2 hb5) d0;replace d1:=cell_kept (btt hb2 hb5) d1;have hpos:decide ((0:Int) < (L:Int))=true:=decide_eq_true (by omega);by_cases he : [c,d] = [a,b]
     ·have hE:eqL [c,d] [a,b]=true:=eqL_true.2 he
      have hg2:Hid (faceG (xs.drop (i+1)) (ys.drop j)=E):=by
       show _=_;rw[<-hg.out];exact(hsa.out i j hlt (by omega) (by rw[hy,hx.out,he])).symm
      clear he hy hg yi y2;go_wp2;go_quiet (fail)
      go_wp2;refine⟨⟨i+1,j,L,C,_,rfl,by go_num,by omega,⟨hj1,hj2,fun _=>rfl⟩,by omega,hg2,below_drewN (btt hb2 hb5) _⟩,?_⟩;simp[intOf];omega
     ·have hE:eqL [c,d] [a,b]=false:=eqL_false.2 he
      have hg2:Hid (faceG (xs.drop i) (ys.drop (j+1))=E):=by
       show _=_;rw[<-hg.out];exact(hsb.out i j hlt (by omega) (by rw[hy,hx.out];exact he)).symm
      clear he hy hg yi y2;go_wp2;go_quiet (fail)
      go_wp2;refine⟨⟨j+1,L - 1,C - 1,_,rfl,⟨by omega,by omega,fun h=>?_⟩,by omega,hg2,below_drewN hb5 _⟩,?_⟩
      ·rw[if_neg (by omega),show yo+(j+1) * 2=yo+j * 2+2 by omega]
      ·show L - 1 < L;omega
  ·obtain rfl:i=n:=by omega
   have hEt:Hid (E=true):=by
    show _=_;rw[<-hg.out];exact hsd.out j
   clear hg;go_wp2;go_ret;exact⟨by rw[hEt.out];rfl,hbr⟩
end Go.Proofs.YtcnedkkcgdkioaaGreat
namespace Go.Proofs.YtcnedkkcgdkioaaGreat
open Go.RowKit Go.ChangeMaps Go.MapKept Go.WideMaps
def vxV (r:List Int):Value:=.agg (r.map (Value.int .i64)).toArray
def WfV (r:List Int):Prop:=r.length=2/\posV r=true
theorem litV {x:Int}(m:Nat) (h:0<=x/\x<=1048576) : Tryz.prog.keyLits (m+1) 3 [.int .i64 x]=some [.int .i64 x]:=by
 unfold Program.keyLits;simp only[und_int];rw[if_pos ⟨trivial,WalkArith.wf_i64 (by omega)⟩]
theorem lawVx:Maps.Keyed Tryz.prog 83:=Maps.Keyed.of_law (deep_law_gate (by kernel_rfl) (of_decide_eq_true (by kernel_rfl)) (of_decide_eq_true (by kernel_rfl)) (by kernel_rfl) (by kernel_rfl))
theorem keyVx {a b:Int}(g:0<=a/\a<=1048576) (g0:0<=b/\b<=1048576):∃l,keyOf Tryz.prog 83 (.agg #[.int .i64 a,.int .i64 b])=some l:=by
 obtain⟨m,hm⟩:=typesSize;have c2 : Tryz.prog.cellsOf 83=2:=by kernel_rfl
 have c1 : Tryz.prog.cellsOf 3=1:=by kernel_rfl
 have hk : Tryz.prog.keyType 83=true:=by kernel_rfl
 have uR:=Tryz.underlying83;refine⟨.string (keyBytes [.int .i64 a,.int .i64 b]),?_⟩;unfold keyOf;simp only[uR];rw[if_pos (by simp[hk,Value.formed,uR,c2]),hm];conv=>lhs;unfold Program.keyLits
 simp only[uR,c2,Value.cells];rw[if_pos (by exact⟨rfl,by kernel_rfl⟩)];simp only[List.mapM_cons,List.mapM_nil,List.drop,List.take,c1];rw[litV (m+2) g,litV (m+2) g0];rfl
theorem WfV.bd {r:List Int}(h:WfV r):∃a b,r = [a,b]/\0<=a/\a < 8/\0<=b/\b<=1048576:=by
 obtain⟨h2,hp⟩:=h;obtain⟨a,b,rfl⟩:=two h2;rw[posV_two] at hp;simp only[Bool.and_eq_true,decide_eq_true_eq] at hp;exact⟨a,b,rfl,hp.1,hp.2.1,hp.2.2.1,hp.2.2.2⟩
theorem keyX_vertex:KeyX Tryz.prog 83 vxV WfV where
 law:=lawVx
 has:=fun r h=>by
  obtain⟨a,b,rfl,h0,h1,h2,h3⟩:=h.bd;exact keyVx ⟨h0,by omega⟩ ⟨h2,h3⟩
 inj:=fun x y _ _ h=>by
  simp only[vxV,Value.agg.injEq,Array.mk.injEq] at h;exact(List.map_inj_right (fun a b hab=>by injection hab)).1 h
theorem umIncT : Tryz.prog.underlying 164=some (.map 83 48):=by kernel_rfl
theorem zRowV:∀w:World,(zeroValue 48).run Tryz.prog w = .ok (.slice none 0 0) w:=fun w=>by kernel_rfl
def occ (ms:List (List Int × Nat)) (r:List Int):List Nat:=(ms.filter fun x=>decide (x.1=r)).map Prod.snd
theorem occ_snoc (ms:List (List Int × Nat)) (a:List Int × Nat) (r:List Int):occ (ms ++ [a]) r=occ ms r++(if a.1=r then [a.2] else []):=by
 rw[occ,occ,List.filter_append,List.map_append];by_cases h:a.1=r<;>simp[h]
theorem occ_none {ms:List (List Int × Nat)}{r:List Int}(h:∀x∈ms,x.1 ≠ r):occ ms r = []:=by
 rw[occ,List.filter_eq_nil_iff.2 (fun x hx=>by simpa using h x hx)];rfl
theorem natI_appD (a b:List Nat):natI (a++b)=natI a++natI b:=List.map_append
structure RowV (w:World) (B:Nat) (ms:List (List Int × Nat)) (m:List (List Int × Value)):Prop where
 one:∀(i j:Nat) (p q:List Int × Value),m[i]? = some p->m[j]? = some q->p.1=q.1->i=j
 has:∀x∈ms,x.1∈m.map Prod.fst
 row:∀(i:Nat) (p:List Int × Value),m[i]? = some p->p.1∈ms.map Prod.fst/\OI w B p.2 (occ ms p.1).length (natI (occ ms p.1))
 apart:∀(i j:Nat) (p q:List Int × Value),i ≠ j->m[i]? = some p->m[j]? = some q->Apart p.2 q.2
variable {w w':World} {B:Nat} {ms:List (List Int × Nat)} {m:List (List Int × Value)}
theorem RowV.nil (w:World) (B:Nat):RowV w B [] []:=⟨by simp,by simp,by simp,by simp⟩
theorem RowV.keep (h:RowV w B ms m) (hb:Below w.heap.size w w'):RowV w' B ms m:=⟨h.one,h.has,fun i p hp=>⟨(h.row i p hp).1,(h.row i p hp).2.keep hb⟩,h.apart⟩
theorem RowV.other {E:TypeId}(h:RowV w B ms m) (hne:3 ≠ E) (hx:KeepX E w w'):RowV w' B ms m:=⟨h.one,h.has,fun i p hp=>⟨(h.row i p hp).1,(h.row i p hp).2.other hne hx⟩,h.apart⟩
theorem RowV.new {a:List Int × Nat}{v':Value}(h:RowV w B ms m) (hx:a.1 ∉ m.map Prod.fst) (hg:w.grownBy w' (Value.slice none 0 0).ownBlock) (hn:NewAt w (.slice none 0 0) v') (hv:OI w' B v' 1 [(a.2:Int)]) :
  RowV w' B (ms ++ [a]) (m ++ [(a.1,v')]):=by
 have hkey:∀(i:Nat) (p:List Int × Value),m[i]? = some p->a.1 ≠ p.1:=fun i p hp e=>hx (e▸List.mem_map_of_mem (f:=Prod.fst) (List.mem_of_getElem? hp))
 have hsp:∀(i:Nat) (p:List Int × Value),(m ++ [(a.1,v')])[i]? = some p->m[i]? = some p\/(i=m.length/\p=(a.1,v')):=fun i p hp=>by
  by_cases hi:i < m.length
  ·rw[List.getElem?_append_left hi] at hp;exact .inl hp
  ·rw[List.getElem?_append_right (by omega)] at hp;have h0:i - m.length=0:=(by have:=(List.getElem?_eq_some_iff.1 hp).1;simpa using this);rw[h0] at hp;simp only[List.getElem?_cons_zero,Option.some.injEq] at hp;exact .inr ⟨by omega,hp.symm⟩
 have hlen:∀(i:Nat) (p:List Int × Value),m[i]? = some p->i < m.length:=fun i p hp=>(List.getElem?_eq_some_iff.1 hp).1
 have hap:∀(i:Nat) (p:List Int × Value),m[i]? = some p->Apart p.2 v':=fun i p hp b c hb hc e=>by
  have hl:=World.ownsRow.lt (h.row i p hp).2 b hb;rcases hn with hn|hn
  ·rw[hn] at hc;cases hc
  ·rw[hn] at hc;simp only[Option.some.injEq] at hc;omega
 refine⟨fun i j p q hp hq hpq=>?_,fun x hxm=>?_,fun i p hp=>?_,fun i j p q hij hp hq=>?_⟩
 ·rcases hsp i p hp with hp|⟨rfl,rfl⟩
  ·rcases hsp j q hq with hq|⟨rfl,rfl⟩
   ·exact h.one i j p q hp hq hpq
   ·exact absurd hpq.symm (hkey i p hp)
  ·rcases hsp j q hq with hq|⟨rfl,rfl⟩
   ·exact absurd hpq (hkey j q hq)
   ·rfl
 ·rw[List.map_append,List.mem_append];rcases List.mem_append.1 hxm with hxm|hxm
  ·exact .inl (h.has x hxm)
  ·obtain rfl:=List.mem_singleton.1 hxm;exact .inr (by simp)
 ·rcases hsp i p hp with hp|⟨rfl,rfl⟩
  ·obtain⟨h1,h2⟩:=h.row i p hp;refine⟨by rw[List.map_append];exact List.mem_append_left _ h1,?_⟩;rw[occ_snoc,if_neg (hkey i p hp),List.append_nil];refine h2.kept hg ?_;by_cases hnn:p.2.ownBlock=none
   ·exact .inl hnn
   ·exact .inr hnn
  ·refine⟨by rw[List.map_append];exact List.mem_append_right _ (by simp),?_⟩;rw[occ_snoc,if_pos rfl,occ_none (r:=a.1) (fun x hxm e=>by have h3:=h.has x hxm;rw[e] at h3;exact hx h3)];exact hv
 ·rcases hsp i p hp with hp|⟨rfl,rfl⟩
  ·rcases hsp j q hq with hq|⟨rfl,rfl⟩
   ·exact h.apart i j p q hij hp hq
   ·exact hap i p hp
  ·rcases hsp j q hq with hq|⟨rfl,rfl⟩
   ·exact(hap j q hq).symm
   ·exact absurd rfl hij
theorem RowV.old {a:List Int × Nat}{v v':Value}{j:Nat}(h:RowV w B ms m) (hj:m[j]? = some (a.1,v)) (hg:w.grownBy w' v.ownBlock) (hn:NewAt w v v')
  (hv:OI w' B v' ((occ ms (a.1)).length+1) (natI (occ ms (a.1)) ++ [(a.2:Int)])):RowV w' B (ms ++ [a]) (m.set j (a.1,v')):=by
 have hjl:j < m.length:=(List.getElem?_eq_some_iff.1 hj).1
 have hsp:∀(i:Nat) (p:List Int × Value),(m.set j (a.1,v'))[i]? = some p->(i ≠ j/\m[i]? = some p)\/(i=j/\p=(a.1,v')):=fun i p hp=>by
  rw[List.getElem?_set] at hp;split at hp
  ·rename_i e
   subst e;first|rw[if_pos hjl] at hp|skip
   exact .inr ⟨rfl,(Option.some.inj hp).symm⟩
  ·rename_i e
   exact .inl ⟨fun e2=>e e2.symm,hp⟩
 have hkey:∀(i:Nat) (p:List Int × Value),i ≠ j->m[i]? = some p->a.1 ≠ p.1:=fun i p hi hp e=>hi (h.one i j p _ hp hj e.symm)
 have hap:∀(i:Nat) (p:List Int × Value),i ≠ j->m[i]? = some p->Apart p.2 v':=fun i p hi hp b c hb hc e=>by
  have hl:=World.ownsRow.lt (h.row i p hp).2 b hb;rcases hn with hn|hn
  ·rw[hn] at hc;exact h.apart i j p _ hi hp hj b c hb hc e
  ·rw[hn] at hc;simp only[Option.some.injEq] at hc;omega
 refine⟨fun i k p q hp hq hpq=>?_,fun x hxm=>?_,fun i p hp=>?_,fun i k p q hik hp hq=>?_⟩
 ·rcases hsp i p hp with⟨hi,hp'⟩|⟨hi,hp'⟩
  ·rcases hsp k q hq with⟨hk,hq'⟩|⟨hk,hq'⟩
   ·exact h.one i k p q hp' hq' hpq
   ·rw[hq'] at hpq;exact absurd hpq.symm (hkey i p hi hp')
  ·rcases hsp k q hq with⟨hk,hq'⟩|⟨hk,hq'⟩
   ·rw[hp'] at hpq;exact absurd hpq (hkey k q hk hq')
   ·rw[hi,hk]
 ·have hmem:∀y,y∈m.map Prod.fst->y∈(m.set j (a.1,v')).map Prod.fst:=fun y hy=>by
   rw[List.map_set,Go.WideElems.set_self _ _ _ (by rw[List.getElem?_map,hj];rfl)];exact hy
  rcases List.mem_append.1 hxm with hxm|hxm
  ·exact hmem _ (h.has x hxm)
  ·obtain rfl:=List.mem_singleton.1 hxm;exact hmem _ (List.mem_map_of_mem (f:=Prod.fst) (List.mem_of_getElem? hj))
 ·rcases hsp i p hp with⟨hi,hp⟩|⟨rfl,rfl⟩
  ·obtain⟨h1,h2⟩:=h.row i p hp;refine⟨by rw[List.map_append];exact List.mem_append_left _ h1,?_⟩;rw[occ_snoc,if_neg (hkey i p hi hp),List.append_nil];exact h2.kept hg (h.apart i j p _ hi hp hj).ne
  ·refine⟨by rw[List.map_append];exact List.mem_append_right _ (by simp),?_⟩;simp only
   rw[occ_snoc,if_pos rfl,natI_appD,List.length_append];exact hv
 ·rcases hsp i p hp with⟨hi,hp'⟩|⟨hi,hp'⟩
  ·rcases hsp k q hq with⟨hk,hq'⟩|⟨hk,hq'⟩
   ·exact h.apart i k p q hik hp' hq'
   ·rw[hq'];exact hap i p hi hp'
  ·rcases hsp k q hq with⟨hk,hq'⟩|⟨hk,hq'⟩
   ·rw[hp'];exact(hap k q hk hq').symm
   ·exact absurd (hi.trans hk.symm) hik
def TabV (w:World) (b B:Nat) (ms:List (List Int × Nat)):Prop:=∃m,MS vxV w b m/\(∀p∈m,WfV p.1)/\RowV w B ms m
theorem TabV.keep {w w':World}{b B:Nat}{ms:List (List Int × Nat)}(h:TabV w b B ms) (hb:Below w.heap.size w w'):TabV w' b B ms:=by
 obtain⟨m,h1,h2,h3⟩:=h;exact⟨m,h1.keep (hb.block _ h1.lt),h2,h3.keep hb⟩
theorem OI.notMap {w:World}{b B n:Nat}{v:Value}{xs:List Int}{es:Array MapEntry}{c:Nat}(h:OI w B v n xs) (hb:w.heap[b]? = some (.map es c)):v.ownBlock ≠ some b:=fun e=>by
 obtain⟨cs,hc⟩:=ownsRow_ty h b e;rw[hb] at hc;cases hc
theorem TabV.entry {w:World}{b B:Nat}{ms:List (List Int × Nat)}{a:List Int × Nat}(h:TabV w b B ms) (hw:WfV (a.1)) :
  ∃(v0:Value) (st:Nat) (es1:Array MapEntry) (c1:Nat),(Instr.mapEntry 164 (.map (some b)) (vxV (a.1))).run Tryz.prog w = .ok (.tuple #[v0,goInt st]) (setBlock w b (.map es1 c1))/\
   (∃es c,w.heap[b]? = some (.map es c))/\OI (setBlock w b (.map es1 c1)) B v0 (occ ms (a.1)).length (natI (occ ms (a.1)))/\
   ∀(w2:World) (v':Value),(setBlock w b (.map es1 c1)).grownBy w2 v0.ownBlock->NewAt (setBlock w b (.map es1 c1)) v0 v'->OI w2 B v' ((occ ms (a.1)).length+1) (natI (occ ms (a.1)) ++ [(a.2:Int)])->
    ∃es2 c2,(Instr.entryStore 164 (.map (some b)) (goInt st) v').run Tryz.prog w2 = .ok () (setBlock w2 b (.map es2 c2))/\(∃es c,w2.heap[b]? = some (.map es c))/\TabV (setBlock w2 b (.map es2 c2)) b B (ms ++ [a]):=by
 obtain⟨m,hM,hWf,hT⟩:=h;obtain⟨v0,st,es1,c1,hrun,hcase⟩:=MS.entry keyX_vertex umIncT zRowV hM hWf hw;obtain⟨es0,cl0,hb0,_⟩:=id hM;have hx1:KeepX 83 w (setBlock w b (.map es1 c1)):=keepX_map hb0 _;have hT1:=hT.other (by decide) hx1;have hb1:(setBlock w b (.map es1 c1)).heap[b]? = some (.map es1 c1):=heap_setBlock_same hb0 _;rcases hcase with⟨h1,rfl,h3⟩|⟨j,h1,h3⟩
 ·have hnil:occ ms (a.1) = []:=occ_none (fun x hxm e=>h1 (e▸hT.has x hxm));refine⟨_,st,es1,c1,hrun,⟨_,_,hb0⟩,?_,?_⟩
  ·rw[hnil];exact OI.nil _ _
  ·rw[hnil];intro w2 v' hg hn hv;have hb2:w2.heap[b]? = some (.map es1 c1):=(hg.block b (Array.getElem?_eq_some_iff.1 hb1).1 (by simp[Value.ownBlock])).trans hb1;obtain⟨es2,c2,hr2,hM2⟩:=h3 w2 v' hb2;refine⟨es2,c2,hr2,⟨_,_,hb2⟩,_,hM2,fun p hp=>?_,(hT1.new h1 hg hn hv).other (E:=83) (by decide) (keepX_map hb2 _)⟩;rcases List.mem_append.1 hp with hp|hp
   ·exact hWf p hp
   ·obtain rfl:=List.mem_singleton.1 hp;exact hw
 ·have hrow:=(hT1.row j _ h1).2;refine⟨v0,st,es1,c1,hrun,⟨_,_,hb0⟩,hrow,?_⟩;intro w2 v' hg hn hv;have hb2:w2.heap[b]? = some (.map es1 c1):=(hg.block b (Array.getElem?_eq_some_iff.1 hb1).1 (fun e=>hrow.notMap hb1 e.symm)).trans hb1;obtain⟨es2,c2,hr2,hM2⟩:=h3 w2 v' hb2;refine⟨es2,c2,hr2,⟨_,_,hb2⟩,_,hM2,fun p hp=>?_,(hT1.old h1 hg hn hv).other (E:=83) (by decide) (keepX_map hb2 _)⟩;rcases List.mem_or_eq_of_mem_set hp with hp|rfl
  ·exact hWf p hp
  ·exact hw
end Go.Proofs.YtcnedkkcgdkioaaGreat
