/- Texts of this claim, put together: RQ RW TB TC TD. -/
import Derived.Test.YtcnedkkcgdkioaaGreatKSg

set_option maxRecDepth 100000
set_option maxHeartbeats 12800000
namespace Go.Proofs.YtcnedkkcgdkioaaGreat
open Go.RowKit
theorem wp_region_ball {P:Program}{id:Nat}{Q:Exit->Act->World->Prop}{a:Act}{w:World}{l:List Oper}(hm:P.follows .mixedOrders=true) (hB:Region.lexB .any l.toArray=true)
  (h:wpQuiet P l.toArray (Below w.heap.size w) (fun a'=>∀w',Below w.heap.size w w'->Q .normal a' w') l a) :
  (Code.region id l.toArray true).wp P Q a w:=
 wp_region_quiet (C:=Below w.heap.size w) hm hB (below_drewN (Below.refl _ w) 1) (by simpa using h)
structure WQ (P:Program) (ops:Array Oper) (C:World->Prop) (Q:Act->Prop) (l:List Oper) (a:Act):Prop where
 out:wpQuiet P ops C Q l a
theorem WQ.nil {P:Program}{ops:Array Oper}{C:World->Prop}{Q:Act->Prop}{a:Act}(h:Q a):WQ P ops C Q [] a:=⟨wpQuiet_nil h⟩
theorem WQ.step {P:Program}{ops:Array Oper}{C:World->Prop}{Q:Act->Prop}{a:Act}{o:Oper}{rest:List Oper}
  (h:∀K:Act->Prop,(∀a,WQ P ops C Q rest a->K a)->if Region.wanted o (yielded ops a.tmps) then o.quiet P a C K else K (a.put o.dst undef)):WQ P ops C Q (o::rest) a:=
 ⟨wpQuiet_step fun K hK=>h K fun a hq=>hK a hq.out⟩
theorem wp_region_bw {P:Program}{id:Nat}{Q:Exit->Act->World->Prop}{a:Act}{w:World}{l:List Oper}(hm:P.follows .mixedOrders=true) (hB:Region.lexB .any l.toArray=true)
  (h:WQ P l.toArray (Below w.heap.size w) (fun a'=>∀w',Below w.heap.size w w'->Q .normal a' w') l a) :
  (Code.region id l.toArray true).wp P Q a w:=wp_region_ball hm hB h.out
theorem dropEnd {xs:List Int}{i:Nat}(h:xs.length<=i):xs.drop i = []:=List.drop_eq_nil_of_le h
theorem drop_cons0 {xs:List Int}{i:Nat}{x:Int}(h:i < xs.length) (hx:xs.getD i 0=x):xs.drop i=x::xs.drop (i+1):=by
 rw[List.drop_eq_getElem_cons h,<-hx,getD_eq h]
theorem cmpIntsC {w:World}{u v:Value}{xs ys:List Int}(hx:Ints w u xs) (hy:Ints w v ys) :
  Calls Tryz.prog 138 #[u,v] w fun e w'=>e = .returned (.int .i64 (cmpL xs ys))/\w'=w:=by
 obtain⟨xa,xc,xb,xo,rfl,hxa,hxc,hxl⟩:=hx;obtain⟨ya,yc,yb,yo,rfl,hya,hyc,hyl⟩:=hy;obtain⟨E,hE⟩:=exE (cmpL xs ys);rw[hE];have h0:Hid (cmpL (xs.drop 0) (ys.drop 0)=E):=hE;replace hxc:=qH hxc;replace hyc:=qH hyc;clear hE;go_enter Tryz.func138, Tryz.ntmps138
 go_wp2_with fail
 go_loopw [11] (fun iv wr=>∃i:Nat,iv = .int .i64 i/\i<=xs.length/\i<=ys.length/\Hid (cmpL (xs.drop i) (ys.drop i)=E)/\wr=w) (fun iv _=>xs.length - (intOf iv).toNat)
 case atStart=>exact⟨0,rfl,by omega,by omega,h0,rfl⟩
 case round=>
  clear h0;obtain⟨i,rfl,hi,hj,ht,rfl⟩:=hrel;by_cases hlt:i < xs.length
  ·obtain rfl:=hxa (by omega);have hxi:=hxc.out i hlt;obtain⟨x,hx⟩:=exE (xs.getD i 0);rw[hx] at hxi;by_cases hlu:i < ys.length
   ·obtain rfl:=hya (by omega);have hyi:=hyc.out i hlu;obtain⟨y,hy⟩:=exE (ys.getD i 0);rw[hy] at hyi;have ht2:=ht.out;rw[drop_cons0 hlt hx,drop_cons0 hlu hy] at ht2;have HC:=cmpInt x y wr;have hge : ¬ys.length<=i:=(by omega);clear hx hy ht;by_cases hz:cmpI x y=0
    ·rw[cmpL_hd hz] at ht2;rw[hz] at HC;replace ht2:=qH ht2;replace HC:=qH HC;clear hz;go_wp2_with fail
     refine HC.out.mono ?_;rintro e w' ⟨rfl,rfl⟩;go_wp2_with fail
     go_roundw
     case rel=>exact⟨i+1,by go_num,hlt,hlu,ht2,by first|rfl|trivial⟩
     case measure=>simp[intOf];omega
    ·rw[cmpL_ne hz] at ht2;obtain⟨z,hzz⟩:=exE (cmpI x y);rw[hzz] at HC ht2 hz;replace ht2:=qH ht2;replace HC:=qH HC;have hz1:(z != 0)=true:=(by simpa using hz);clear hzz;go_wp2_with fail
     refine HC.out.mono ?_;rintro e w' ⟨rfl,rfl⟩;go_wp2_with fail
     go_ret;exact⟨ret_int ht2.out,rfl⟩
   ·have hE:Hid ((1:Int)=E):=by
     have:=ht.out
     rw[drop_cons0 hlt hx,dropEnd (xs:=ys) (by omega)] at this;exact this
    have hge:ys.length<=i:=(by omega);clear ht hx;go_wp2_with fail
    go_ret;exact⟨ret_int hE.out,rfl⟩
  ·by_cases hlu:xs.length < ys.length
   ·have hE:Hid ((-1:Int)=E):=by
     have:=ht.out
     rw[dropEnd (xs:=xs) (by omega),drop_cons0 (xs:=ys) (x:=ys.getD i 0) (by omega) rfl] at this;exact this
    clear ht;go_wp2_with fail
    go_ret;exact⟨ret_int hE.out,rfl⟩
   ·have hE:Hid ((0:Int)=E):=by
     have:=ht.out
     rw[dropEnd (xs:=xs) (by omega),dropEnd (xs:=ys) (by omega)] at this;exact this
    clear ht;go_wp2_with fail
    go_ret;exact⟨ret_int hE.out,rfl⟩
def outR (most x:Int):Bool:=decide (x < 0\/most<=x)
theorem vecOne {w:World}{b:Nat}{x most:Int}(h:w.cell? ⟨b,0,none⟩=some (.int .i64 most)) :
  Calls Tryz.prog 191 #[.int .i64 x,.pointer (some ⟨b,0,none⟩)] w fun e w'=>e = .returned (.bool (outR most x))/\w'=w:=by
 by_cases h1:x < 0
 ·have hr:outR most x=true:=decide_eq_true (.inl h1);rw[hr];have d1:decide (x < 0)=true:=decide_eq_true h1;go_enter Tryz.func191, Tryz.ntmps191
  go_wp2;go_ret;exact⟨rfl,rfl⟩
 ·have d1:decide (x < 0)=false:=decide_eq_false h1;have hr:outR most x=decide (most<=x):=by unfold outR;simp[h1]
  rw[hr];obtain⟨B,hB⟩:=exE (decide (most<=x));rw[hB];clear hr h1;go_enter Tryz.func191, Tryz.ntmps191
  go_wp2;go_ret;exact⟨by first|rfl|(rw[<-hB];rfl)|simp[<-hB],rfl⟩
theorem vecIndex {w:World}{b:Nat}{u:Value}{xs:List Int}{most:Int}(hx:Ints w u xs) (h:w.cell? ⟨b,0,none⟩=some (.int .i64 most)) :
  Calls Tryz.prog 201 #[u,.func (.func 191) #[] #[.pointer (some ⟨b,0,none⟩)]] w fun e w'=>∃z:Int,e = .returned (.int .i64 z)/\decide (0<=z)=xs.any (outR most)/\w'=w:=by
 obtain⟨xa,xc,xb,xo,rfl,hxa,hxc,hxl⟩:=hx;obtain⟨A,hA⟩:=exE (xs.any (outR most));rw[hA];have h0:Hid ((xs.drop 0).any (outR most)=A):=hA;replace hxc:=qH hxc;have HC:=qH (fun x=>vecOne (x:=x) h);clear hA h;go_enter Tryz.func201, Tryz.ntmps201
 go_wp2_with fail
 go_loopw [8] (fun iv wr=>∃i:Nat,iv = .int .i64 i/\i<=xs.length/\Hid ((xs.drop i).any (outR most)=A)/\wr=w) (fun iv _=>xs.length - (intOf iv).toNat)
 case atStart=>exact⟨0,rfl,by omega,h0,rfl⟩
 case round=>
  clear h0;obtain⟨i,rfl,hi,ht,rfl⟩:=hrel;by_cases hlt:i < xs.length
  ·obtain rfl:=hxa (by omega);have hxi:=hxc.out i hlt;obtain⟨x,hx⟩:=exE (xs.getD i 0);rw[hx] at hxi;have ht2:=ht.out;rw[drop_cons0 hlt hx,List.any_cons] at ht2;have H1:=HC.out x;obtain⟨B,hB⟩:=exE (outR most x);rw[hB] at H1 ht2;replace H1:=qH H1;clear hx ht hB;cases B
   ·rw[Bool.false_or] at ht2;replace ht2:=qH ht2;go_wp2_with fail
    refine H1.out.mono ?_;rintro e w' ⟨rfl,rfl⟩;go_wp2_with fail
    go_roundw
    case rel=>exact⟨i+1,by go_num,hlt,ht2,by first|rfl|trivial⟩
    case measure=>simp[intOf];omega
   ·rw[Bool.true_or] at ht2;replace ht2:=qH ht2;go_wp2_with fail
    refine H1.out.mono ?_;rintro e w' ⟨rfl,rfl⟩;go_wp2_with fail
    go_ret;exact⟨_,rfl,by rw[<-ht2.out];exact decide_eq_true (by omega),rfl⟩
  ·have hE:Hid (false=A):=by
    have:=ht.out
    rw[dropEnd (xs:=xs) (by omega)] at this;exact this
   clear ht;go_wp2_with fail
   go_ret;exact⟨_,rfl,by rw[<-hE.out];rfl,rfl⟩
theorem vecContains {w:World}{b:Nat}{u:Value}{xs:List Int}{most:Int}(hx:Ints w u xs) (h:w.cell? ⟨b,0,none⟩=some (.int .i64 most)) :
  Calls Tryz.prog 149 #[u,.func (.func 191) #[] #[.pointer (some ⟨b,0,none⟩)]] w fun e w'=>e = .returned (.bool (xs.any (outR most)))/\w'=w:=by
 have HI:=qH (vecIndex hx h);obtain⟨xa,xc,xb,xo,rfl,_⟩:=hx;obtain⟨A,hA⟩:=exE (xs.any (outR most));rw[hA] at HI|-;clear hA h;go_enter Tryz.func149, Tryz.ntmps149
 go_wp2_with fail
 refine HI.out.mono ?_;rintro e w' ⟨z,rfl,hz,rfl⟩;go_wp2;go_ret;exact⟨rfl,rfl⟩
theorem vecE_eq {v:List Int}{n most:Int}:vecE v n most=if (v.length:Int) ≠ n then 15 else if v.any (outR most)=true then 2 else 0:=by
 unfold vecE;by_cases h:∃x∈v,x < 0\/most<=x
 ·have h2:v.any (outR most)=true:=List.any_eq_true.2 (by obtain⟨x,hx,hh⟩:=h;exact⟨x,hx,decide_eq_true hh⟩);rw[if_pos h,if_pos h2]
 ·have h2 : ¬v.any (outR most)=true:=fun g=>h (by obtain⟨x,hx,hh⟩:=List.any_eq_true.1 g;exact⟨x,hx,of_decide_eq_true hh⟩);rw[if_neg h,if_neg h2]
theorem vectorC {w:World}{u:Value}{xs:List Int}{n most:Int}(hx:Ints w u xs) :
  Calls Tryz.prog 137 #[u,.int .i64 n,.int .i64 most] w fun e w'=>e = .returned (.int .i64 (vecE xs n most))/\Below w.heap.size w w':=by
 obtain⟨W1,hW1⟩:=exF (w.alloc (.cells #[.int .i64 most] 3));have hb1:Below w.heap.size w W1:=by rw[hW1];exact(Below.refl _ _).alloc (Nat.le_refl _) _
 have k1:W1.heap[w.heap.size]? = some (.cells #[.int .i64 most] 3 (0,0)):=by rw[hW1];exact heap_alloc_new _ _
 have HC:=vecContains (hx.keep hb1) (cell_of_one k1);obtain⟨xa,xc,xb,xo,rfl,_⟩:=hx;rw[vecE_eq];clear k1;by_cases hn:(xs.length:Int)=n
 ·rw[if_neg (fun h=>h hn)];subst hn;obtain⟨B,hB⟩:=exE (xs.any (outR most));rw[hB] at HC|-;replace HC:=qH HC;clear hB;cases B
  ·go_enter Tryz.func137, Tryz.ntmps137
   go_wp2_with fail
   rw[<-hW1];refine HC.out.mono ?_;rintro e w' ⟨rfl,rfl⟩;replace hW1:=qH hW1;go_wp2;go_ret;exact⟨rfl,hb1⟩
  ·go_enter Tryz.func137, Tryz.ntmps137
   go_wp2_with fail
   rw[<-hW1];refine HC.out.mono ?_;rintro e w' ⟨rfl,rfl⟩;replace hW1:=qH hW1;go_wp2;go_ret;exact⟨rfl,hb1⟩
 ·rw[if_pos hn];have d1:((xs.length:Int) != n)=true:=by simpa using hn
  clear hn HC;go_enter Tryz.func137, Tryz.ntmps137
  go_wp2;go_ret;rw[hW1] at hb1;exact⟨rfl,hb1⟩
def unordB (l:Jb) (i:Nat):Bool:=decide (0 < i/\0<=cmpL (l.getD (i - 1) []) (l.getD i []))
theorem unordC {w:World}{u:Value}{l:Jb}{i:Nat}(hx:Intss w u l) (hi:i < l.length) :
  Calls Tryz.prog 192 #[u,.int .i64 (i:Int)] w fun e w'=>e = .returned (.bool (unordB l i))/\Below w.heap.size w w':=by
 have hmx : Tryz.prog.follows .mixedOrders=true:=by kernel_rfl
 obtain⟨xa,xc,xb,xo,rfl,hxa,hxc,hxl⟩:=hx;obtain rfl:=hxa (by omega);rcases Nat.eq_zero_or_pos i with h0|h0
 ·have hr:unordB l i=false:=decide_eq_false (fun h=>by omega);rw[hr];subst h0;clear hr hxc;go_enter Tryz.func192, Tryz.ntmps192
  go_wp2_with fail
  refine wp_region_bw hmx (by kernel_rfl) ?_
  repeat (refine WQ.step fun K hK=>?_;go_simp;first|(refine hK _ ?_;clear hK K)|(apply Exists.intro;refine⟨fun wq hC=>?_,hK _ ?_⟩;(·(first|with_reducible rfl|(go_simp;first|done|with_reducible rfl|with_reducible exact⟨rfl,rfl⟩)));clear hK K))
  refine WQ.nil ?_;intro w4 hb4;go_wp2;go_ret;exact⟨rfl,hb4⟩
 ·obtain⟨u1,c1,hu1⟩:=hxc (i - 1) (by omega);obtain⟨u2,c2,hu2⟩:=hxc i hi;have hr0:unordB l i=decide (0<=cmpL (l.getD (i - 1) []) (l.getD i [])):=by unfold unordB;simp[h0]
  obtain⟨p,hp⟩:=exE (l.getD (i - 1) []);obtain⟨q,hq⟩:=exE (l.getD i []);rw[hp,hq] at hr0;rw[hp] at hu1;rw[hq] at hu2;have HC:=qH (fun W (hb:Below w.heap.size w W)=>cmpIntsC (hu1.keep hb) (hu2.keep hb));obtain⟨z,hz⟩:=exE (cmpL p q);rw[hz] at hr0;simp only[hz] at HC;rw[hr0];obtain⟨a1,b1,rfl⟩:∃a c,u1 = .slice a p.length c:=by obtain⟨a,c,_,_,h,_⟩:=hu1;exact⟨a,c,h⟩
  obtain⟨a2,b2,rfl⟩:∃a c,u2 = .slice a q.length c:=by obtain⟨a,c,_,_,h,_⟩:=hu2;exact⟨a,c,h⟩
  obtain⟨n1,hn1⟩:=exE (p.length);obtain⟨n2,hn2⟩:=exE (q.length);rw[hn1] at c1;rw[hn2] at c2;simp only[hn1,hn2] at HC;have d1:decide ((0:Int) < (i:Int))=true:=decide_eq_true (by omega);obtain⟨k,hk⟩:=exE (i - 1);rw[hk] at c1;have hwr:IntKind.i64.wrap ((i:Int) - 1)=(k:Int):=by rw[show(i:Int) - 1=(k:Int) by omega];exact IntWalk.i64_in _ (by omega)
  have hi1:(k:Int) < (l.length:Int):=by omega
  have hi2:(i:Int) < (l.length:Int):=by omega
  obtain⟨B,hB⟩:=exE (decide (0<=z));rw[hB];have HK:=qH (fun W (hb:Below w.heap.size w W)=>And.intro (cell_kept hb c1) (cell_kept hb c2));clear hxc hu1 hu2 hz hr0 c1 c2 hp hq hk hn1 hn2;go_enter Tryz.func192, Tryz.ntmps192
  go_wp2_with fail
  refine wp_region_bw hmx (by kernel_rfl) ?_
  repeat (refine WQ.step fun K hK=>?_;go_simp;first|(refine hK _ ?_;clear hK K)|(apply Exists.intro;refine⟨fun wq hC=>?_,hK _ ?_⟩;(·(first|with_reducible rfl|(obtain⟨c1,c2⟩:=HK.out wq hC;go_simp;first|done|with_reducible rfl|with_reducible exact⟨rfl,rfl⟩)));clear hK K))
  (refine WQ.step fun K hK=>?_;go_simp;first|(refine hK _ ?_;clear hK K)|(apply Exists.intro;refine⟨fun wq hC=>?_,hK _ ?_⟩;(·(refine(HC.out wq hC).mono ?_;rintro e w' ⟨rfl,rfl⟩;exact⟨rfl,hC⟩));clear hK K))
  repeat (refine WQ.step fun K hK=>?_;go_simp;first|(refine hK _ ?_;clear hK K)|(apply Exists.intro;refine⟨fun wq hC=>?_,hK _ ?_⟩;(·(first|with_reducible rfl|(go_simp;first|done|with_reducible rfl|with_reducible exact⟨rfl,rfl⟩)));clear hK K))
  refine WQ.nil ?_;intro w4 hb4;go_wp2;go_ret;exact⟨by first|rfl|(rw[<-hB];rfl)|simp[<-hB],hb4⟩
theorem Ints.shape {w:World}{v:Value}{xs:List Int}(h:Ints w v xs):∃a c,v = .slice a xs.length c:=by obtain⟨a,c,_,_,h,_⟩:=h;exact⟨a,c,h⟩
theorem Intss.shape {w:World}{v:Value}{xs:Jb}(h:Intss w v xs):∃a c,v = .slice a xs.length c:=by obtain⟨a,c,_,_,h,_⟩:=h;exact⟨a,c,h⟩
theorem hasOne {w:World}{u vv:Value}{bv:Nat}{x y:List Int}(hx:Ints w u y) (cv:w.cell? ⟨bv,0,none⟩=some vv) (hv:Ints w vv x) :
  Calls Tryz.prog 222 #[u,.pointer (some ⟨bv,0,none⟩)] w fun e w'=>e = .returned (.bool (decide (y=x)))/\Below w.heap.size w w':=by
 have HE:=qH (eqInts hx hv);obtain⟨ua,uc,hu⟩:=hx.shape;obtain⟨va,vc,hvv⟩:=hv.shape;subst hu hvv;obtain⟨A,hA⟩:∃A,decide (y=x)=A:=⟨_,rfl⟩;rw[hA] at HE|-;replace hA:=qH hA;clear hx hv;go_enter Tryz.func222, Tryz.ntmps222
 go_wp2_with fail
 refine HE.out.mono ?_;rintro e w' ⟨rfl,hq⟩;have hb:=hq.below;go_wp2;go_ret;exact⟨rfl,hb⟩
theorem hasIndex {w:World}{u vv:Value}{bv:Nat}{xs:Jb}{x:List Int}(hx:Intss w u xs) (cv:w.cell? ⟨bv,0,none⟩=some vv) (hv:Ints w vv x) :
  Calls Tryz.prog 249 #[u,.func (.func 222) #[] #[.pointer (some ⟨bv,0,none⟩)]] w fun e w'=>∃z:Int,e = .returned (.int .i64 z)/\decide (0<=z)=decide (x∈xs)/\Below w.heap.size w w':=by
 obtain⟨xa,xc,xb,xo,rfl,hxa,hxc,hxl⟩:=hx;replace hxc:=qH hxc;have h0:Hid (x ∉ xs.take 0):=by show ¬_;simp
 have hvh:=qH hv;obtain⟨va,vc,hvv⟩:=hv.shape;subst hvv;clear hv;go_enter Tryz.func249, Tryz.ntmps249
 go_wp2_with fail
 go_loopw [8] (fun iv wr=>∃i:Nat,iv = .int .i64 i/\i<=xs.length/\Hid (x ∉ xs.take i)/\Below w.heap.size w wr) (fun iv _=>xs.length - (intOf iv).toNat)
 case atStart=>exact⟨0,rfl,by omega,h0,Below.refl _ _⟩
 case round=>
  clear h0;obtain⟨i,rfl,hi,hno,hbr⟩:=hrel;by_cases hlt:i < xs.length
  ·obtain rfl:=hxa (by omega);obtain⟨xu,hxi,hxk⟩:=hxc.out i hlt;obtain⟨y,hy⟩:=exE (xs.getD i []);rw[hy] at hxk;have c0:=cell_kept hbr hxi;have HC:=hasOne (hxk.keep hbr) (cell_kept hbr cv) (hvh.out.keep hbr);have hmem:y∈xs:=(by rw[<-hy,getD_eq hlt];exact List.getElem_mem hlt);have htk:xs.take (i+1)=xs.take i ++ [y]:=(by rw[take_snoc hlt [],hy]);obtain⟨xsa,xsc,hxs⟩:=hxk.shape;subst hxs;clear hxk hy hxi;by_cases he:y=x
   ·rw[decide_eq_true he] at HC;replace HC:=qH HC;have hres:Hid (decide (x∈xs)=true):=(by show _=_;rw[<-he];exact decide_eq_true hmem);have h0i:decide ((0:Int)<=(i:Int))=true:=decide_eq_true (by omega);clear htk hmem he hno;go_wp2_with fail
    refine HC.out.mono ?_;rintro e w' ⟨rfl,hb⟩;have hbn:=btt hbr hb;go_wp2;go_ret;exact⟨_,rfl,by rw[hres.out];exact h0i,hbn⟩
   ·rw[decide_eq_false he] at HC;replace HC:=qH HC
    have hnx:Hid (x ∉ xs.take (i+1)):=by
     show ¬_;rw[htk,List.mem_append,List.mem_singleton];exact fun h=>h.elim hno.out fun h=>he h.symm
    clear htk hmem he hno;go_wp2_with fail
    refine HC.out.mono ?_;rintro e w' ⟨rfl,hb⟩;have hbn:=btt hbr hb;go_wp2;go_roundw
    case rel=>exact⟨i+1,by go_num,hlt,hnx,hbn⟩
    case measure=>simp[intOf];omega
  ·have hres:Hid (decide (x∈xs)=false):=by
    show _=_;have:=hno.out
    rw[List.take_of_length_le (by omega)] at this;exact decide_eq_false this
   clear hno;go_wp2;go_ret;exact⟨_,rfl,by rw[hres.out];rfl,hbr⟩
theorem hasContains {w:World}{u vv:Value}{bv:Nat}{xs:Jb}{x:List Int}(hx:Intss w u xs) (cv:w.cell? ⟨bv,0,none⟩=some vv) (hv:Ints w vv x) :
  Calls Tryz.prog 221 #[u,.func (.func 222) #[] #[.pointer (some ⟨bv,0,none⟩)]] w fun e w'=>e = .returned (.bool (decide (x∈xs)))/\Below w.heap.size w w':=by
 have HI:=hasIndex hx cv hv;obtain⟨A,hA⟩:=exE (decide (x∈xs));rw[hA] at HI|-;replace HI:=qH HI;clear hA;obtain⟨ua,uc,hu⟩:=hx.shape;subst hu;clear hx hv;go_enter Tryz.func221, Tryz.ntmps221
 go_wp2_with fail
 refine HI.out.mono ?_;rintro e w' ⟨z,rfl,hz,hw'⟩;go_wp2;go_ret;exact⟨rfl,hw'⟩
theorem hasC {w:World}{u v:Value}{l:Jb}{x:List Int}(hx:Intss w u l) (hv:Ints w v x) :
  Calls Tryz.prog 193 #[u,v] w fun e w'=>e = .returned (.bool (decide (x∈l)))/\Below w.heap.size w w':=by
 obtain⟨va,vc,hvv⟩:=hv.shape;subst hvv;obtain⟨W1,hW1⟩:=exF (w.alloc (.cells #[.slice va x.length vc] 48));have hb1:Below w.heap.size w W1:=by rw[hW1];exact(Below.refl _ _).alloc (Nat.le_refl _) _
 have k1:W1.heap[w.heap.size]? = some (.cells #[.slice va x.length vc] 48 (0,0)):=by rw[hW1];exact heap_alloc_new _ _
 have HC:=qH (hasContains (hx.keep hb1) (cell_of_one k1) (hv.keep hb1));obtain⟨ua,uc,hu⟩:=hx.shape;subst hu;obtain⟨A,hA⟩:=exE (decide (x∈l));rw[hA] at HC|-;clear hx hv hA k1;go_enter Tryz.func193, Tryz.ntmps193
 go_wp2_with fail
 rw[<-hW1];replace hW1:=qH hW1;refine HC.out.mono ?_;rintro e w' ⟨rfl,hb2⟩;have hb:=btt hb1 hb2;go_wp2;go_ret;exact⟨rfl,hb⟩
theorem firstE_step {f:Nat->Int}{m k:Nat}{F:Int}(h:firstE f (m+1) k=F) (h0:f k=0):firstE f m (k+1)=F:=by rw[firstE,if_neg (fun g=>g h0)] at h;exact h
theorem firstE_stop {f:Nat->Int}{m k:Nat}{F:Int}(h:firstE f (m+1) k=F) (h0:f k ≠ 0):f k=F:=by rw[firstE,if_pos h0] at h;exact h
theorem outE_eq {n o:Int}{l:Jb}{k:Nat}:outE n o l k=if vecE (l.getD k []) n o ≠ 0 then vecE (l.getD k []) n o else if unordB l k=true then 14 else 0:=by
 unfold outE unordB;simp only[decide_eq_true_eq]
theorem calmE_eq {o l:Jb}{k:Nat}:calmE o l k=if decide (l.getD k []∈o)=false then 6 else if unordB l k=true then 14 else 0:=by
 unfold calmE unordB;simp only[decide_eq_true_eq,decide_eq_false_iff_not]
theorem Intss.at {w:World}{a:Option Addr}{c:Nat}{l:Jb}(h:Intss w (.slice a l.length c) l) (h0:0 < l.length):∃b off,a=some ⟨b,off,none⟩/\∀j,j < l.length->∃u,w.cell? ⟨b,off+j,none⟩=some u/\Ints w u (l.getD j []):=by
 obtain⟨a',c',b,off,hv,ha,hc,_⟩:=h;injection hv with e1 _ _;exact⟨b,off,e1.trans (ha h0),hc⟩
theorem vectorsC {w:World}{n i o:Int}{ta:Option Addr}{tn tc:Nat}{u0 u1 u2:Value}{c:Cs}(h0:Ints w u0 c.1) (h1:Intss w u1 c.2.1) (h2:Intss w u2 c.2.2) :
  Calls Tryz.prog 139 #[.agg #[.int .i64 n,.int .i64 i,.int .i64 o,.slice ta tn tc],.agg #[u0,u1,u2]] w fun e w'=>e = .returned (.int .i64 (outsE n o c))/\Below w.heap.size w w':=by
 obtain⟨a0,c0,hs0⟩:=h0.shape;obtain⟨a1,c1,hs1⟩:=h1.shape;obtain⟨a2,c2,hs2⟩:=h2.shape;subst hs0 hs1 hs2;obtain⟨x0,l1,l2⟩:=c;have hl2:l2.length<=5864062014805:=by obtain⟨_,_,_,_,_,_,_,h⟩:=h2;exact h
 obtain⟨n0,hn0⟩:=exE (x0.length);obtain⟨W1,hW1⟩:=exF ((w.alloc (.cells #[.int .i64 n,.int .i64 i,.int .i64 o,.slice ta tn tc] 24)).alloc (.cells #[.slice a0 n0 c0,.slice a1 l1.length c1,.slice a2 l2.length c2] 95));have hb1:Below w.heap.size w W1:=by rw[hW1];exact((Below.refl _ w).alloc (Nat.le_refl _) _).alloc (by simp) _
 have kT:W1.heap[w.heap.size]? = some (.cells #[.int .i64 n,.int .i64 i,.int .i64 o,.slice ta tn tc] 24):=by
  rw[hW1];exact(Below.heap_alloc _ _ _ (by simp)).trans (World.alloc_heap_new w _)
 have kC:W1.heap[w.heap.size+1]? = some (.cells #[.slice a0 n0 c0,.slice a1 l1.length c1,.slice a2 l2.length c2] 95):=by
  rw[hW1];have:=World.alloc_heap_new (w.alloc (.cells #[.int .i64 n,.int .i64 i,.int .i64 o,.slice ta tn tc] 24)) (.cells #[.slice a0 n0 c0,.slice a1 l1.length c1,.slice a2 l2.length c2] 95)
  rwa [World.size_alloc] at this
 have HK:=qH (fun W (hb:Below W1.heap.size W1 W)=>And.intro (cell_kept hb (show W1.cell? ⟨w.heap.size,0,none⟩=some (.int .i64 n) by rw[cell_of_row _ _ 0 _ _ _ kT];rfl)) (And.intro (cell_kept hb (show W1.cell? ⟨w.heap.size,2,none⟩=some (.int .i64 o) by rw[cell_of_row _ _ 2 _ _ _ kT];rfl)) (And.intro (cell_kept hb (show W1.cell? ⟨w.heap.size+1,1,none⟩=some (.slice a1 l1.length c1) by rw[cell_of_row _ _ 1 _ _ _ kC];rfl)) (cell_kept hb (show W1.cell? ⟨w.heap.size+1,2,none⟩=some (.slice a2 l2.length c2) by rw[cell_of_row _ _ 2 _ _ _ kC];rfl)))));have H1:=qH (fun W (hb:Below W1.heap.size W1 W)=>(h1.keep hb1).keep hb);have H2:=qH (fun W (hb:Below W1.heap.size W1 W)=>(h2.keep hb1).keep hb);obtain⟨E,hE⟩:=exE (outsE n o (x0,l1,l2));rw[hE,hn0];unfold outsE at hE;simp only at hE
 clear h0 h1 h2 kT kC;obtain⟨g0,g1,g2,g3⟩:=HK.out W1 (Below.refl _ _);rw[hW1] at g0 g1 g2 g3;by_cases hlen:l1.length < 1\/1024 < l1.length
 ·rw[if_pos hlen] at hE;replace hE:=qH hE;rcases hlen with hl|hl
  ·have d1:decide ((l1.length:Int) < 1)=true:=decide_eq_true (by omega);clear hl;go_enter Tryz.func139, Tryz.ntmps139
   go_wp2;go_ret;exact⟨ret_int hE.out,by rw[<-hW1];exact hb1⟩
  ·have d1:decide ((l1.length:Int) < 1)=false:=decide_eq_false (by omega);have d2:decide ((1024:Int) < (l1.length:Int))=true:=decide_eq_true (by omega);clear hl;go_enter Tryz.func139, Tryz.ntmps139
   go_wp2;go_ret;exact⟨ret_int hE.out,by rw[<-hW1];exact hb1⟩
 ·rw[if_neg hlen] at hE;obtain⟨F1,hF1⟩:=exE (firstE (outE n o l1) l1.length 0);obtain⟨F2,hF2⟩:=exE (firstE (calmE l1 l2) l2.length 0);rw[hF1,hF2] at hE;have s1:Hid (firstE (outE n o l1) (l1.length - 0) 0=F1):=hF1;have s2:Hid (firstE (calmE l1 l2) (l2.length - 0) 0=F2):=hF2;replace hE:=qH hE;have d1:decide ((l1.length:Int) < 1)=false:=decide_eq_false (by omega);have d2:decide ((1024:Int) < (l1.length:Int))=false:=decide_eq_false (by omega);have hl0:0 < l1.length:=by omega
  have hlb:l1.length<=1024:=by omega
  clear hlen hF1 hF2;go_enter Tryz.func139, Tryz.ntmps139
  go_wp2_with fail
  rw[<-hW1];replace hW1:=qH hW1;clear g0 g1 g2 g3 d1 d2;go_loopw [23] (fun iv wr=>∃k:Nat,iv = .int .i64 k/\k<=l1.length/\Hid (firstE (outE n o l1) (l1.length - k) k=F1)/\Below W1.heap.size W1 wr) (fun iv _=>l1.length - (intOf iv).toNat)
  case atStart=>exact⟨0,rfl,by omega,s1,Below.refl _ _⟩
  case round=>
   clear s1;obtain⟨k,rfl,hk,ht,hbr⟩:=hrel;obtain⟨g0,g1,g2,g3⟩:=HK.out wr hbr;by_cases hlt:k < l1.length
   ·have ht1:=ht.out;rw[show l1.length - k=(l1.length - (k+1))+1 by omega] at ht1;obtain⟨b,off,rfl,hc⟩:=(H1.out wr hbr).at hl0;obtain⟨u,cu,hu⟩:=hc k hlt;have HV:=vectorC (n:=n) (most:=o) hu;have HU:=qH (fun W (hb:Below wr.heap.size wr W)=>unordC ((H1.out wr hbr).keep hb) hlt);obtain⟨ua,uc,hus⟩:=hu.shape;subst hus;obtain⟨z,hz⟩:=exE (vecE (l1.getD k []) n o);obtain⟨B,hB⟩:=exE (unordB l1 k);have hfk:=outE_eq (n:=n) (o:=o) (l:=l1) (k:=k);rw[hz,hB] at hfk;rw[hz] at HV;simp only[hB] at HU;obtain⟨m,hm⟩:=exE ((l1.getD k []).length);rw[hm] at cu HV;replace HV:=qH HV;clear hc hu hz hB hm ht;by_cases hz0:z=0
    ·subst hz0;rw[if_neg (fun h=>h rfl)] at hfk;cases B
     ·have hn:=qH (firstE_step ht1 hfk);clear ht1 hfk;go_wp2_with fail
      refine HV.out.mono ?_;rintro e w2 ⟨rfl,hb2⟩;obtain⟨g0,g1,g2,g3⟩:=HK.out w2 (btt hbr hb2);go_wp2_with fail
      refine(HU.out w2 hb2).mono ?_;rintro e w3 ⟨rfl,hb3⟩;have hb03:=btt (btt hbr hb2) hb3;go_wp2_with fail
      go_roundw
      case rel=>exact⟨k+1,by go_num,hlt,hn,hb03⟩
      case measure=>simp[intOf];omega
     ·have hn:=qH (firstE_stop ht1 (by rw[hfk];decide));rw[hfk] at hn
      have hEE:Hid ((14:Int)=E):=by
       have:=hE.out
       rw[<-hn.out] at this;exact this
      clear ht1 hfk hn;go_wp2_with fail
      refine HV.out.mono ?_;rintro e w2 ⟨rfl,hb2⟩;obtain⟨g0,g1,g2,g3⟩:=HK.out w2 (btt hbr hb2);go_wp2_with fail
      refine(HU.out w2 hb2).mono ?_;rintro e w3 ⟨rfl,hb3⟩;have hb03:=btt hb1 (btt (btt hbr hb2) hb3);go_wp2_with fail
      go_ret;exact⟨ret_int hEE.out,hb03⟩
    ·rw[if_pos hz0] at hfk;have hn:=firstE_stop ht1 (by rw[hfk];exact hz0);rw[hfk] at hn
     have hEE:Hid (z=E):=by
      have:=hE.out
      rw[<-hn,if_pos hz0] at this;exact this
     have hz1:(z != 0)=true:=(by simpa using hz0);clear ht1 hfk hn;go_wp2_with fail
     refine HV.out.mono ?_;rintro e w2 ⟨rfl,hb2⟩;have hb02:=btt hb1 (btt hbr hb2);go_wp2_with fail
     go_ret;exact⟨ret_int hEE.out,hb02⟩
   ·have hF:F1=0:=by
     have:=ht.out
     rw[show l1.length - k=0 by omega] at this;exact this.symm
    have hEE:Hid (F2=E):=by
     have:=hE.out
     rw[hF,if_neg (fun h=>h rfl)] at this;exact this
    clear ht hF hE;go_wp2_with fail
    obtain⟨wo,hwo⟩:=exF (wr);rw[<-hwo];rw[<-hwo] at hbr;clear hwo g0 g1 g2 g3;go_loopw [45] (fun iv wr=>∃k:Nat,iv = .int .i64 k/\k<=l2.length/\Hid (firstE (calmE l1 l2) (l2.length - k) k=F2)/\Below W1.heap.size W1 wr) (fun iv _=>l2.length - (intOf iv).toNat)
    case atStart=>exact⟨0,rfl,by omega,s2,hbr⟩
    case round=>
     clear s2 hbr;obtain⟨k,rfl,hk,ht,hbr⟩:=hrel;obtain⟨g0,g1,g2,g3⟩:=HK.out wr hbr;by_cases hlt:k < l2.length
     ·have ht1:=ht.out;rw[show l2.length - k=(l2.length - (k+1))+1 by omega] at ht1;obtain⟨b,off,rfl,hc⟩:=(H2.out wr hbr).at (by omega);obtain⟨u,cu,hu⟩:=hc k hlt;have HV:=hasC (H1.out wr hbr) hu;have HU:=qH (fun W (hb:Below wr.heap.size wr W)=>unordC ((H2.out wr hbr).keep hb) hlt);obtain⟨ua,uc,hus⟩:=hu.shape;subst hus;obtain⟨A,hA⟩:=exE (decide (l2.getD k []∈l1));obtain⟨B,hB⟩:=exE (unordB l2 k);have hfk:=calmE_eq (o:=l1) (l:=l2) (k:=k);rw[hA,hB] at hfk;rw[hA] at HV;simp only[hB] at HU;obtain⟨m,hm⟩:=exE ((l2.getD k []).length);rw[hm] at cu HV;replace HV:=qH HV;clear hc hu hA hB hm ht;cases A
      ·rw[if_pos rfl] at hfk;have hn:=firstE_stop ht1 (by rw[hfk];decide);rw[hfk] at hn
       have hE6:Hid ((6:Int)=E):=by
        have:=hEE.out
        rw[<-hn] at this;exact this
       clear ht1 hfk hn;go_wp2_with fail
       refine HV.out.mono ?_;rintro e w2 ⟨rfl,hb2⟩;have hb02:=btt hb1 (btt hbr hb2);go_wp2_with fail
       go_ret;exact⟨ret_int hE6.out,hb02⟩
      ·cases B
       ·have hn:=qH (firstE_step ht1 hfk);clear ht1 hfk;go_wp2_with fail
        refine HV.out.mono ?_;rintro e w2 ⟨rfl,hb2⟩;obtain⟨g0,g1,g2,g3⟩:=HK.out w2 (btt hbr hb2);go_wp2_with fail
        refine(HU.out w2 hb2).mono ?_;rintro e w3 ⟨rfl,hb3⟩;have hb03:=btt (btt hbr hb2) hb3;go_wp2_with fail
        go_roundw
        case rel=>exact⟨k+1,by go_num,hlt,hn,hb03⟩
        case measure=>simp[intOf];omega
       ·have hn:=firstE_stop ht1 (by rw[hfk];decide);rw[hfk] at hn
        have hE14:Hid ((14:Int)=E):=by
         have:=hEE.out
         rw[<-hn] at this;exact this
        clear ht1 hfk hn;go_wp2_with fail
        refine HV.out.mono ?_;rintro e w2 ⟨rfl,hb2⟩;obtain⟨g0,g1,g2,g3⟩:=HK.out w2 (btt hbr hb2);go_wp2_with fail
        refine(HU.out w2 hb2).mono ?_;rintro e w3 ⟨rfl,hb3⟩;have hb03:=btt hb1 (btt (btt hbr hb2) hb3);go_wp2_with fail
        go_ret;exact⟨ret_int hE14.out,hb03⟩
     ·have hE0:Hid ((0:Int)=E):=by
       have:=ht.out
       rw[show l2.length - k=0 by omega] at this;rw[<-hEE.out,<-this];rfl
      have hb03:=btt hb1 hbr;clear ht;go_wp2_with fail
      go_ret;exact⟨ret_int hE0.out,hb03⟩
def unordC' (cs:List Cs) (k:Nat):Bool:=decide (0 < k/\0<=cmpL (cs.getD (k - 1) csNil).1 (cs.getD k csNil).1)
theorem caseE_eq {n i o:Int}{cs:List Cs}{k:Nat}:caseE n i o cs k=if vecE (cs.getD k csNil).1 n i ≠ 0 then vecE (cs.getD k csNil).1 n i else if unordC' cs k=true then 14 else outsE n o (cs.getD k csNil):=by
 unfold caseE unordC';simp only[decide_eq_true_eq]
theorem CsS.at {w:World}{a:Option Addr}{c:Nat}{l:List Cs}(h:CsS w (.slice a l.length c) l) (h0:0 < l.length):∃b off,a=some ⟨b,off,none⟩/\CsC w b off l:=by
 obtain⟨a',c',b,off,hv,ha,hc,_⟩:=h;injection hv with e1 _ _;exact⟨b,off,e1.trans (ha h0),hc⟩
theorem box4' {W:World}{b:Nat}{v0 v1 v2 v3:Value}{T:TypeId}(h:W.heap[b]? = some (.cells #[v0,v1,v2,v3] T)):W.cell? ⟨b,0,none⟩=some v0/\W.cell? ⟨b,1,none⟩=some v1/\W.cell? ⟨b,2,none⟩=some v2/\W.cell? ⟨b,3,none⟩=some v3:=
 ⟨by rw[cell_of_row _ _ 0 _ _ _ h];rfl,by rw[cell_of_row _ _ 1 _ _ _ h];rfl,by rw[cell_of_row _ _ 2 _ _ _ h];rfl,by rw[cell_of_row _ _ 3 _ _ _ h];rfl⟩
theorem box3' {W:World}{b:Nat}{v0 v1 v2:Value}{T:TypeId}(h:W.heap[b]? = some (.cells #[v0,v1,v2] T)):W.cell? ⟨b,0,none⟩=some v0/\W.cell? ⟨b,1,none⟩=some v1/\W.cell? ⟨b,2,none⟩=some v2:=
 ⟨by rw[cell_of_row _ _ 0 _ _ _ h];rfl,by rw[cell_of_row _ _ 1 _ _ _ h];rfl,by rw[cell_of_row _ _ 2 _ _ _ h];rfl⟩
theorem keep4 {W W1:World}{b:Nat}{v0 v1 v2 v3:Value}(hb:Below W.heap.size W W1) (h:W.cell? ⟨b,0,none⟩=some v0/\W.cell? ⟨b,1,none⟩=some v1/\W.cell? ⟨b,2,none⟩=some v2/\W.cell? ⟨b,3,none⟩=some v3):W1.cell? ⟨b,0,none⟩=some v0/\W1.cell? ⟨b,1,none⟩=some v1/\W1.cell? ⟨b,2,none⟩=some v2/\W1.cell? ⟨b,3,none⟩=some v3:=
 ⟨cell_kept hb h.1,cell_kept hb h.2.1,cell_kept hb h.2.2.1,cell_kept hb h.2.2.2⟩
theorem keep3 {W W1:World}{b:Nat}{v0 v1 v2:Value}(hb:Below W.heap.size W W1) (h:W.cell? ⟨b,0,none⟩=some v0/\W.cell? ⟨b,1,none⟩=some v1/\W.cell? ⟨b,2,none⟩=some v2):W1.cell? ⟨b,0,none⟩=some v0/\W1.cell? ⟨b,1,none⟩=some v1/\W1.cell? ⟨b,2,none⟩=some v2:=
 ⟨cell_kept hb h.1,cell_kept hb h.2.1,cell_kept hb h.2.2⟩
theorem checkT {w:World}{v:Value}{n i o:Int}{cs:List Cs}(h:TaskV w v n i o cs) :
  Calls Tryz.prog 82 #[v] w fun e w'=>e = .returned (.int .i64 (chkT n i o cs))/\Below w.heap.size w w':=by
 have hmx : Tryz.prog.follows .mixedOrders=true:=by kernel_rfl
 obtain⟨sv,rfl,hS⟩:=h;obtain⟨sa,sc,hs⟩:=hS.shape;subst hs;obtain⟨W1,hW1⟩:=exF (w.alloc (.cells #[.int .i64 n,.int .i64 i,.int .i64 o,.slice sa cs.length sc] 24));have hb1:Below w.heap.size w W1:=by rw[hW1];exact(Below.refl _ w).alloc (Nat.le_refl _) _
 have kT:W1.heap[w.heap.size]? = some (.cells #[.int .i64 n,.int .i64 i,.int .i64 o,.slice sa cs.length sc] 24):=by rw[hW1];exact heap_alloc_new _ _
 have HK:=qH (fun W (hb:Below W1.heap.size W1 W)=>keep4 hb (box4' kT));have HS:=qH (fun W (hb:Below W1.heap.size W1 W)=>(hS.keep hb1).keep hb);obtain⟨E,hE⟩:=exE (chkT n i o cs);rw[hE];unfold chkT at hE;have hNl:cs.length<=1954687338268:=by obtain⟨_,_,_,_,_,_,_,h⟩:=hS;exact h
 clear kT hS;obtain⟨g0,g1,g2,g3⟩:=HK.out W1 (Below.refl _ _);rw[hW1] at g0 g1 g2 g3;by_cases qn0:n < 1
 ·have dn0:decide ((n:Int) < 1)=true:=decide_eq_true qn0;rw[if_pos (by omega)] at hE;replace hE:=qH hE;clear qn0;go_enter Tryz.func82, Tryz.ntmps82
  go_wp2;go_ret;exact⟨ret_int hE.out,by rw[<-hW1];exact hb1⟩
 have dn0:decide ((n:Int) < 1)=false:=decide_eq_false qn0;by_cases qn1:5 < n
 ·have dn1:decide ((5:Int) < n)=true:=decide_eq_true qn1;rw[if_pos (by omega)] at hE;replace hE:=qH hE;clear qn1;clear qn0;go_enter Tryz.func82, Tryz.ntmps82
  go_wp2;go_ret;exact⟨ret_int hE.out,by rw[<-hW1];exact hb1⟩
 have dn1:decide ((5:Int) < n)=false:=decide_eq_false qn1;by_cases qi0:i < 1
 ·have di0:decide ((i:Int) < 1)=true:=decide_eq_true qi0;rw[if_pos (by omega)] at hE;replace hE:=qH hE;clear qi0;clear qn0 qn1;go_enter Tryz.func82, Tryz.ntmps82
  go_wp2;go_ret;exact⟨ret_int hE.out,by rw[<-hW1];exact hb1⟩
 have di0:decide ((i:Int) < 1)=false:=decide_eq_false qi0;by_cases qi1:8 < i
 ·have di1:decide ((8:Int) < i)=true:=decide_eq_true qi1;rw[if_pos (by omega)] at hE;replace hE:=qH hE;clear qi1;clear qn0 qn1 qi0;go_enter Tryz.func82, Tryz.ntmps82
  go_wp2;go_ret;exact⟨ret_int hE.out,by rw[<-hW1];exact hb1⟩
 have di1:decide ((8:Int) < i)=false:=decide_eq_false qi1;by_cases qo0:o < 1
 ·have do0:decide ((o:Int) < 1)=true:=decide_eq_true qo0;rw[if_pos (by omega)] at hE;replace hE:=qH hE;clear qo0;clear qn0 qn1 qi0 qi1;go_enter Tryz.func82, Tryz.ntmps82
  go_wp2;go_ret;exact⟨ret_int hE.out,by rw[<-hW1];exact hb1⟩
 have do0:decide ((o:Int) < 1)=false:=decide_eq_false qo0;by_cases qo1:8 < o
 ·have do1:decide ((8:Int) < o)=true:=decide_eq_true qo1;rw[if_pos (by omega)] at hE;replace hE:=qH hE;clear qo1;clear qn0 qn1 qi0 qi1 qo0;go_enter Tryz.func82, Tryz.ntmps82
  go_wp2;go_ret;exact⟨ret_int hE.out,by rw[<-hW1];exact hb1⟩
 have do1:decide ((8:Int) < o)=false:=decide_eq_false qo1;rw[if_neg (by omega)] at hE;clear qn0 qn1 qi0 qi1 qo0 qo1;by_cases qe0:cs.length < 1
 ·have de0:decide ((cs.length:Int) < 1)=true:=decide_eq_true (by omega);rw[if_pos (by omega)] at hE;replace hE:=qH hE;go_enter Tryz.func82, Tryz.ntmps82
  go_wp2;go_ret;exact⟨ret_int hE.out,by rw[<-hW1];exact hb1⟩
 have de0:decide ((cs.length:Int) < 1)=false:=decide_eq_false (by omega);by_cases qe1:1024 < cs.length
 ·have de1:decide ((1024:Int) < (cs.length:Int))=true:=decide_eq_true (by omega);rw[if_pos (by omega)] at hE;replace hE:=qH hE;go_enter Tryz.func82, Tryz.ntmps82
  go_wp2;go_ret;exact⟨ret_int hE.out,by rw[<-hW1];exact hb1⟩
 have de1:decide ((1024:Int) < (cs.length:Int))=false:=decide_eq_false (by omega);rw[if_neg (by omega)] at hE;have hl0:0 < cs.length:=by omega
 have hlb:cs.length<=1024:=by omega
 have s1:Hid (firstE (caseE n i o cs) (cs.length - 0) 0=E):=hE;clear hE qe0 qe1;go_enter Tryz.func82, Tryz.ntmps82
 go_wp2_with fail
 rw[<-hW1];replace hW1:=qH hW1;clear g0 g1 g2 g3 dn0 dn1 di0 di1 do0 do1 de0 de1;go_loopw [46] (fun iv wr=>∃k:Nat,iv = .int .i64 k/\k<=cs.length/\Hid (firstE (caseE n i o cs) (cs.length - k) k=E)/\Below W1.heap.size W1 wr) (fun iv _=>cs.length - (intOf iv).toNat)
 case atStart=>exact⟨0,rfl,by omega,s1,Below.refl _ _⟩
 case round=>
  clear s1;obtain⟨k,rfl,hk,ht,hbr⟩:=hrel;obtain⟨g0,g1,g2,g3⟩:=HK.out wr hbr;by_cases hlt:k < cs.length
  ·have ht1:=ht.out;rw[show cs.length - k=(cs.length - (k+1))+1 by omega] at ht1;obtain⟨b,off,rfl,hc⟩:=(HS.out wr hbr).at hl0;obtain⟨u0,u1,u2,c0,c1,c2,i0,i1,i2⟩:=hc k hlt;obtain⟨x0,y0,hs⟩:=i0.shape;subst hs;obtain⟨x1,y1,hs⟩:=i1.shape;subst hs;obtain⟨x2,y2,hs⟩:=i2.shape;subst hs;obtain⟨c,hcc⟩:=exE (cs.getD k csNil);have hfk:=caseE_eq (n:=n) (i:=i) (o:=o) (cs:=cs) (k:=k);rw[hcc] at hfk;rw[hcc] at c0 c1 c2 i0 i1 i2;obtain⟨W2,hW2⟩:=exF (wr.alloc (.cells #[.slice x0 c.1.length y0,.slice x1 c.2.1.length y1,.slice x2 c.2.2.length y2] 95));have hb2:Below wr.heap.size wr W2:=(by rw[hW2];exact(Below.refl _ _).alloc (Nat.le_refl _) _);have kC:W2.heap[wr.heap.size]? = some (.cells #[.slice x0 c.1.length y0,.slice x1 c.2.1.length y1,.slice x2 c.2.2.length y2] 95):=(by rw[hW2];exact heap_alloc_new _ _);have HC:=qH (fun W (hb:Below W2.heap.size W2 W)=>keep3 hb (box3' kC));have D2:=btt hbr hb2;have HV:=vectorC (n:=n) (most:=i) (i0.keep hb2);have HVs:=qH (fun W (hb:Below W2.heap.size W2 W)=>vectorsC (n:=n) (i:=i) (o:=o) (ta:=some ⟨b,off,none⟩) (tn:=cs.length) (tc:=sc) (c:=c) ((i0.keep hb2).keep hb) ((i1.keep hb2).keep hb) ((i2.keep hb2).keep hb))
   have HP:=qH (fun(h0:0 < k)=>by
    obtain⟨p0,_,_,q0,_,_,j0,_⟩:=hc (k - 1) (by omega);exact(⟨p0,q0,j0⟩:∃p0,wr.cell? ⟨b,off+(k - 1) * 3,none⟩=some p0/\Ints wr p0 (cs.getD (k - 1) csNil).1))
   have I0:=qH (fun W (hb:Below W2.heap.size W2 W)=>(i0.keep hb2).keep hb);obtain⟨z,hz⟩:=exE (vecE c.1 n i);obtain⟨B,hB⟩:=exE (unordC' cs k);obtain⟨y,hy⟩:=exE (outsE n o c);rw[hz,hB,hy] at hfk;rw[hz] at HV;simp only[hy] at HVs;replace HV:=qH HV;obtain⟨g0',g1',g2',g3'⟩:=HK.out W2 D2;obtain⟨r0,r1,r2⟩:=HC.out W2 (Below.refl _ _);rw[hW2] at g0' g1' g2' g3' r0 r1 r2;clear kC i0 i1 i2 hz hy ht hc;by_cases hz0:z=0
   ·subst hz0;rw[if_neg (fun h=>h rfl)] at hfk;go_wp2_with fail
    rw[<-hW2];replace hW2:=qH hW2;refine HV.out.mono ?_;rintro e w3 ⟨rfl,hb3⟩;have D3:=btt D2 hb3;clear g0 g1 g2 g3 g0' g1' g2' g3' r0 r1 r2 c0 c1 c2;have HKr:=qH (fun W (hb:Below w3.heap.size w3 W)=>And.intro (HK.out W (btt D3 hb)).2.2.2 (HC.out W (btt hb3 hb)).1);have hreg:k=0\/0 < k:=by omega
    have fin:B=true->Hid ((14:Int)=E):=fun hBt=>by
     have:=firstE_stop ht1 (by rw[hfk,if_pos hBt];decide)
     rw[hfk,if_pos hBt] at this;exact this
    have nxt:B=false->y=0->Hid (firstE (caseE n i o cs) (cs.length - (k+1)) (k+1)=E):=fun hBf hy0=>by
     refine firstE_step ht1 ?_;rw[hfk,if_neg (by rw[hBf];decide),hy0]
    have stp:B=false->y ≠ 0->Hid (y=E):=fun hBf hy0=>by
     have e1:caseE n i o cs k=y:=(by rw[hfk,if_neg (by rw[hBf];decide)]);have:=firstE_stop ht1 (by rw[e1];exact hy0)
     rw[e1] at this;exact this
    replace fin:=qH fin;replace nxt:=qH nxt;replace stp:=qH stp;clear ht1 hfk;go_wp2_with fail
    rcases hreg with h0|h0
    ·subst h0;have hBf:B=false:=(by rw[<-hB];exact decide_eq_false (fun h=>by omega));replace fin:=trivial;replace nxt:=qH (nxt.out hBf);replace stp:=qH (stp.out hBf);clear hB hBf HP;refine wp_region_bw hmx (by kernel_rfl) ?_
     repeat (refine WQ.step fun K hK=>?_;go_simp;first|(refine hK _ ?_;clear hK K)|(apply Exists.intro;refine⟨fun wq hC=>?_,hK _ ?_⟩;(·(first|with_reducible rfl|(go_simp;first|done|with_reducible rfl|with_reducible exact⟨rfl,rfl⟩)));clear hK K))
     refine WQ.nil ?_;intro w4 hb4;obtain⟨g0,g1,g2,g3⟩:=HK.out w4 (btt D3 hb4);obtain⟨r0,r1,r2⟩:=HC.out w4 (btt hb3 hb4);go_wp2_with fail
     refine(HVs.out w4 (btt hb3 hb4)).mono ?_;rintro e w5 ⟨rfl,hb5⟩;have hbf:=btt (btt D3 hb4) hb5;by_cases hy0:y=0
     ·have hn:=nxt.out hy0;subst hy0;clear stp nxt;go_wp2_with fail
      go_roundw
      case rel=>exact⟨_,by go_num,hlt,hn,hbf⟩
      case measure=>simp[intOf];omega
     ·have hn:=stp.out hy0;have hy1:(y != 0)=true:=(by simpa using hy0);have hbff:=btt hb1 hbf;clear stp nxt;go_wp2_with fail
      go_ret;exact⟨ret_int hn.out,hbff⟩
    ·obtain⟨p0,q0,j0⟩:=HP.out h0;obtain⟨pa,pc,hs⟩:=j0.shape;subst hs;obtain⟨P,hP⟩:=exE ((cs.getD (k - 1) csNil).1);have hBz:B=decide (0<=cmpL P c.1):=(by rw[<-hB,<-hP,<-hcc];unfold unordC';simp[h0]);rw[hP] at q0 j0;obtain⟨t,ht⟩:=exE (cmpL P c.1);have HCm:=qH (fun W (hb:Below w3.heap.size w3 W)=>cmpIntsC (j0.keep (btt (btt hb2 hb3) hb)) (I0.out W (btt hb3 hb)));simp only[ht] at HCm;rw[ht] at hBz;obtain⟨m1,hm1⟩:=exE (P.length);obtain⟨m2,hm2⟩:=exE (c.1.length);obtain⟨k1,hk1⟩:=exE (k - 1);rw[hm1,hk1] at q0;simp only[hm1,hm2] at HCm;have HKr2:=qH (fun W (hb:Below w3.heap.size w3 W)=>And.intro (HKr.out W hb) (cell_kept (btt (btt hb2 hb3) hb) q0));simp only[hm2] at HKr2;have d1:decide ((0:Int) < (k:Int))=true:=decide_eq_true (by omega);have hwr:IntKind.i64.wrap ((k:Int) - 1)=(k1:Int):=(by rw[show(k:Int) - 1=(k1:Int) by omega];exact IntWalk.i64_in _ (by omega));have hi1:(k1:Int) < (cs.length:Int):=(by omega);have hi2:(k:Int) < (cs.length:Int):=(by omega);replace hB:=qH hB;replace hP:=qH hP;replace ht:=qH ht;replace hm1:=qH hm1;replace hm2:=qH hm2;replace hk1:=qH hk1;clear q0 j0;refine wp_region_bw hmx (by kernel_rfl) ?_
     repeat (refine WQ.step fun K hK=>?_;go_simp;first|(refine hK _ ?_;clear hK K)|(apply Exists.intro;refine⟨fun wq hC=>?_,hK _ ?_⟩;(·(first|with_reducible rfl|(obtain⟨⟨f0,f1⟩,f2⟩:=HKr2.out wq hC;go_simp;first|done|with_reducible rfl|with_reducible exact⟨rfl,rfl⟩)));clear hK K))
     (refine WQ.step fun K hK=>?_;go_simp;first|(refine hK _ ?_;clear hK K)|(apply Exists.intro;refine⟨fun wq hC=>?_,hK _ ?_⟩;(·(refine(HCm.out wq hC).mono ?_;rintro e w' ⟨rfl,rfl⟩;exact⟨rfl,hC⟩));clear hK K))
     repeat (refine WQ.step fun K hK=>?_;go_simp;first|(refine hK _ ?_;clear hK K)|(apply Exists.intro;refine⟨fun wq hC=>?_,hK _ ?_⟩;(·(first|with_reducible rfl|(go_simp;first|done|with_reducible rfl|with_reducible exact⟨rfl,rfl⟩)));clear hK K))
     refine WQ.nil ?_;intro w4 hb4;rw[<-hBz];clear hBz;cases B
     ·replace fin:=trivial;replace nxt:=qH (nxt.out rfl);replace stp:=qH (stp.out rfl);obtain⟨g0,g1,g2,g3⟩:=HK.out w4 (btt D3 hb4);obtain⟨r0,r1,r2⟩:=HC.out w4 (btt hb3 hb4);go_wp2_with fail
      refine(HVs.out w4 (btt hb3 hb4)).mono ?_;rintro e w5 ⟨rfl,hb5⟩;have hbf:=btt (btt D3 hb4) hb5;by_cases hy0:y=0
      ·have hn:=nxt.out hy0;subst hy0;clear stp nxt;go_wp2_with fail
       go_roundw
       case rel=>exact⟨_,by go_num,hlt,hn,hbf⟩
       case measure=>simp[intOf];omega
      ·have hn:=stp.out hy0;have hy1:(y != 0)=true:=(by simpa using hy0);have hbff:=btt hb1 hbf;clear stp nxt;go_wp2_with fail
       go_ret;exact⟨ret_int hn.out,hbff⟩
     ·have hEf:=fin.out rfl;have hbf:=btt hb1 (btt D3 hb4);go_wp2_with fail
      go_ret;exact⟨ret_int hEf.out,hbf⟩
   ·rw[if_pos hz0] at hfk;have hn:=firstE_stop ht1 (by rw[hfk];exact hz0);rw[hfk] at hn;replace hn:=qH hn;have hz1:(z != 0)=true:=(by simpa using hz0);clear ht1 hfk HP;go_wp2_with fail
    rw[<-hW2];replace hW2:=qH hW2;refine HV.out.mono ?_;rintro e w3 ⟨rfl,hb3⟩;have hbf:=btt hb1 (btt D2 hb3);go_wp2_with fail
    go_ret;exact⟨ret_int hn.out,hbf⟩
  ·have hE0:Hid ((0:Int)=E):=by
    have:=ht.out
    rw[show cs.length - k=0 by omega] at this;exact this
   have hb03:=btt hb1 hbr;clear ht;go_wp2_with fail
   go_ret;exact⟨ret_int hE0.out,hb03⟩
end Go.Proofs.YtcnedkkcgdkioaaGreat
