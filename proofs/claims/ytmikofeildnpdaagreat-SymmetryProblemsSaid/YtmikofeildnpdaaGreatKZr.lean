/- Texts of this claim, put together: Pd Sa Sb Gb Gc Gd La Pf Pm. -/
import Derived.Test.YtmikofeildnpdaaGreatKZn
import Derived.Test.YtmikofeildnpdaaGreatKZm

set_option maxRecDepth 100000
set_option maxHeartbeats 12800000
namespace Go.Proofs.YtmikofeildnpdaaGreat
theorem every_sorted:∀n,n≤5→(everyL n).Pairwise (fun a b=>cmpL a b < 0):=by
 intro n hn;have:n=0∨n=1∨n=2∨n=3∨n=4∨n=5:=by omega
 rcases this with rfl|rfl|rfl|rfl|rfl|rfl<;>decide +kernel
theorem group_sorted {n:Nat}(hn:n≤5) {G l:List (List Int)}(hG:∀y∈G,IsP n y) (hl:l.Pairwise (fun a b=>¬cmpL b a < 0)) (hnd:l.Nodup) (hm:∀x,x∈l↔x∈G) :
  l=(everyL n).filter (fun x=>decide (x∈G)):=by
 refine sorted_unique (lt:=fun a b=>cmpL a b < 0) cmpL_asymm ?_ ((every_sorted n hn).filter _) fun x=>?_
 ·refine(hl.and hnd).imp fun {a b} h=>?_;rcases cmpL_total a b with h1|h1|h1
  ·exact h1
  ·exact absurd h1 h.2
  ·exact absurd h1 h.1
 ·rw[hm,List.mem_filter];constructor
  ·intro h;exact⟨mem_everyL.2 (hG x h),by simpa using h⟩
  ·intro h;simpa using h.2
open Go.Shelf Go.RowKit Go.Lib Go.Sort
def Elt (w:World) (blk:Nat):Type:={ p:Value × List Int // OI w 0 p.1 p.2.length p.2∧p.2.length≤17592186044416∧∀g,p.1.ownBlock=some g→g ≠ blk }
def Elt.enc {w:World}{blk:Nat}(x:Elt w blk):Value:=x.1.1
def Elt.cf {w:World}{blk:Nat}(x y:Elt w blk):Int:=cmpL x.1.2 y.1.2
theorem Elt.one {w:World}{blk:Nat}:OneCell (Elt.enc (w:=w) (blk:=blk)):=fun x=>oneCell_slice x.2.1
theorem Elt.swo {w:World}{blk:Nat}:SWO (ltOf (Elt.cf (w:=w) (blk:=blk))) where
 irrefl _x:=decide_eq_false fun h=>cmpL_asymm _ _ h h
 trans _x _y _z h1 h2:=decide_eq_true (cmpL_trans _ _ _ (of_decide_eq_true h1) (of_decide_eq_true h2))
 ntrans _x _y _z h1 h2:=decide_eq_false (cmpL_ntrans _ _ _ (of_decide_eq_false h1) (of_decide_eq_false h2))
theorem heap_sortWorld_other02 {α:Type} [Inhabited α] {enc:α→Value}{w:World}{blk k:Nat}(off n:Nat) (d:Array α) (os:Array Obj) (hne:k ≠ blk) (hk:k < w.heap.size):(sortWorld enc w blk off n d os).heap[k]? = w.heap[k]?:=by
 simp only[sortWorld,grow,putRow,mapBlock,Sort.ahead];rw[Array.getElem?_append_left (by simpa using hk),Array.getElem?_modify,if_neg (fun h=>hne h.symm)]
theorem heap_sortWorld_same02 {α:Type} [Inhabited α] {enc:α→Value}{w:World}{blk:Nat}(off n:Nat) (d:Array α) (os:Array Obj) {cs:Array Value}{t:TypeId}{fz:Nat × Nat}(h:w.heap[blk]? = some (.cells cs t fz)):(sortWorld enc w blk off n d os).heap[blk]? = some (.cells (putCells enc off d cs) t fz):=by
 simp only[sortWorld,grow,putRow,mapBlock,Sort.ahead];rw[Array.getElem?_append_left (by simpa using (Array.getElem?_eq_some_iff.1 h).1),Array.getElem?_modify,if_pos rfl,h];rfl
theorem Elt.reads {w:World}{blk off size:Nat} [Inhabited (Elt w blk)]:CmpReads Tryz.prog 70 #[] (Elt.enc (w:=w) (blk:=blk)) Elt.cf blk off size w:=by
 intro m os dk hs x y
 have key:∀z:Elt w blk,Ints (sortWorld Elt.enc w blk off m dk os) z.1.1 z.1.2:=by
  rintro⟨⟨v,l⟩,hO,hl,hz⟩;simp only at hO hl hz
  have hI:=hO.ints hl;rcases hO.2 with⟨rfl,h0⟩|⟨g,cap,cur,rfl,_,h3,_⟩
  ·have:l = []:=List.length_eq_zero_iff.1 h0
   subst this;exact Ints.nil _ _ _
  ·obtain⟨a,c,b,o,he,ha,hc,hl⟩:=hI;refine⟨a,c,b,o,he,ha,fun j hj=>?_,hl⟩;obtain rfl:=ha (by simp only at hj;omega);injection he with he;injection he with he;injection he with he1 he2;subst he1;rw[World.cell?_of_block (w:=w) (heap_sortWorld_other02 _ _ _ _ (hz g rfl) ((Array.getElem?_eq_some_iff.1 h3).1))];exact hc j hj
 exact(slCompare (key x) (key y)).mono fun _ _ ⟨he,q,hq⟩=>⟨he,q,hq⟩
theorem sortRows {w:World}(blk off cap:Nat) [Inhabited (Elt w blk)] (d:Array (Elt w blk)) (hH:Holds Elt.enc w blk off d) (hblk:blk < w.heap.size) (hsz:d.size < 4611686018427387904) :
  Calls Tryz.prog 69 #[.slice (some ⟨blk,off,none⟩) d.size cap,.func (.func 70) #[] #[]] w fun e w'=>e = .returned (.tuple #[])∧∃d' n os,PermIn 0 d.size d d'∧SortedIn (ltOf Elt.cf) 0 d.size d'∧w'=sortWorld Elt.enc w blk off n d' os:=
 Any.slices_SortFunc Tryz.sortII Elt.enc Elt.one Elt.cf Elt.swo 70 #[] blk off cap d w (enters_of Tryz.func70 (by kernel_rfl) rfl) Elt.reads.lays hH hblk hsz
theorem below_sortWorld02 {α:Type} [Inhabited α] {enc:α→Value}{w:World}{blk:Nat}(n:Nat) (d:Array α) (os:Array Obj) {B:Nat}(hB:B≤blk) (hb:blk < w.heap.size):Below B w (sortWorld enc w blk 0 n d os):=by
 refine⟨rfl,rfl,rfl,?_,fun k hk=>heap_sortWorld_other02 _ _ _ _ (by omega) (by omega)⟩;simp[sortWorld,grow,putRow,mapBlock,Sort.ahead]
open Go.Shelf Go.RowKit Go.Lib Go.Sort
def SortOut02 (w:World) (B:Nat) (v:Value) (n:Nat) (xss:List (List Int)) (e:Ending) (w':World):Prop:=
 e = .returned (.tuple #[])∧∃yss,yss.Perm xss∧yss.Pairwise (fun a b=>¬cmpL b a < 0)∧OII w' B v n yss∧Go.RowKit.Below B w w'
theorem OI.heap {w w':World}{B:Nat}{v:Value}{n:Nat}{xs:List Int}(h:OI w B v n xs) (hb:∀g,v.ownBlock=some g→g < w.heap.size→w'.heap[g]? = w.heap[g]?):OI w' B v n xs:=by
 refine⟨h.1,?_⟩;rcases h.2 with h'|⟨g,cap,cur,h1,h2,h3,h4⟩
 ·exact .inl h'
 ·exact .inr ⟨g,cap,cur,h1,h2,(hb g (by rw[h1];rfl) (Array.getElem?_eq_some_iff.1 h3).1).trans h3,h4⟩
theorem putCells_take02 {α:Type} [Inhabited α] (enc:α→Value) (d:Array α) (cs:Array Value) (hd:d.size≤cs.size):(putCells enc 0 d cs).toList.take d.size=d.toList.map enc:=by
 apply List.ext_getElem?
 intro k;rw[List.getElem?_take];by_cases hk:k < d.size
 ·rw[if_pos hk,Array.getElem?_toList];simp only[putCells,Array.getElem?_mapIdx];rw[Array.getElem?_eq_getElem (by omega:k < cs.size)];simp[hk]
 ·rw[if_neg hk,List.getElem?_eq_none (by simp;omega)]
theorem sortOut {w:World}{B n:Nat}{v:Value}{xss:List (List Int)}(h:OII w B v n xss) (hn:0 < n) (hn2:n≤1000000) (hl:∀x∈xss,x.length≤17592186044416) :
  Calls Tryz.prog 69 #[v,.func (.func 70) #[] #[]] w (SortOut02 w B v n xss):=by
 obtain⟨vs,h1,h2,h4,h3⟩:=h;have hvl:vs.length=n:=by have:=h1.1;omega
 rcases h1.2 with⟨rfl,h0⟩|⟨g,cap,cur,rfl,hB,hg,hc1,hc2,hc3,hc4⟩
 ·omega
 let mk:Fin n→Elt w g:=fun j=>⟨(vs.getD j undef,xss.getD j []),h3 j j.2,(show(xss.getD j []).length≤_ by rw[getD_eq (by omega)];exact hl _ (List.getElem_mem _)),fun b hb he=>by
  subst he;rcases(h3 j j.2).2 with⟨k1,_⟩|⟨g',cap',cur',k1,_,k3,_⟩
  ·simp only at hb;rw[k1] at hb;cases hb
  ·simp only at hb;rw[k1] at hb
   simp only[Value.ownBlock,Option.some.injEq] at hb;subst hb;rw[hg] at k3;simp at k3⟩
 haveI:Inhabited (Elt w g):=⟨mk ⟨0,hn⟩⟩
 obtain⟨d,hd⟩:=exF (Array.ofFn mk);have hds:d.size=n:=by rw[hd];simp
 have hdj:∀j (hj:j < n),d[j]! = mk ⟨j,hj⟩:=fun j hj=>by rw[getElem!_pos d j (by omega)];simp[hd]
 have hH:Holds Elt.enc w g 0 d:=by
  intro j hj;rw[hds] at hj;rw[hdj j hj];constructor
  ·rw[Nat.zero_add,cell_of_row w g j cur 25 (0,0) hg];have:(cur.toList.take (n * 1))[j]? = some (vs.getD j undef):=by rw[hc4];simp[show j < vs.length by omega]
   rw[List.getElem?_take,if_pos (by omega)] at this;show cur[j]? = some (vs.getD j undef);simpa using this
  ·rw[Nat.zero_add];exact World.ownsRow.frozenAt h1 j
 have hgl:=(Array.getElem?_eq_some_iff.1 hg).1;have hS:=sortRows g 0 cap d hH hgl (by omega);rw[hds] at hS;refine hS.mono ?_;rintro e w' ⟨rfl,d',m,os,hp,hs,rfl⟩;obtain⟨hp1,_,hp2⟩:=hp;rw[hds] at hp1;have e1:d'.extract 0 n=d':=by rw[←hp1];simp
 have e2:d.extract 0 n=d:=by rw[←hds];simp
 rw[e1,e2] at hp2
 have ex:d.toList.map (fun x:Elt w g=>x.1.2)=xss:=by
  apply List.ext_getElem
  ·simp[hds,h2]
  ·intro j hj1 hj2;simp only[List.getElem_map,Array.getElem_toList];have:=hdj j (by omega)
   rw[getElem!_pos d j (by omega)] at this;rw[this];exact getD_eq hj2 []
 refine⟨rfl,d'.toList.map (fun x:Elt w g=>x.1.2),?_,?_,?_,below_sortWorld02 m d' os hB hgl⟩
 ·rw[←ex];exact hp2.map _
 ·rw[List.pairwise_map,List.pairwise_iff_getElem];intro i j hi hj hij;simp only[Array.length_toList] at hi hj;have:=hs i j (Nat.zero_le _) hij (by omega)
  rw[getElem!_pos d' i hi,getElem!_pos d' j hj] at this;exact of_decide_eq_false this
 ·refine⟨d'.toList.map (fun x:Elt w g=>x.1.1),⟨by simp[hp1],.inr ⟨g,cap,putCells Elt.enc 0 d' cur,rfl,hB,heap_sortWorld_same02 0 m d' os hg,hc1,hc2,by simpa [putCells] using hc3,?_⟩⟩,by simp[hp1],?_,fun j hj=>?_⟩
  ·rw[Nat.mul_one];have:=putCells_take02 Elt.enc d' cur (by omega)
   rwa [hp1] at this
  ·intro x hx;obtain⟨y,_,rfl⟩:=List.mem_map.1 hx;exact oneCell_slice y.2.1
  ·have hj':j < d'.size:=(by omega);rw[getD_eq (by simpa using hj'),getD_eq (by simpa using hj')];simp only[List.getElem_map,Array.getElem_toList];exact d'[j].2.1.heap fun b hb hlt=>heap_sortWorld_other02 _ _ _ _ (d'[j].2.2.2 b hb) hlt
open Go.RowKit Go.ChangeMaps Go.MapKept Go.WideMaps
theorem OII.shape {w:World}{B:Nat}{v:Value}{n:Nat}{xss:List (List Int)}(h:OII w B v n xss):∃a c,v = .slice a n c:=by
 obtain⟨a,c,b,hv,_⟩:=h.open';exact⟨a,c,hv⟩
theorem generateBad {w:World}{v:Value}{l:List (List Int)}(n:Int) (h:Intss w v l) (hz:chkList n l ≠ 0):Calls Tryz.prog 25 #[.int .i64 n,v] w (RII w (genR n l) (chkList n l)):=by
 have hL:=qH (show genR n l = [] by rw[genR,if_neg hz]);have HN:=qH (number n w);obtain⟨a,c,b,off,rfl,ha,hc,hl⟩:=h;by_cases h1:n < 1∨5 < n
 ·have hE:=qH (show chkList n l=2 by rw[chkList,if_pos h1]);rw[show numE n=2 by rw[numE,if_pos h1]] at HN;clear h1 ha hc hz;go_enter Tryz.func25,Tryz.ntmps25
  go_wp2_with (go_at_call 64;refine HN.out.mono ?_;rintro e w1 ⟨rfl,rfl⟩)
  go_ret2
  exact RII.none hL.out hE.out.symm (Below.refl _ _)
 ·rw[show numE n=0 by rw[numE,if_neg h1]] at HN;by_cases hm:1024 < l.length
  ·have hE:=qH (show chkList n l=5 by rw[chkList,if_neg h1,if_pos hm]);clear h1 ha hc hz;go_enter Tryz.func25,Tryz.ntmps25
   go_wp2_with (go_at_call 64;refine HN.out.mono ?_;rintro e w1 ⟨rfl,rfl⟩)
   go_ret2
   exact RII.none hL.out hE.out.symm (Below.refl _ _)
  ·have e0:=qH (show chkList n l=chkAll n l by rw[chkList,if_neg h1,if_neg hm]);replace hz:=qH hz;clear h1;go_enter Tryz.func25,Tryz.ntmps25
   go_wp2_with (go_at_call 64;refine HN.out.mono ?_;rintro e w1 ⟨rfl,rfl⟩)
   go_loopw [26] (fun i wr=>∃k:Nat,k≤l.length∧i = .int .i64 k∧Hid (chkAll n (l.drop k)=chkAll n l)∧Below w.heap.size w wr) (fun i _=>l.length - (intOf i).toNat)
   case atStart=>exact⟨0,by omega,rfl,by simp[Hid],Below.refl _ _⟩
   case round=>
    obtain⟨k,hk,rfl,hg,hb⟩:=hrel;by_cases hlt:k < l.length
    ·obtain rfl:=ha (by omega);obtain⟨u1,hck,hi⟩:=hc.keep hb k hlt;clear ha hc;obtain⟨x,hx⟩:=exE (l.getD k []);rw[hx] at hi;replace hx:=qH hx;have H:=qH (check hi);obtain⟨a1,c1,b1,o1,rfl,_⟩:=hi;obtain⟨m,hm'⟩:∃m,x.length=m:=⟨_,rfl⟩;rw[hm'] at hck H;replace hm':=qH hm';obtain⟨E,hE⟩:=exE (chk x);rw[hE] at H;replace hE:=qH hE;by_cases hzE:E=0
     ·subst hzE;by_cases hmn:(m:Int)=n
      ·have hmn':((m:Int) != n)=false:=(by simp[hmn]);replace hmn:=qH hmn;go_wp2_with (go_at_call 65;refine H.out.mono ?_;rintro e w' ⟨rfl,hb2⟩)
       go_roundw
       case rel=>exact⟨k+1,by omega,by go_num,by show _=_;rw[←hg.out,chkAll_1 hlt hx.out hm'.out hE.out hmn.out],bt hb hb2 hb.size⟩
       case measure=>simp[intOf];omega
      ·have hmn':((m:Int) != n)=true:=(by simp[hmn]);go_wp2_with (go_at_call 65;refine H.out.mono ?_;rintro e w' ⟨rfl,hb2⟩)
       go_ret2
       exact RII.none hL.out (by rw[e0.out,←hg.out,chkAll_2 hlt hx.out hm'.out hE.out hmn]) (bt hb hb2 hb.size)
     ·have hz':(E != 0)=true:=(by simpa using hzE);replace hzE:=qH hzE;go_wp2_with (go_at_call 65;refine H.out.mono ?_;rintro e w' ⟨rfl,hb2⟩)
      go_ret2
      exact RII.none hL.out (by rw[e0.out,←hg.out,chkAll_3 hlt hx.out (by rw[hE.out];exact hzE.out),hE.out]) (bt hb hb2 hb.size)
    ·exact absurd (by rw[e0.out,←hg.out,chkAll_end (n:=n) hlt]) hz.out
open Go.RowKit Go.ChangeMaps Go.MapKept Go.WideMaps
theorem keyI {n:Nat}(hn:n≤5) {g:List (List Int)}(hg:InvG n g) {x:List Int}(hx:IsP n x):∀y∈g,keyA y=keyA x→y=x:=
 fun y hy e=>keyA_inj (hg.2 y hy).1 hx.1 hn e
theorem generateOk {w:World}{v:Value}{l:List (List Int)}(n:Nat) (hn1:1≤n) (hn:n≤5) (h:Intss w v l) (hl4:l.length≤1024) (hl:∀a∈l,IsP n a) {G:List (List Int)}(hG:clGo l 3126 0 [oneL n]=some G) (hGi:InvG n G) :
  Calls Tryz.prog 25 #[.int .i64 n,v] w fun e w'=>∃r,e = .returned (.tuple #[r,.int .i64 0])∧∃yss,yss.Perm G∧yss.Pairwise (fun a b=>¬cmpL b a < 0)∧OII w' w.heap.size r G.length yss∧Below w.heap.size w w':=by
 have HN:=qH (number n w);rw[show numE n=0 by rw[numE,if_neg (by omega)]] at HN;obtain⟨la,lc,lb,lo,rfl,ha,hc,hll⟩:=h;replace hG:=qH hG;have hmm:=@run_makeMap Tryz.prog;go_enter Tryz.func25,Tryz.ntmps25
 go_wp2_with (go_at_call 64;refine HN.out.mono ?_;rintro e w1 ⟨rfl,rfl⟩)
 go_loopw [26] (fun i wr=>∃k:Nat,k≤l.length∧i = .int .i64 k∧Below w.heap.size w wr) (fun i _=>l.length - (intOf i).toNat)
 case atStart=>exact⟨0,by omega,rfl,Below.refl _ _⟩
 case round=>
  obtain⟨k,hk,rfl,hb⟩:=hrel;by_cases hlt:k < l.length
  ·obtain rfl:=ha (by omega);obtain⟨u1,hck,hi⟩:=hc.keep hb k hlt;have hxP:IsP n (l.getD k []):=(by rw[getD_eq hlt];exact hl _ (List.getElem_mem hlt));clear ha hc;obtain⟨x,hx⟩:=exE (l.getD k []);rw[hx] at hi hxP;have hE:chk x=0:=chk_iff.2 ⟨by have:=hxP.1;omega,by rw[hxP.1];exact hxP⟩;have H:=check hi;rw[hE] at H;replace H:=qH H;obtain⟨a1,c1,b1,o1,rfl,_⟩:=hi;obtain rfl:x.length=n:=hxP.1;clear hx hE;go_wp2_with (go_at_call 65;refine H.out.mono ?_;rintro e w' ⟨rfl,hb2⟩)
   go_roundw
   case rel=>exact⟨k+1,by omega,by go_num,bt hb hb2 hb.size⟩
   case measure=>simp[intOf];omega
  ·clear hk;have HI:=fun W=>identityCall n W (by omega);replace HI:=qH HI;go_wp2_with (go_at_call 66;refine(HI.out _).mono ?_;rintro e w1 ⟨r,rfl,ho,hb1⟩;have hO:=OII.one (by rw[oneL_length];exact ho);have hbO:=hb1.alloc hb1.size (.cells #[r] 25);obtain⟨a1,c1,rfl⟩:=ho.shape)
   clear HI HN;have hMG:=MG.made (w1.alloc (.cells #[.slice a1 n c1] 25));have hbM:=hbO.alloc hbO.size (.map #[] 0);replace hO:=hO.keep ((Below.refl _ _).alloc (Nat.le_refl _) (.map #[] 0));have ho1:=(ho.keep ((Below.refl _ _).alloc (Nat.le_refl _) (.cells #[.slice a1 n c1] 25))).keep ((Below.refl _ _).alloc (Nat.le_refl _) (.map #[] 0));have hg1:w.heap.size≤w1.heap.size:=Nat.le_trans hb.size hb1.size;have hg0:w.heap.size≤(w1.alloc (.cells #[.slice a1 n c1] 25)).heap.size:=(by simp;omega);have hP1:=IsP.one n;refine(keyCall (ho1.ints (by omega)) (by rw[hP1.1];omega) (by rw[hP1.1];omega)).mono ?_;rintro e w2 ⟨rfl,hb2⟩;replace hMG:=hMG.keep hb2;replace hO:=hO.keep hb2;have hw2:=bt (hb.trans (hbM.mono hb.size)) hb2 (by simp;omega);obtain⟨o,hput,hMG2⟩:=MG.put hMG (by simp) (hP1.small hn) (by simp) (by simp);replace hO:=(hO.map hMG o).base hg1;have hbW:=below_set hw2 hg0 o;clear hMG hw2 hb2 hb1 hb hbO hbM ho ho1;simp only[World.size_alloc] at hput hMG2 hO hbW hg0;generalize hkA:keyA (oneL n)=kk at *
   obtain⟨W3,hW3⟩:=exE (setBlock w2 (w1.heap.size+1) o);rw[hW3] at hput hMG2 hO hbW;clear hW3;go_wp2;clear hput hkA hmm;obtain⟨mb,hmb⟩:=exE (w1.heap.size+1);obtain⟨gb,hgb⟩:=exE (w1.heap.size);rw[hmb] at hMG2 hg0;rw[hmb];rw[hgb] at hO;rw[hgb];rw[List.nil_append] at hMG2;clear hmb hgb hg1;go_loopg [10,12] 3126 (fun f gv iv wr=>∃(i:Nat) (g:List (List Int)),iv = .int .i64 i∧i≤g.length∧0 < g.length∧OII wr w.heap.size gv g.length g∧InvG n g∧MG wr mb g∧Hid (clGo l f i g=some G)∧Below w.heap.size w wr)
   case atStart=>exact⟨0,[oneL n],rfl,by simp,by simp,hO,⟨by simp,fun y hy=>by rw[List.mem_singleton.1 hy];exact hP1⟩,hMG2,hG.out,hbW⟩
   case round=>
    clear hO hMG2 hbW hG;obtain⟨i,g,rfl,hi,hgp,ho,hI,hm,hg,hb⟩:=hrel
    obtain⟨f,rfl⟩:∃f,gk=f+1:=by
     cases gk with
     | zero=>have:=hg.out;simp[clGo] at this
     | succ f=>exact⟨f,rfl⟩
    have hgl:=hI.le hn;obtain⟨ga,gc,gb,rfl,hga,hgc⟩:=ho.open';by_cases hlt2:i < g.length
    ·have hg':=hg.out;rw[clGo,if_pos hlt2] at hg';replace hg':=qH hg';obtain⟨y,hy⟩:=exE (g.getD i []);have hyP:IsP n y:=(by rw[←hy,getD_eq hlt2];exact hI.2 _ (List.getElem_mem hlt2));rw[hy] at hg';replace hy:=qH hy;clear hg hga hgc;go_wp2;obtain⟨wo,hwo⟩:=exF (wr);rw[←hwo] at ho hb hm⊢;clear hwo;go_loopw [10,57] (fun gv kv wr=>∃(k:Nat) (g':List (List Int)),k≤l.length∧kv = .int .i64 k∧i < g'.length∧Hid (g'.getD i []=y)∧OII wr w.heap.size gv g'.length g'∧InvG n g'∧MG wr mb g'∧Hid (clIn y (l.drop k) g'=clIn y l g)∧Below w.heap.size w wr) (fun _ kv _=>l.length - (intOf kv).toNat)
     case atStart=>exact⟨0,g,by omega,rfl,hlt2,hy,ho,hI,hm,rfl,hb⟩
     case round=>
      clear ho hb hy hI hgl hlt2 hi hm hlt;obtain⟨k,g',hk,rfl,hi,hy,ho,hI,hm,hin,hb⟩:=hrel;have hgl:=hI.le hn;by_cases hlt:k < l.length
      ·obtain rfl:=ha (by omega);obtain⟨u,hcu,hu⟩:=hc.keep hb k hlt;obtain⟨ga,gc,gb,rfl,hga,hgc⟩:=ho.open';obtain rfl:=hga (by omega);obtain⟨u2,hcu2,hu2⟩:=hgc i hi;rw[hy.out] at hu2;obtain⟨a,hka⟩:=exE (l.getD k []);have haP:IsP n a:=(by rw[←hka,getD_eq hlt];exact hl _ (List.getElem_mem hlt));rw[hka] at hu;have hst:=qH (clIn_step (y:=y) (g:=g') hlt hka);clear hka hga hgc;have HT:=composeCall hu (hu2.ints (by have:=hyP.1;omega)) (by rw[haP.1];exact hyP.good) (by have:=hyP.1;omega);rw[hyP.1] at HT;replace HT:=qH HT;have hxP:IsP n (timesL a y):=haP.times hyP;obtain⟨x,hx⟩:=exE (timesL a y);have hI2:=hI.step haP hyP;rw[hx] at HT hst hI2 hxP;obtain rfl:x.length=n:=hxP.1;have hxs:=hxP.small hn;have hxi:=qH (keyI hn hI hxP);have hgs:=qH (fun y hy=>(hI.2 y hy).small hn);have hgh:∀W,MG W mb g'→(Instr.lookup 113 (.map (some mb)) (.agg (keyA x)) false).run Tryz.prog W = .ok (.bool (decide (x∈g'))) W:=fun W hW=>hW.has hgs.out hxs hxi.out;replace hgh:=qH hgh;have HK:=fun W u (h:OI W 0 u x.length x)=>keyCall (h.ints (by omega)) hn1 hn;replace HK:=qH HK;clear hx;by_cases hmx:x∈g'
       ·rw[if_pos hmx] at hst;have hd:=qH (decide_eq_true hmx);clear hmx hI2;go_wp2_with (first|(go_at_call 68;refine HT.out.mono ?_;rintro e w3 ⟨rr,rfl,hxo,hb3⟩;obtain⟨xa,xc,rfl⟩:=hxo.shape)|(go_at_call 67;refine(HK.out _ _ (hxo.base (Nat.zero_le _))).mono ?_;rintro e w4 ⟨rfl,hb4⟩;have hlk:=hgh.out w4 ((hm.keep hb3).keep hb4);rw[hd.out] at hlk))
        go_roundw
        case rel=>exact⟨k+1,g',by omega,by go_num,hi,hy,(ho.keep hb3).keep hb4,hI,(hm.keep hb3).keep hb4,by show _=_;rw[←hin.out,hst.out],bt (bt hb hb3 hb.size) hb4 (Nat.le_trans hb.size hb3.size)⟩
        case measure=>simp[intOf];omega
       ·rw[if_neg hmx] at hst hI2;have hd:=qH (decide_eq_false hmx);replace hmx:=qH hmx;go_wp2_with (go_at_call 68;refine HT.out.mono ?_;rintro e w3 ⟨rr,rfl,hxo,hb3⟩;obtain⟨xa,xc,rfl⟩:=hxo.shape)
        refine(HK.out _ _ (hxo.base (Nat.zero_le _))).mono ?_;rintro e w4 ⟨rfl,hb4⟩;have hlk:=hgh.out w4 ((hm.keep hb3).keep hb4);rw[hd.out] at hlk;go_wp2_with fail
        refine(HK.out _ _ ((hxo.keep hb4).base (Nat.zero_le _))).mono ?_;rintro e w5 ⟨rfl,hb5⟩;have hb345:=btt (btt hb3 hb4) hb5;have hm5:=hm.keep hb345;obtain⟨o5,hput,hm6⟩:=hm5.put hgs.out hxs hxi.out hmx.out;have ho6:=(ho.keep hb345).map hm5 o5;have hx6:=((hxo.keep (btt hb4 hb5)).map hm5 o5).base (Nat.zero_le _);have hb6:=below_set (bt hb hb345 hb.size) hg0 o5;clear hm5 hb345 hb5 hb4 hb3 hxo hlk;obtain⟨W6,hW6⟩:=exE (ChangeMaps.setBlock w5 mb o5);rw[hW6] at hput hm6 ho6 hx6 hb6;clear hW6;have hs6:=hb6.size;go_wp2_with (at_builtin;refine wpApp1SM rfl _ _ rfl rfl ho6 rfl hx6 rfl hm6 (by omega) hs6 ?_;intro v7 w7 ho7 hb7 hm7;have hbw7:=hb6.trans hb7)
        go_roundw
        case rel=>exact⟨k+1,g' ++ [x],by omega,by go_num,by simp;omega,by show _=_;rw[getD_append_left' hi];exact hy.out,by rw[List.length_append];exact ho7,hI2,hm7,by show _=_;rw[←hin.out,hst.out],hbw7⟩
        case measure=>simp[intOf];omega
      ·have he:=qH (clIn_end (y:=y) (g:=g') hlt);have hlen:=clIn_le y l g;obtain rfl:k=l.length:=(by omega);clear ha hc;go_wp2;go_roundg f
       case measure=>omega
       case rel=>
        have e1:=hin.out;rw[he.out] at e1;exact⟨i+1,g',by go_num,by omega,by omega,ho,hI,hm,by show _=_;rw[e1];exact hg'.out,hb⟩
    ·have hg':=hg.out;rw[clGo,if_neg hlt2] at hg';obtain rfl:g=G:=Option.some.inj hg';clear hg hg' ha hc hga hgc;have HS:=sortOut ho hgp (by omega) (IsP.len5 hn hI);replace HS:=qH HS;go_wp2_with (go_at_call 69;refine HS.out.mono ?_;rintro e w8 ⟨rfl,yss,hy1,hy2,hy3,hy4⟩)
     go_ret2
     exact⟨_,rfl,yss,hy1,hy2,hy3,hb.trans (hy4.mono (Nat.le_refl _))⟩
end Go.Proofs.YtmikofeildnpdaaGreat
namespace Go.Proofs.YtmikofeildnpdaaGreat
open Go.RowKit
theorem generate {w:World}{v:Value}{l:List (List Int)}(n:Int) (h:Intss w v l):Calls Tryz.prog 25 #[.int .i64 n,v] w (RII w (genR n l) (chkList n l)):=by
 by_cases hz:chkList n l=0
 ·obtain⟨hn,hl,hP⟩:=chkList_ok hz;obtain⟨k,rfl⟩:∃k:Nat,n=k:=⟨n.toNat,by omega⟩;obtain⟨G,hG,hI⟩:=clGo_start (n:=k) (by omega) (l:=l) (by simpa using hP);have hL:genR k l=(everyL k).filter (fun x=>decide (x∈G)):=by rw[genR,if_pos hz,closL,Int.toNat_natCast,hG];rfl
  refine(generateOk k (by omega) (by omega) h hl (by simpa using hP) hG hI).mono ?_;rintro e w' ⟨r,rfl,yss,h1,h2,h3,h4⟩
  have he:yss=genR k l:=by
   rw[hL];exact group_sorted (by omega) hI.2 h2 (h1.symm.nodup hI.1) fun x=>h1.mem_iff
  rw[he] at h3;rw[hz];refine⟨r,rfl,?_,h4⟩;have:=h3.length
  rwa [←this] at h3
 ·exact generateBad n h hz
def Yes (w:World) (e:Ending) (w':World):Prop:=e = .returned (.bool true)∧Below w.heap.size w w'
theorem chk_isP {a:List Int}(h:chk a=0):IsP a.length a:=(chk_iff.1 h).2
theorem scat_length (idx vals out:List Int):∀k,(scat idx vals out k).length=out.length
 | 0=>rfl
 | k+1=>by rw[scat_succ,List.length_set,scat_length idx vals out k]
theorem movedL_length (a v:List Int):(movedL a v).length=a.length:=by rw[movedL,scat_length,List.length_replicate]
end Go.Proofs.YtmikofeildnpdaaGreat
namespace Go.Proofs.YtmikofeildnpdaaGreat
theorem IsP.idx {n:Nat}{x:List Int}(h:IsP n x) {q:Int}(hq:q∈x):q.toNat < n∧((q.toNat:Nat):Int)=q:=by
 have:=h.2.1 q hq;omega
theorem times_assoc {n:Nat}{a b c:List Int}(hb:b.length=n) (hc:IsP n c):timesL (timesL a b) c=timesL a (timesL b c):=by
 unfold timesL;rw[List.map_map];apply List.map_congr_left
 intro q hq;obtain⟨h1,_⟩:=hc.idx hq;show(b.map fun q=>a.getD q.toNat 0).getD q.toNat 0=a.getD (b.getD q.toNat 0).toNat 0
 simp[show q.toNat < b.length by omega]
theorem times_one {n:Nat}{a:List Int}(ha:IsP n a):timesL (oneL n) a=a:=by
 unfold timesL
 have:a.map (fun q=>(oneL n).getD q.toNat 0)=a.map id:=List.map_congr_left fun q hq=>by
  obtain⟨h1,h2⟩:=ha.idx hq;rw[oneL_getD h1];exact h2
 rw[this,List.map_id]
theorem one_times {n:Nat}{a:List Int}(ha:IsP n a):timesL a (oneL n)=a:=by
 have hl:(timesL a (oneL n)).length=a.length:=by rw[timesL_length,oneL_length,ha.1]
 refine List.ext_getElem hl fun k h1 h2=>?_;have hk:k < n:=by rw[hl,ha.1] at h1;exact h1
 have:=timesL_getD a (oneL n) k (by rw[oneL_length];exact hk)
 rw[oneL_getD hk] at this;rw[←getD_eq h1 0,this,←getD_eq h2 0];simp
theorem back_ok:permsAll.all (fun a=>decide (timesL (backL a) a=oneL a.length) && decide (timesL a (backL a)=oneL a.length) && decide (chk (backL a)=0))=true:=by decide +kernel
theorem back_left {a:List Int}(h:chk a=0):timesL (backL a) a=oneL a.length∧timesL a (backL a)=oneL a.length∧chk (backL a)=0:=by
 have:=perm_all back_ok h
 simp only[Bool.and_eq_true,decide_eq_true_eq] at this;exact⟨this.1.1,this.1.2,this.2⟩
theorem clIn_all {Q:List Int→Prop}{y:List Int}(hy:Q y):∀ {l g:List (List Int)},(∀a∈l,∀y,Q y→Q (timesL a y))→(∀x∈g,Q x)→∀x∈clIn y l g,Q x
 | [],_,_,h=>h
 | a::l,g,hl,h=>by
  rw[clIn];refine clIn_all hy (fun b hb=>hl b (by simp[hb])) ?_;split
  ·exact h
  ·intro x hx;rcases List.mem_append.1 hx with hx|hx
   ·exact h x hx
   ·rw[List.mem_singleton.1 hx];exact hl a (by simp) y hy
theorem clGo_all {Q:List Int→Prop}{l:List (List Int)}(hl:∀a∈l,∀y,Q y→Q (timesL a y)):∀ {f i:Nat}{g G:List (List Int)},(∀x∈g,Q x)→clGo l f i g=some G→∀x∈G,Q x
 | 0,_,_,_,_,h=>by cases h
 | f+1,i,g,G,hg,h=>by
  rw[clGo] at h;by_cases hlt:i < g.length
  ·rw[if_pos hlt] at h;refine clGo_all hl (clIn_all (y:=g.getD i []) ?_ hl hg) h;rw[getD_eq hlt];exact hg _ (List.getElem_mem hlt)
  ·rw[if_neg hlt] at h;obtain rfl:=Option.some.inj h;exact hg
theorem clIn_sub (y:List Int):∀ {l g:List (List Int)},(∀x∈g,x∈clIn y l g)∧(∀a∈l,timesL a y∈clIn y l g)
 | [],g=>⟨fun _ h=>h,fun _ h=>by cases h⟩
 | a::l,g=>by
  rw[clIn];obtain⟨h1,h2⟩:=clIn_sub y (l:=l) (g:=if timesL a y∈g then g else g ++ [timesL a y]);refine⟨fun x hx=>h1 x (by split;exact hx;simp[hx]),fun b hb=>?_⟩;rcases List.mem_cons.1 hb with rfl|hb
  ·exact h1 _ (by split;assumption;simp)
  ·exact h2 b hb
theorem clIn_getD (y:List Int):∀ {l g:List (List Int)}{k:Nat},k < g.length→(clIn y l g).getD k []=g.getD k []
 | [],_,_,_=>rfl
 | a::l,g,k,hk=>by
  rw[clIn];split
  ·exact clIn_getD y hk
  ·rw[clIn_getD y (by simp;omega),getD_append_left' hk]
theorem clGo_sub {l:List (List Int)}:∀ {f i:Nat}{g G:List (List Int)},clGo l f i g=some G→(∀j,j < i→j < g.length→∀a∈l,timesL a (g.getD j [])∈g)→(∀x∈g,x∈G)∧∀y∈G,∀a∈l,timesL a y∈G
 | 0,_,_,_,h,_=>by cases h
 | f+1,i,g,G,h,hc=>by
  rw[clGo] at h;by_cases hlt:i < g.length
  ·rw[if_pos hlt] at h;obtain⟨h1,h2⟩:=clIn_sub (g.getD i []) (l:=l) (g:=g)
   obtain⟨k1,k2⟩:=clGo_sub h (fun j hj _ a ha=>by
    by_cases hji:j=i
    ·subst hji;rw[clIn_getD _ hlt];exact h2 a ha
    ·rw[clIn_getD _ (by omega)];exact h1 _ (hc j (by omega) (by omega) a ha))
   exact⟨fun x hx=>k1 x (h1 x hx),k2⟩
  ·rw[if_neg hlt] at h;obtain rfl:=Option.some.inj h;refine⟨fun x hx=>hx,fun y hy a ha=>?_⟩;obtain⟨j,hj,rfl⟩:=List.mem_iff_getElem.1 hy;have:=hc j (by omega) hj a ha
   rwa [getD_eq hj] at this
end Go.Proofs.YtmikofeildnpdaaGreat
namespace Go.Proofs.YtmikofeildnpdaaGreat
theorem chk_of {n:Nat}(h1:1≤n) (h5:n≤5) {a:List Int}(h:IsP n a):chk a=0:=chk_iff.2 ⟨by have:=h.1;omega,by rw[h.1];exact h⟩
end Go.Proofs.YtmikofeildnpdaaGreat
namespace Go.Proofs.YtmikofeildnpdaaGreat
theorem scat_get {n:Nat}{a v:List Int}(ha:IsP n a):∀ {k:Nat},k≤n→∀j,j < k→(scat a v (List.replicate n 0) k).getD (a.getD j 0).toNat 0=v.getD j 0
 | 0,_,_,h=>by omega
 | k+1,hk,j,h=>by
  have hj:j < a.length:=by rw[ha.1];omega
  have hkl:k < a.length:=by rw[ha.1];omega
  have hm:∀i,i < a.length→(a.getD i 0).toNat < n∧(((a.getD i 0).toNat:Nat):Int)=a.getD i 0:=fun i hi=>ha.idx (by rw[getD_eq hi];exact List.getElem_mem hi);rw[scat_succ];have hl:(scat a v (List.replicate n 0) k).length=n:=by rw[scat_length,List.length_replicate]
  by_cases hjk:j=k
  ·subst hjk;rw[List.getD_eq_getElem?_getD,List.getElem?_set_self (by rw[hl];exact(hm j hj).1)];rfl
  ·have hne:(a.getD k 0).toNat ≠ (a.getD j 0).toNat:=by
    intro e;have e2:a.getD k 0=a.getD j 0:=(by rw[←(hm k hkl).2,←(hm j hj).2,e]);rw[getD_eq hkl,getD_eq hj] at e2;exact hjk ((List.getElem_inj ha.2.2).1 e2).symm
   rw[List.getD_eq_getElem?_getD,List.getElem?_set_ne hne,←List.getD_eq_getElem?_getD];exact scat_get ha (by omega) j (by omega)
theorem times_moved {n:Nat}{a v:List Int}(ha:IsP n a) (hv:v.length=n):timesL (movedL a v) a=v:=by
 refine List.ext_getElem (by rw[timesL_length,ha.1,hv]) fun k h1 h2=>?_;have hk:k < a.length:=by rwa [timesL_length] at h1
 rw[←getD_eq h1 0,timesL_getD _ _ _ hk,←getD_eq h2 0];unfold movedL;rw[ha.1];exact scat_get ha (Nat.le_refl n) k (by rw[←ha.1];exact hk)
theorem times_oneR {n:Nat}{x:List Int}(hx:x.length=n):timesL x (oneL n)=x:=by
 have hl:(timesL x (oneL n)).length=x.length:=by rw[timesL_length,oneL_length,hx]
 refine List.ext_getElem hl fun k h1 h2=>?_;have hk:k < n:=by rw[hl,hx] at h1;exact h1
 have:=timesL_getD x (oneL n) k (by rw[oneL_length];exact hk)
 rw[oneL_getD hk] at this;rw[←getD_eq h1 0,this,←getD_eq h2 0];simp
theorem times_injR {n:Nat}{a x y:List Int}(hz:chk a=0) (ha:IsP n a) (hx:x.length=n) (hy:y.length=n) (h:timesL x a=timesL y a):x=y:=by
 obtain⟨_,k2,k3⟩:=back_left hz;have hbl:(backL a).length=n:=by rw[backL,movedL_length,ha.1]
 have hB:IsP n (backL a):=by have:=chk_isP k3;rw[hbl] at this;exact this
 have e:∀z:List Int,z.length=n→timesL (timesL z a) (backL a)=z:=fun z hzl=>by
  rw[times_assoc ha.1 hB,k2,ha.1,times_oneR hzl]
 rw[←e x hx,h,e y hy]
theorem moved_moved {n:Nat}{a b v:List Int}(h1:1≤n) (h5:n≤5) (ha:IsP n a) (hb:IsP n b) (hv:v.length=n):movedL a (movedL b v)=movedL (timesL a b) v:=by
 have hab:=ha.times hb;refine times_injR (a:=timesL a b) (chk_of h1 h5 hab) hab (by rw[movedL_length,ha.1]) (by rw[movedL_length,hab.1]) ?_;rw[←times_assoc ha.1 hb,times_moved ha (by rw[movedL_length,hb.1]),times_moved hb hv,times_moved hab hv]
theorem perm_one_ok:permsAll.all (fun a=>decide (a.Perm (oneL a.length)))=true:=by decide +kernel
theorem moved_perm {n:Nat}{a v:List Int}(hz:chk a=0) (ha:IsP n a) (hv:v.length=n):(movedL a v).Perm v:=by
 have hp:a.Perm (oneL a.length):=of_decide_eq_true (perm_all perm_one_ok hz);have h1:=times_moved ha hv;have h2:=hp.map (fun q:Int=>(movedL a v).getD q.toNat 0);have h3:timesL (movedL a v) (oneL a.length)=movedL a v:=times_oneR (by rw[movedL_length]);have h4:(timesL (movedL a v) a).Perm (timesL (movedL a v) (oneL a.length)):=h2;rw[h1,h3] at h4;exact h4.symm
def bitsL (s:Int) (n:Nat):List Int:=(List.range n).map fun k=>s / 2 ^ k % 2
theorem set_ok02:permsAll.all (fun a=>(List.range (2 ^ a.length)).all fun s=>decide (bitsL (imgP a s a.length) a.length=movedL a (bitsL s a.length)) && decide (0≤imgP a s a.length) && decide (imgP a s a.length < 2 ^ a.length) && decide (popI (imgP a s a.length)=popI s))=true:=by decide +kernel
theorem bits_inj_ok:((List.range 6).all fun n=>(List.range (2 ^ n)).all fun s=>(List.range (2 ^ n)).all fun t=>decide (bitsL (s:Int) n=bitsL (t:Int) n→s=t))=true:=by decide +kernel
theorem bitsL_len (s:Int) (n:Nat):(bitsL s n).length=n:=by simp[bitsL]
theorem set_facts {n:Nat}{a:List Int}(hz:chk a=0) (ha:IsP n a) {s:Int}(h0:0≤s) (h1:s < 2 ^ n):bitsL (imgP a s n) n=movedL a (bitsL s n)∧0≤imgP a s n∧imgP a s n < 2 ^ n∧popI (imgP a s n)=popI s:=by
 have h:=perm_all set_ok02 hz;rw[ha.1] at h;have h2:=List.all_eq_true.1 h s.toNat (by rw[List.mem_range];exact(Int.toNat_lt h0).2 (by simpa using h1));simp only[Bool.and_eq_true,decide_eq_true_eq,show((s.toNat:Nat):Int)=s by omega] at h2;exact⟨h2.1.1.1,h2.1.1.2,h2.1.2,h2.2⟩
theorem set_set {n:Nat}{a b:List Int}(h1:1≤n) (h5:n≤5) (ha:IsP n a) (hb:IsP n b) {s:Int}(k0:0≤s) (k1:s < 2 ^ n):imgP a (imgP b s n) n=imgP (timesL a b) s n:=by
 have hab:=ha.times hb;obtain⟨b1,b2,b3,_⟩:=set_facts (chk_of h1 h5 hb) hb k0 k1;obtain⟨a1,a2,a3,_⟩:=set_facts (chk_of h1 h5 ha) ha b2 b3;obtain⟨c1,c2,c3,_⟩:=set_facts (chk_of h1 h5 hab) hab k0 k1
 have e:bitsL (imgP a (imgP b s n) n) n=bitsL (imgP (timesL a b) s n) n:=by
  rw[a1,b1,c1,moved_moved h1 h5 ha hb (bitsL_len s n)]
 have h:=List.all_eq_true.1 bits_inj_ok n (by rw[List.mem_range];omega);have h:=List.all_eq_true.1 h (imgP a (imgP b s n) n).toNat (by rw[List.mem_range];exact(Int.toNat_lt a2).2 (by simpa using a3));have h:=List.all_eq_true.1 h (imgP (timesL a b) s n).toNat (by rw[List.mem_range];exact(Int.toNat_lt c2).2 (by simpa using c3));have h:=of_decide_eq_true h (by rw[Int.toNat_of_nonneg a2,Int.toNat_of_nonneg c2];exact e);omega
end Go.Proofs.YtmikofeildnpdaaGreat
