/- Texts of this claim, put together: PI PG PJ PK. -/
import Derived.Test.YtcnedkkcgdkioaaGreatKSzb

set_option maxRecDepth 100000
set_option maxHeartbeats 12800000
namespace Go.Proofs.YtcnedkkcgdkioaaGreat
open Go.RowKit
theorem umI64v : Tryz.prog.underlying 3=some (.int .i64):=by kernel_rfl
theorem growVx {w:World}(n:Nat) (h0:0 < n) (hn:n<=1000000) :
  Calls Tryz.prog 202 #[.slice none 0 0,.int .i64 (n:Int)] w fun e w'=>∃v',e = .returned v'/\w'.ownsRow w.heap.size 83 2 v' 0 []/\Below w.heap.size w w':=by
 obtain⟨i0,hi,hz0,hz1,hz2⟩:=info_parts elemVx.2.1;have hr:=fun ty=>Lib.run_append_nil_zeros (P:=Tryz.prog) w 38 3 ty 83 i0 _ .i64 .i64 elemVx.1 umI64v hi hz0 n h0 (by rw[hz1];decide) (by omega) (by rw[hz2];omega);have hge:=grownCap_ge w n 0 83;have hcm:grownCap w n 0 83<=maxLen:=grownCap_le_maxLen w n 0 83 (by unfold maxLen;omega);obtain⟨cap,hcap⟩:=exE (grownCap w n 0 83);rw[hcap] at hge hcm;simp only[hcap] at hr;obtain⟨W1,hW1⟩:=exF (w.drew.alloc (.cells (Builtin.zeroCells (Value.agg #[.int .i64 0,.int .i64 0]).cells n++Builtin.zeroCells (Value.agg #[.int .i64 0,.int .i64 0]).cells (cap - n)) 83));have hb:Below w.heap.size w W1:=by rw[hW1];exact(Below.refl _ w).drew.alloc (Nat.le_refl _) _
 have hown:W1.ownsRow w.heap.size 83 2 (.slice (some ⟨w.heap.size,0,none⟩) 0 cap) 0 []:=by
  refine⟨rfl,.inr ⟨w.heap.size,cap,_,rfl,Nat.le_refl _,by rw[hW1];exact heap_alloc_new w.drew _,Nat.zero_le _,hcm,?_,by simp⟩⟩;simp only[Array.size_append,size_zeroCells,elemVx.2.2];omega
 simp only[<-hW1] at hr;unfold maxLen at hcm;have hcm':(cap:Int)<=9223372036854775807:=by omega
 have hnc:(n:Int)<=(cap:Int):=by omega
 have hn1:decide ((n:Int) < 0)=false:=decide_eq_false (by omega);have hn2:decide (0 < (n:Int))=true:=decide_eq_true (by omega);replace hown:=qH hown;replace hb:=qH hb;clear hW1 hcap hi;go_enter Tryz.func202, Tryz.ntmps202
 go_wp2_with (at_builtin;refine wpList_plain rfl fun _ hK=>Lib.wp_append_run w _ _ 38 3 rfl (.slice none 0 0) (.int .i64 (n:Int)) rfl rfl _ W1 (hr _) (hK _ _ ?_))
 go_wp2;go_ret;exact⟨_,rfl,hown.out,hb.out⟩
theorem growVxA {w:World}(n:Nat) (hn:n<=1000000) :
  Calls Tryz.prog 202 #[.slice none 0 0,.int .i64 (n:Int)] w fun e w'=>∃v',e = .returned v'/\OwX 83 2 EI w' w.heap.size v' 0 []/\Below w.heap.size w w':=by
 rcases Nat.eq_zero_or_pos n with h0|h0
 ·subst h0;go_enter Tryz.func202, Tryz.ntmps202
  go_wp2;go_ret;exact⟨_,rfl,OwX.nil _ _,Below.refl _ _⟩
 ·refine(growVx n h0 hn).mono ?_;rintro e w' ⟨v',rfl,h1,h2⟩;exact⟨v',rfl,⟨[],h1,rfl,(fun u hu=>by cases hu),(fun j x hj=>by simp at hj)⟩,h2⟩
theorem concatVx {w:World}{v:Value}{ss:Jc}(hK:KSS 2 w v ss) (hn:ss.length<=1000) (hl:∀s∈ss,0 < s.length/\s.length<=8) :
  Calls Tryz.prog 152 #[v] w fun e w'=>∃u,e = .returned u/\OwX 83 2 EI w' w.heap.size u ss.flatten.length ss.flatten/\Below w.heap.size w w':=by
 obtain⟨a,c,b,off,rfl,ha,hc,-⟩:=hK;have hcl:=qH hc
 have hsum:∀i,(ss.take i).flatten.length<=i * 8:=by
  intro i;induction i with
  | zero=>simp
  | succ i ih=>
   by_cases hi:i < ss.length
   ·rw[take_snoc hi ([]:Jb),List.flatten_append,List.length_append];have:=(hl (ss.getD i []) (by rw[getD_eq hi];exact List.getElem_mem hi)).2
    simp only[List.flatten_cons,List.flatten_nil,List.append_nil];omega
   ·rw[List.take_of_length_le (by omega)];rw[List.take_of_length_le (by omega)] at ih;omega
 have hstep:Hid (∀i,i < ss.length->(ss.take (i+1)).flatten=(ss.take i).flatten++ss.getD i []):=fun i hi=>by
  rw[take_snoc hi ([]:Jb),List.flatten_append];simp
 have hN8:=hsum ss.length;rw[List.take_length] at hN8;have hsum:=qH hsum;have hlh:=qH hl;obtain⟨N,hN⟩:=exE (ss.flatten.length);rw[hN];have HG:Hid (∀W:World,∃Q,Q=W):=fun W=>⟨W,rfl⟩;rw[hN] at hN8;replace hN:=qH hN;have hN9:N<=8000:=by omega
 clear hc hl HG;go_enter Tryz.func152, Tryz.ntmps152
 go_wp2_with fail
 go_loop [3,11] (fun sv iv=>∃i sz:Nat,sv = .int .i64 sz/\iv = .int .i64 i/\i<=ss.length/\Hid (sz=(ss.take i).flatten.length)) (fun _ iv=>ss.length - (intOf iv).toNat)
 case atStart=>exact⟨0,0,rfl,rfl,by omega,rfl⟩
 case round=>
  obtain⟨i,sz,rfl,rfl,hi,hsz⟩:=hrel;by_cases hlt:i < ss.length
  ·have hii:(i:Int) < (ss.length:Int):=(by omega);obtain rfl:=ha (by omega);obtain⟨u,hu,hku⟩:=hcl.out i hlt;have h1:=hsum.out i;rw[<-hsz.out] at h1;have hl8:=(hlh.out (ss.getD i []) (by rw[getD_eq hlt];exact List.getElem_mem hlt)).2
   have hsz2:Hid (sz+(ss.getD i []).length=(ss.take (i+1)).flatten.length):=by
    show _=_;rw[hstep.out i hlt,List.length_append,<-hsz.out]
   obtain⟨s,hs⟩:=exE (ss.getD i []);rw[hs] at hku hl8 hsz2;obtain⟨ua,uc,rfl⟩:=hku.shape;have hw1:IntKind.i64.wrap ((sz:Int)+(s.length:Int))=((sz+s.length:Nat):Int):=(by rw[IntWalk.i64_in _ (by omega)];omega);have hd:decide (((sz+s.length:Nat):Int) < 0)=false:=decide_eq_false (by omega);replace hs:=qH hs;clear hku hsz;go_wp2;go_round
   case rel=>exact⟨i+1,sz+s.length,by first|rfl|go_num,by go_num,by omega,hsz2⟩
   case measure=>simp[intOf];omega
  ·obtain rfl:i=ss.length:=(by omega);have hszN:sz=N:=(by rw[hsz.out,List.take_length];exact hN.out);subst hszN;have HG:=qH (growVxA (w:=w) sz (by omega));clear hsz;go_wp2_with fail
   refine HG.out.mono ?_;rintro e w1 ⟨v1,rfl,ho1,hb1⟩;have h00:Hid (OwX 83 2 EI w1 w.heap.size v1 (ss.take 0).flatten.length (ss.take 0).flatten):=ho1;clear ho1;go_wp2_with fail
   go_loopw [6,27] (fun vv iv wr=>∃i:Nat,iv = .int .i64 i/\i<=ss.length/\Hid (OwX 83 2 EI wr w.heap.size vv (ss.take i).flatten.length (ss.take i).flatten)/\Below w.heap.size w wr) (fun _ iv _=>ss.length - (intOf iv).toNat)
   case atStart=>exact⟨0,rfl,by omega,h00,hb1⟩
   case round=>
    clear h00;obtain⟨i,rfl,hi,ho,hbr⟩:=hrel;obtain⟨oa,oc,hos⟩:=ho.out.shape;subst hos;by_cases hlt:i < ss.length
    ·have hii:(i:Int) < (ss.length:Int):=(by omega);obtain rfl:=ha (by omega);obtain⟨u,hu,hku⟩:=hcl.out i hlt;replace hu:=cell_kept hbr hu;have hs0:=hlh.out (ss.getD i []) (by rw[getD_eq hlt];exact List.getElem_mem hlt);have h1:=hsum.out i;have hst:=hstep.out i hlt;obtain⟨s,hs⟩:=exE (ss.getD i []);rw[hs] at hku hs0 hst;obtain⟨ua,uc,ub,uo,he,hua,-⟩:=id hku;subst he;obtain rfl:=hua hs0.1;have hks:=hku.keep hbr;have hbsz:=hbr.size;obtain⟨P,hP⟩:=exE ((ss.take i).flatten);rw[hP] at h1 hst ho|-;have hPl:P.length+s.length<=1000000:=(by omega);have hoo:=ho.out;have hzz:(some (⟨ub,uo,none⟩:Addr))=none->uc=0:=fun h=>by cases h
     replace hst:=qH hst;replace hs:=qH hs;clear hku hP ho;go_wp2_with (at_builtin;refine wpList_appXs (ys:=s) elemVx (by decide) (by decide) rfl _ _ rfl rfl hoo rfl rfl hks hzz hPl hbsz ?_)
     intro v' w2 ho2 _ hb2 _
     have ho3:Hid (OwX 83 2 EI w2 w.heap.size v' (ss.take (i+1)).flatten.length (ss.take (i+1)).flatten):=by
      show OwX _ _ _ _ _ _ _ _;rw[hst.out,List.length_append];exact ho2
     clear ho2 hoo;go_wp2_with fail
     go_roundw
     case rel=>exact⟨i+1,by go_num,by omega,ho3,hbr.trans hb2⟩
     case measure=>simp[intOf];omega
    ·obtain rfl:i=ss.length:=(by omega);rw[List.take_length] at ho;have ho2:=ho.out;rw[hN.out] at ho2;rw[List.take_length,hN.out];have ho2:=qH ho2;clear ho;go_wp2;go_ret;exact⟨_,rfl,ho2.out,hbr⟩
theorem twoBox (w:World) (a b c d:Int) (t:TypeId):∃W1,W1=(w.alloc (.cells #[.int .i64 a,.int .i64 b] t)).alloc (.cells #[.int .i64 c,.int .i64 d] t)/\Below w.heap.size w W1/\W1.heap[w.heap.size]? = some (.cells #[.int .i64 a,.int .i64 b] t)/\W1.heap[w.heap.size+1]? = some (.cells #[.int .i64 c,.int .i64 d] t):=by
 refine⟨_,rfl,((Below.refl _ w).alloc (Nat.le_refl _) _).alloc (by simp) _,(Below.heap_alloc _ _ _ (by simp)).trans (heap_alloc_new w _),?_⟩;have:=heap_alloc_new (w.alloc (.cells #[.int .i64 a,.int .i64 b] t)) (.cells #[.int .i64 c,.int .i64 d] t)
 rwa [World.size_alloc] at this
theorem refCmpV (a b c d:Int) (w:World):Calls Tryz.prog 117 #[.agg #[.int .i64 a,.int .i64 b],.agg #[.int .i64 c,.int .i64 d]] w fun e w'=>e = .returned (.int .i64 (cmpL [a,b] [c,d]))/\Below w.heap.size w w':=by
 obtain⟨W1,hW1,hb1,kA,kB⟩:=twoBox w a b c d 83;obtain⟨z0,z1⟩:=boxL2 kA;obtain⟨y0,y1⟩:=boxL2 kB;rw[hW1] at z0 z1 y0 y1;clear kA kB;rw[cmpL_two];rcases Int.lt_trichotomy a c with h|h|h
 ·have e1:=decide_eq_true h;have e2:(if cmpI a c=0 then cmpI b d else cmpI a c) = -1:=by unfold cmpI;rw[if_pos h];rfl
  rw[e2];clear h e2;go_enter Tryz.func117, Tryz.ntmps117
  go_wp2;go_ret;rw[<-hW1];exact⟨rfl,hb1⟩
 ·subst h;have e1:=decide_eq_false (Int.lt_irrefl a);have e0:cmpI a a=0:=by unfold cmpI;rw[if_neg (Int.lt_irrefl a),if_neg (Int.lt_irrefl a)]
  rw[if_pos e0];rcases Int.lt_trichotomy b d with h|h|h
  ·have e3:=decide_eq_true h;have e2:cmpI b d = -1:=(by unfold cmpI;rw[if_pos h]);rw[e2];clear h e2 e0;go_enter Tryz.func117, Tryz.ntmps117
   go_wp2;go_ret;rw[<-hW1];exact⟨rfl,hb1⟩
  ·subst h;have e3:=decide_eq_false (Int.lt_irrefl b);have e2:cmpI b b=0:=(by unfold cmpI;rw[if_neg (Int.lt_irrefl b),if_neg (Int.lt_irrefl b)]);rw[e2];clear e2 e0;go_enter Tryz.func117, Tryz.ntmps117
   go_wp2;go_ret;rw[<-hW1];exact⟨rfl,hb1⟩
  ·have e3:=decide_eq_false (show ¬b < d by omega);have e4:=decide_eq_true h;have e2:cmpI b d=1:=(by unfold cmpI;rw[if_neg (show ¬b < d by omega),if_pos h]);rw[e2];clear h e2 e0;go_enter Tryz.func117, Tryz.ntmps117
   go_wp2;go_ret;rw[<-hW1];exact⟨rfl,hb1⟩
 ·have e1:=decide_eq_false (show ¬a < c by omega);have e4:=decide_eq_true h;have e2:(if cmpI a c=0 then cmpI b d else cmpI a c)=1:=by unfold cmpI;rw[if_neg (show ¬a < c by omega),if_pos h];rfl
  rw[e2];clear h e2;go_enter Tryz.func117, Tryz.ntmps117
  go_wp2;go_ret;rw[<-hW1];exact⟨rfl,hb1⟩
theorem take_any {α:Type}{p:α->Bool}{l:List α}{i:Nat}{d:α}(h:i < l.length):(l.take (i+1)).any p=((l.take i).any p || p (l.getD i d)):=by
 rw[take_snoc h d,List.any_append];simp
theorem any_hit {α:Type}{p:α->Bool}{l:List α}{i:Nat}{d:α}(h:i < l.length) (hp:p (l.getD i d)=true):l.any p=true:=by
 rw[List.any_eq_true];exact⟨l.getD i d,by rw[getD_eq h];exact List.getElem_mem h,hp⟩
def vEq (v x:List Int):Bool:=decide (x=v)
def inB (b:Jb) (x:List Int):Bool:=decide (x∈b)
theorem subB_all (a b:Jb):subB a b=a.all (inB b):=rfl
theorem ksLit {w:World}{b:Nat}{x y:Int}(h:w.heap[b]? = some (.cells #[.int .i64 x,.int .i64 y] 83)):KS 2 w (.slice (some ⟨b,0,none⟩) 1 1) [[x,y]]:=by
 refine⟨_,_,b,0,rfl,fun _=>rfl,fun j hj=>?_,by simp⟩;have hj:j < 1:=hj;obtain rfl:j=0:=by omega
 obtain⟨z0,z1⟩:=boxL2 h;refine⟨rfl,fun i hi=>?_⟩;have hi:i < 2:=hi;have:i=0\/i=1:=by omega
 rcases this with rfl|rfl
 ·exact z0
 ·exact z1
theorem cmpS_one (a b c d:Int):cmpS [[a,b]] [[c,d]]=cmpL [a,b] [c,d]:=rfl
theorem vertices1C (a b c d:Int) (w:World):Calls Tryz.prog 154 #[.agg #[.int .i64 a,.int .i64 b],.agg #[.int .i64 c,.int .i64 d]] w fun e w'=>e = .returned (.int .i64 (cmpL [a,b] [c,d]))/\Below w.heap.size w w'/\w.drawn<=w'.drawn:=by
 obtain⟨W1,hW1,hb1,kA,kB⟩:=twoBox w a b c d 83;obtain⟨W2,hW2⟩:=exF ((W1.alloc (.cells #[.int .i64 a,.int .i64 b] 83)).alloc (.cells #[.int .i64 c,.int .i64 d] 83));have hb2:Below W1.heap.size W1 W2:=by rw[hW2];exact((Below.refl _ W1).alloc (Nat.le_refl _) _).alloc (by simp) _
 have hs1:W1.heap.size=w.heap.size+2:=by rw[hW1];simp
 have kC:W2.heap[W1.heap.size]? = some (.cells #[.int .i64 a,.int .i64 b] 83):=by
  rw[hW2];exact(Below.heap_alloc _ _ _ (by simp)).trans (heap_alloc_new W1 _)
 have kD:W2.heap[W1.heap.size+1]? = some (.cells #[.int .i64 c,.int .i64 d] 83):=by
  rw[hW2];have:=heap_alloc_new (W1.alloc (.cells #[.int .i64 a,.int .i64 b] 83)) (.cells #[.int .i64 c,.int .i64 d] 83)
  rwa [World.size_alloc] at this
 have hd1:Hid (w.drawn=W2.drawn):=by show _=_;rw[hW2,hW1];rfl
 have HC:=qH (compareC (ksLit kC) (ksLit kD));rw[cmpS_one] at HC;obtain⟨E,hE⟩:=exE (cmpL [a,b] [c,d]);rw[hE] at HC|-;obtain⟨x0,x1⟩:=boxL2 kA;obtain⟨y0,y1⟩:=boxL2 kB;rw[hs1] at HC;have hb12:=btt hb1 hb2;rw[hW1] at x0 x1 y0 y1 hW2;clear hE kC kD kA kB hs1;go_enter Tryz.func154, Tryz.ntmps154
 go_wp2_with fail
 rw[<-hW2];replace hW2:=qH hW2;replace hW1:=qH hW1;refine HC.out.mono ?_;rintro e w3 ⟨rfl,hb3,hd3⟩;go_wp2;go_ret;exact⟨rfl,btt hb12 hb3,by rw[hd1.out];exact hd3⟩
open Go.Shelf Go.Lib Go.Sort
def V2:Type:={ x:List Int // x.length=2 }
instance:Inhabited V2:=⟨⟨[0,0],rfl⟩⟩
def V2.enc (x:V2):List Value:=x.1.map (Value.int .i64)
def V2.cf (x y:V2):Int:=cmpL x.1 y.1
theorem V2.len (x:V2):x.enc.length=2:=by rw[V2.enc,List.length_map];exact x.2
theorem V2.one (x:V2):∀v∈x.enc,v.oneCell'=true:=fun v hv=>by
 obtain⟨i,_,rfl⟩:=List.mem_map.1 hv;rfl
theorem V2.swo:SWO (ltOf V2.cf) where
 irrefl _:=decide_eq_false fun h=>cmpL_asymm _ _ h h
 trans _ _ _ h1 h2:=decide_eq_true (cmpL_trans _ _ _ (of_decide_eq_true h1) (of_decide_eq_true h2))
 ntrans _ _ _ h1 h2:=decide_eq_false (cmpL_ntrans _ _ _ (of_decide_eq_false h1) (of_decide_eq_false h2))
theorem V2.lays (blk off size:Nat) (w:World):CmpLays Tryz.prog 154 #[] V2.enc 2 V2.cf blk off size w:=by
 rintro m os dk _ ⟨x,hx⟩ ⟨y,hy⟩;obtain⟨x0,x1,rfl⟩:=two hx;obtain⟨y0,y1,rfl⟩:=two hy;exact(vertices1C x0 x1 y0 y1 _).mono fun _ _ ⟨he,hb,hd⟩=>⟨he,grown_of hb hd⟩
theorem flat_V2 (d:Array V2) (j:Nat) (hj:j < d.size):((flatK V2.enc 2 d).toList.drop (j * 2)).take 2=(d[j]!).1.map (Value.int .i64):=by
 have h7:(d[j]!).1.length=2:=(d[j]!).2;apply List.ext_getElem?
 intro k;rw[List.getElem?_take];by_cases hk:k < 2
 ·have hle:j * 2+2<=d.size * 2:=by rw[<-Nat.succ_mul];exact Nat.mul_le_mul_right _ hj
  rw[if_pos hk,List.getElem?_drop,Array.getElem?_toList,Array.getElem?_eq_getElem (by rw[size_flatK];omega)];have:=get_flatK V2.enc 2 d (j * 2+k) (by omega)
  rw[getElem!_pos _ _ (by rw[size_flatK];omega)] at this;rw[this,show(j * 2+k) / 2=j by omega,show(j * 2+k) % 2=k by omega];have hl:=V2.len d[j]!;rw[getElem!_pos _ k (by omega)];show some _=(V2.enc d[j]!)[k]?;rw[List.getElem?_eq_getElem (by omega)]
 ·rw[if_neg hk,List.getElem?_eq_none (by simp;omega)]
def SortVx (w:World) (B:Nat) (v:Value) (n:Nat) (xs:Jb) (e:Ending) (w':World):Prop:=
 e = .returned (.tuple #[])/\∃ys,ys.Perm xs/\ys.Pairwise (fun a b=>¬cmpL b a < 0)/\OwX 83 2 EI w' B v n ys/\Go.RowKit.Below B w w'/\KeepX 83 w w'
theorem sortVxs {w:World}{B g n cap:Nat}{xs:Jb}(h:OwX 83 2 EI w B (.slice (some ⟨g,0,none⟩) n cap) n xs) (hn:n<=1000000) :
  Calls Tryz.prog 153 #[.slice (some ⟨g,0,none⟩) n cap,.func (.func 154) #[] #[]] w (SortVx w B (.slice (some ⟨g,0,none⟩) n cap) n xs):=by
 have hl:=h.length;have h7:∀j,j < n->(xs.getD j []).length=2:=fun j hj=>(h.intCells hj).1;have hci:∀j,j < n->CI w g (j * 2) (xs.getD j []):=fun j hj=>(h.intCells hj).2;have hfz:∀j,w.frozen? ⟨g,j,none⟩=false:=fun j=>h.frozen j;obtain⟨ws,h1,_⟩:=h;rcases h1.2 with⟨h0,_⟩|⟨g',cap',cur,he,hB,hg,hc1,hc2,hc3,hc4⟩
 ·cases h0
 ·injection he with he1 he2 he3;injection he1 with he1;injection he1 with he1;subst he1 he3;let mk:Fin n->V2:=fun j=>⟨xs.getD j [],h7 j j.2⟩
  obtain⟨d,hd⟩:=exF (Array.ofFn mk);have hds:d.size=n:=by rw[hd];simp
  have hdj:∀j (hj:j < n),d[j]! = mk ⟨j,hj⟩:=fun j hj=>by rw[getElem!_pos d j (by omega)];simp[hd]
  have hH:HoldsK V2.enc 2 w g 0 d:=by
   intro t ht;rw[size_flatK,hds] at ht;have htj:t / 2 < n:=(by rw[Nat.div_lt_iff_lt_mul (by decide)];exact ht);have hm:t % 2 < 2:=Nat.mod_lt _ (by decide);constructor
   ·rw[get_flatK _ _ _ _ (by rw[hds];exact ht),hdj _ htj];have:=hci (t / 2) htj (t % 2) (by rw[h7 _ htj];exact hm)
    rw[show t / 2 * 2+t % 2=0+t by rw[Nat.mul_comm,Nat.div_add_mod,Nat.zero_add]] at this;rw[this];show some _=some (id ((xs.getD (t / 2) []).map (Value.int .i64))[t % 2]!);have hl7:=h7 _ htj;rw[getElem!_pos _ _ (by rw[List.length_map,hl7];exact hm),List.getElem_map,getD_eq (by rw[hl7];exact hm)];rfl
   ·rw[Nat.zero_add];exact hfz t
  have hgl:=(Array.getElem?_eq_some_iff.1 hg).1;have eg:∀args w,(callFunc 154 args).run Tryz.prog w = .ok (.enter 154 args) w:=enters_of Tryz.func154 (by kernel_rfl) rfl;have hS:=AnyQ.slices_SortFunc Tryz.sortVx 2 Tryz.isAgg83 Tryz.sizeOf83 V2.enc V2.len V2.one V2.cf V2.swo 154 #[] g 0 cap d w eg (V2.lays g 0 d.size w) hH hgl (by omega);rw[hds] at hS;change Calls Tryz.prog 153 _ _ _ at hS;refine hS.mono ?_;rintro e w' ⟨rfl,d',m,os,hp,hs,rfl⟩;obtain⟨hp1,_,hp2⟩:=hp;rw[hds] at hp1;have e1:d'.extract 0 n=d':=by rw[<-hp1];simp
  have e2:d.extract 0 n=d:=by rw[<-hds];simp
  rw[e1,e2] at hp2
  have ex:d.toList.map (fun x:V2=>x.1)=xs:=by
   apply List.ext_getElem
   ·simp[hds,hl]
   ·intro j hj1 hj2;simp only[List.getElem_map,Array.getElem_toList];have:=hdj j (by omega)
    rw[getElem!_pos d j (by omega)] at this;rw[this];exact getD_eq hj2 []
  have hfs:(flatK V2.enc 2 d').size=n * 2:=by rw[size_flatK,hp1]
  have hcs:n * 2<=cur.size:=by rw[hc3];exact Nat.mul_le_mul_right _ hc1
  have hW:sortWorldK V2.enc 2 w g 0 m d' os=sortWorld id w g 0 m (flatK V2.enc 2 d') os:=rfl;rw[hW];refine⟨rfl,d'.toList.map (fun x:V2=>x.1),?_,?_,⟨(flatK V2.enc 2 d').toList,⟨by rw[Array.length_toList,hfs],.inr ⟨g,cap,putCells id 0 (flatK V2.enc 2 d') cur,rfl,hB,heap_sortWorld_same 0 m _ os hg,hc1,hc2,by simpa [putCells] using hc3,?_⟩⟩,by simp[hp1],?_,?_⟩,below_sortWorld m _ os hB hgl,?_⟩
  ·rw[<-ex];exact hp2.map _
  ·rw[List.pairwise_map,List.pairwise_iff_getElem];intro i j hi hj hij;simp only[Array.length_toList] at hi hj;have:=hs i j (Nat.zero_le _) hij (by omega)
   rw[getElem!_pos d' i hi,getElem!_pos d' j hj] at this;exact of_decide_eq_false this
  ·have:=putCells_take id (flatK V2.enc 2 d') cur (by omega)
   rw[hfs] at this;rw[this,List.map_id]
  ·intro u hu;obtain⟨t,ht,rfl⟩:=List.getElem_of_mem hu;rw[Array.length_toList,hfs] at ht;have:=get_flatK V2.enc 2 d' t (by rw[hp1];exact ht)
   rw[getElem!_pos _ _ (by omega)] at this;rw[Array.getElem_toList,this];have hl7:=V2.len d'[t / 2]!;rw[getElem!_pos _ _ (by rw[hl7];exact Nat.mod_lt _ (show 0 < 2 by decide))];exact V2.one _ _ (List.getElem_mem _)
  ·intro j x hj;rw[List.getElem?_map] at hj
   have hjl:j < d'.size:=by
    rcases Nat.lt_or_ge j d'.size with h|h
    ·exact h
    ·rw[List.getElem?_eq_none (by simpa using h)] at hj;cases hj
   show _=_;rw[flat_V2 d' j hjl];rw[Array.getElem?_toList,Array.getElem?_eq_getElem hjl] at hj;simp only[Option.map_some,Option.some.injEq] at hj;rw[getElem!_pos d' j hjl,hj]
  ·intro k cs t hk ht;refine heap_sortWorld_other _ _ _ _ (fun e=>?_) (Array.getElem?_eq_some_iff.1 hk).1;subst e;rw[hg] at hk;injection hk with hk;injection hk with _ hk;exact ht hk.symm
theorem cmpcv_snoc:∀ {l:Jb}{x y:List Int},cpG (l ++ [x] ++ [y])=if x=y then cpG (l ++ [x]) else cpG (l ++ [x]) ++ [y]
 | [],x,y=>by
  by_cases h:x=y
  ·subst h;simp[cpG]
  ·simp[cpG,h]
 | [a],x,y=>by
  by_cases ha:a=x<;>by_cases h:x=y<;>simp[cpG,ha,h]
 | a::b::l,x,y=>by
  have ih:=cmpcv_snoc (l:=b::l) (x:=x) (y:=y);simp only[List.cons_append] at ih|-;by_cases ha:a=b
  ·rw[cpG,if_pos ha,ih];by_cases h:x=y
   ·rw[if_pos h,if_pos h,cpG,if_pos ha]
   ·rw[if_neg h,if_neg h,cpG,if_pos ha]
  ·rw[cpG,if_neg ha,ih];by_cases h:x=y
   ·rw[if_pos h,if_pos h,cpG,if_neg ha]
   ·rw[if_neg h,if_neg h,cpG,if_neg ha];rfl
theorem cmpcv_take {xs:Jb}{m:Nat}(h:m+1 < xs.length):cpG (xs.take (m+2))=if xs.getD m []=xs.getD (m+1) [] then cpG (xs.take (m+1)) else cpG (xs.take (m+1)) ++ [xs.getD (m+1) []]:=by
 rw[take_snoc h [],take_snoc (show m < xs.length by omega) [],cmpcv_snoc]
theorem OwX.storeIv {E:TypeId}{k:Nat}{w:World}{B g n cap:Nat}{xs:Jb}(h:OwX E k EI w B (.slice (some ⟨g,0,none⟩) n cap) n xs) {j i:Nat}(hj:j < n) (hi:i < k) (y:Int) :
  OwX E k EI (w.setCell ⟨g,j * k+i,none⟩ (.int .i64 y)) B (.slice (some ⟨g,0,none⟩) n cap) n (xs.set j ((xs.getD j []).set i y))/\w.grownBy (w.setCell ⟨g,j * k+i,none⟩ (.int .i64 y)) (some g):=by
 obtain⟨vs,h1,h2,h3,h4⟩:=h;obtain⟨s1,s2⟩:=World.ownsRow.stored h1 (j * k+i) (.int .i64 y);refine⟨⟨_,s1,by simp[h2],fun u hu=>?_,fun j' x hj'=>?_⟩,s2⟩
 ·rcases List.mem_or_eq_of_mem_set hu with hu|rfl
  ·exact h3 u hu
  ·rfl
 ·show _=_;have hjx:xs[j]? = some (xs.getD j []):=by rw[getD_eq (by omega)];exact List.getElem?_eq_some_iff.2 ⟨by omega,rfl⟩
  have hjl:j' < xs.length:=by have:=(List.getElem?_eq_some_iff.1 hj').1;simpa using this
  rw[List.drop_set];by_cases hjj:j'=j
  ·subst hjj;rw[List.getElem?_set_self (by omega)] at hj';simp only[Option.some.injEq] at hj';rw[if_neg (by omega),show j' * k+i - j' * k=i by omega,List.take_set,h4 j' _ hjx,<-hj',List.map_set]
  ·rw[List.getElem?_set_ne (by omega)] at hj';rw[<-h4 j' x hj'];by_cases hlt:j * k+i < j' * k
   ·rw[if_pos hlt]
   ·rw[if_neg hlt,List.take_set,List.set_eq_of_length_le];rw[List.length_take]
    have:k<=j * k+i - j' * k:=by
     have hle:j' < j:=by
      rcases Nat.lt_or_ge j' j with h|h
      ·exact h
      ·have h5:j < j':=(by omega);have h6:(j+1) * k<=j' * k:=Nat.mul_le_mul_right _ h5;rw[Nat.succ_mul] at h6;omega
     have h6:(j'+1) * k<=j * k:=Nat.mul_le_mul_right _ hle;rw[Nat.succ_mul] at h6;omega
    omega
theorem OwX.store2v {w:World}{B g n cap:Nat}{xs:Jb}(h:OwX 83 2 EI w B (.slice (some ⟨g,0,none⟩) n cap) n xs) {j:Nat}(hj:j < n) (y0 y1:Int) :
  OwX 83 2 EI ((w.setCell ⟨g,j * 2,none⟩ (.int .i64 y0)).setCell ⟨g,j * 2+1,none⟩ (.int .i64 y1)) B (.slice (some ⟨g,0,none⟩) n cap) n (xs.set j [y0,y1]):=by
 have hl:=h.length;obtain⟨h7,_⟩:=h.intCells hj;have h0:=(h.storeIv hj (i:=0) (by decide) y0).1;have h1:=(h0.storeIv hj (i:=1) (by decide) y1).1
 have hg:∀(a:List Int),(xs.set j a).getD j []=a:=fun a=>by
  rw[List.getD_eq_getElem?_getD,List.getElem?_set_self (by omega)];rfl
 simp only[hg,List.set_set] at h1;obtain⟨a,b,hx⟩:=two h7;rw[hx] at h1;exact h1
theorem below2v {w w':World}{B g:Nat}{a b:Nat}{va vb:Value}(h:Below B w w') (hg:B<=g) :
  Below B w ((w'.setCell ⟨g,a,none⟩ va).setCell ⟨g,b,none⟩ vb):=by
 have h1:=h.setCell (p:=⟨g,a,none⟩) hg va;exact h1.setCell (p:=⟨g,b,none⟩) hg vb
theorem OwX.keep2v {w:World}{B g n cap:Nat}{xs:Jb}(h:OwX 83 2 EI w B (.slice (some ⟨g,0,none⟩) n cap) n xs) (j:Nat) (y0 y1:Int) :
  KeepX 83 w ((w.setCell ⟨g,j * 2,none⟩ (.int .i64 y0)).setCell ⟨g,j * 2+1,none⟩ (.int .i64 y1)):=by
 obtain⟨_,h1,_⟩:=h;obtain⟨cs',g0⟩:=ownsRow_ty h1 g rfl;have k0:=KeepX.setCell (p:=⟨g,j * 2,none⟩) g0 (.int .i64 y0);have g1:=heap_setCell_same _ g (j * 2) _ _ (.int .i64 y0) g0;exact k0.trans (KeepX.setCell (p:=⟨g,j * 2+1,none⟩) g1 (.int .i64 y1))
theorem OwX.setTailV {w:World}{B g n cap m:Nat}{xs:Jb}(h:OwX 83 2 EI w B (.slice (some ⟨g,0,none⟩) n cap) n xs) (hm:m<=n) (vs:List Value) :
  OwX 83 2 EI (w.setCells g (m * 2) vs) B (.slice (some ⟨g,0,none⟩) m cap) m (xs.take m)/\Below B w (w.setCells g (m * 2) vs)/\KeepX 83 w (w.setCells g (m * 2) vs):=by
 have hl:=h.length;obtain⟨ws,h1,h2,h3,h4⟩:=h;rcases h1.2 with⟨h0,_⟩|⟨g',cap',cur,he,hB,hg,hc1,hc2,hc3,hc4⟩
 ·cases h0
 ·injection he with he1 he2 he3;injection he1 with he1;injection he1 with he1;subst he1 he3;obtain⟨cur',k1,k2,k3,k4,k5,k6,k7,k8⟩:=setCells_row vs (m * 2) w cur hg;have hmn:m * 2<=n * 2:=Nat.mul_le_mul_right _ hm;have hwl:ws.length=n * 2:=h1.1
  have hws:cur'.toList.take (m * 2)=ws.take (m * 2):=by
   rw[k3,<-hc4,List.take_take,Nat.min_eq_left hmn]
  refine⟨⟨ws.take (m * 2),⟨by rw[List.length_take];omega,.inr ⟨g,cap,cur',rfl,hB,k1,by omega,hc2,by rw[k2];exact hc3,hws⟩⟩,by rw[List.length_take];omega,fun u hu=>h3 u (List.mem_of_mem_take hu),fun j x hj=>?_⟩,⟨k6,k7,k8,by rw[k5];exact Nat.le_refl _,fun k hk=>k4 k (by omega)⟩,fun k cs t hk ht=>k4 k fun e=>?_⟩
  ·rw[List.getElem?_take] at hj;split at hj
   ·rename_i hjm
    have:=h4 j x hj
    have hjm7:j * 2+2<=m * 2:=(by rw[<-Nat.succ_mul];exact Nat.mul_le_mul_right _ hjm);show _=_;rw[List.drop_take,List.take_take,Nat.min_eq_left (by omega)];exact this
   ·cases hj
  ·subst e;rw[hg] at hk;injection hk with hk;injection hk with _ hk;exact ht hk.symm
theorem run_clear_vxs (w:World) (ty:TypeId) (b o m c:Nat) (hm:0 < m) (hc:∀j,j < m * 2->(w.cell? ⟨b,o+j,none⟩).isSome=true) (hf:∀j,j < m * 2->w.frozen? ⟨b,o+j,none⟩=false) :
  (Builtin.clear_ #[38] ty #[.slice (some ⟨b,o,none⟩) m c]).run Tryz.prog w = .ok (.tuple #[]) (w.setCells b o (Builtin.zeroCells (Value.agg #[.int .i64 0,.int .i64 0]).cells m).toList):=by
 have hzv:∀w,(zeroValue 83).run Tryz.prog w = .ok (Value.agg #[.int .i64 0,.int .i64 0]) w:=fun w=>by kernel_rfl
 have hcl:(Value.agg #[.int .i64 0,.int .i64 0]).cells = #[.int .i64 0,.int .i64 0]:=by rfl
 have hsz:(Builtin.zeroCells (Value.agg #[.int .i64 0,.int .i64 0]).cells m).toList.length=m * 2:=by
  rw[Array.length_toList,size_zeroCells,hcl];rfl
 have hone:∀v∈(Builtin.zeroCells (Value.agg #[.int .i64 0,.int .i64 0]).cells m).toList,v.oneCell'=true:=by
  intro v hv;rw[hcl] at hv;simp only[Builtin.zeroCells,Array.toList_map,List.mem_map] at hv;obtain⟨i,_,rfl⟩:=hv;have hi:i % 2 < 2:=Nat.mod_lt _ (by decide)
  have:∀k,k < 2->((#[.int .i64 0,.int .i64 0]:Array Value)[k]!).oneCell'=true:=by
   intro k hk;match k,hk with
   | 0,_=>rfl
   | 1,_=>rfl
  exact this _ hi
 have hst:=run_storeCells_cells (P:=Tryz.prog) b o _ 0 w (by rw[hsz];simpa using hc) (by rw[hsz];simpa using hf) hone;simp only[Nat.add_zero] at hst;obtain⟨k,rfl⟩:∃k,m=k+1:=⟨m - 1,by omega⟩;simp[Builtin.clear_,run_underlying elemVx.1,hzv,hst]
theorem compactv_put {xs cs:Jb}{m kk:Nat}{x:List Int}(hcl:cs.length=xs.length) (hk:kk < m) (hm:m < xs.length) (h1:cs.take kk=cpG (xs.take m)) (h2:∀j,kk<=j->cs.getD j []=xs.getD j []) (hx:xs.getD m []=x) (hne : ¬xs.getD (m - 1) []=x) :
  (cs.set kk x).take (kk+1)=cpG (xs.take (m+1))/\∀j,kk+1<=j->(cs.set kk x).getD j []=xs.getD j []:=by
 obtain⟨p,rfl⟩:∃p,m=p+1:=⟨m - 1,by omega⟩;refine⟨?_,fun j hj=>?_⟩
 ·rw[cmpcv_take hm,if_neg (by rw[hx];exact hne),<-h1,hx,List.take_set,take_snoc (show kk < cs.length by omega) [],List.set_append_right _ _ (by rw[List.length_take];exact Nat.min_le_left _ _),List.length_take,Nat.min_eq_left (by omega),Nat.sub_self];rfl
 ·rw[List.getD_eq_getElem?_getD,List.getElem?_set_ne (by omega),<-List.getD_eq_getElem?_getD];exact h2 j (by omega)
theorem compactVx {w:World}{B g n cap:Nat}{xs:Jb}(h:OwX 83 2 EI w B (.slice (some ⟨g,0,none⟩) n cap) n xs) (hn:n<=1000) :
  Calls Tryz.prog 155 #[.slice (some ⟨g,0,none⟩) n cap] w fun e w'=>∃m,e = .returned (.slice (some ⟨g,0,none⟩) m cap)/\OwX 83 2 EI w' B (.slice (some ⟨g,0,none⟩) m cap) m (cpG xs)/\Below B w w'/\KeepX 83 w w':=by
 have hl:=h.length
 have hB:B<=g:=by
  obtain⟨_,h1,_⟩:=h;exact(World.ownsRow.lt h1 g rfl).1
 have hnc:n<=cap/\(cap:Int)<=9223372036854775807:=by
  obtain⟨_,h1,_⟩:=h;rcases h1.2 with⟨h0,_⟩|⟨g',cap',cur,he,_,_,hc1,hc2,_⟩
  ·cases h0
  ·injection he with _ _ he3;subst he3;unfold maxLen at hc2;exact⟨hc1,by omega⟩
 obtain⟨hnc1,hnc2⟩:=hnc;have hxl:∀j,j < n->(xs.getD j []).length=2:=fun j hj=>(h.intCells hj).1;have hcells:=qH (fun j (hj:j < n)=>OwX.intCells h hj);have hh:=qH h;have hlh:=qH hl;have hxlh:=qH hxl;clear h hl hxl
 have hfin0:Hid (∀q,cpG (xs.take n)=xs.take n->OwX 83 2 EI (w.drewN q) B (.slice (some ⟨g,0,none⟩) n cap) n (cpG xs)):=fun q hq=>by
  rw[List.take_of_length_le (by rw[hlh.out];exact Nat.le_refl _)] at hq;rw[hq];exact hh.out.keep (EI.stab _) (below_drewN (Below.refl _ w) q)
 have hBw:Hid (∀q,Below B w (w.drewN q)/\KeepX 83 w (w.drewN q)):=fun q=>⟨below_drewN (Below.refl _ w) q,KeepX.below (below_drewN (Below.refl _ w) q)⟩;by_cases h2:n < 2
 ·have hall:Hid (cpG (xs.take n)=xs.take n):=by
   show _=_;have:n=0\/n=1:=by omega
   rcases this with rfl|rfl
   ·simp[cpG]
   ·match xs,hlh.out with
    | [x],_=>simp[cpG]
  have hd:decide ((n:Int) < 2)=true:=decide_eq_true (by omega);go_enter Tryz.func155, Tryz.ntmps155
  go_wp2;go_ret;exact⟨n,rfl,hfin0.out 0 hall.out,(hBw.out 0).1,(hBw.out 0).2⟩
 ·have hd:decide ((n:Int) < 2)=false:=decide_eq_false (by omega)
  have h1:Hid (cpG (xs.take (0+1))=xs.take (0+1)):=by
   show _=_;match xs,hlh.out with
   | x::r,_=>simp[cpG]
   | [],h=>simp at h;omega
  go_enter Tryz.func155, Tryz.ntmps155
  go_wp2_with fail
  go_loopg [3] n (fun f kv wr=>∃p q:Nat,kv = .int .i64 ((p:Int)+1)/\p+1<=n/\n<=p+1+f/\wr=w.drewN q/\Hid (cpG (xs.take (p+1))=xs.take (p+1)))
  case atStart=>exact⟨0,0,rfl,by omega,by omega,rfl,h1⟩
  case round=>
   clear h1;obtain⟨p,q,rfl,hp,hpf,rfl,hc⟩:=hrel;by_cases hlt:p+1 < n
   ·obtain⟨f,rfl⟩:∃f,gk=f+1:=⟨gk - 1,by omega⟩;obtain⟨hx7,hxc⟩:=hcells.out (p+1) hlt;obtain⟨hy7,hyc⟩:=hcells.out p (by omega);obtain⟨x,hx⟩:=exE (xs.getD (p+1) []);obtain⟨y,hy⟩:=exE (xs.getD p []);have htk:=cmpcv_take (xs:=xs) (m:=p) (by rw[hlh.out];exact hlt);rw[hx,hy] at htk;rw[hx] at hx7 hxc;rw[hy] at hy7 hyc;obtain⟨x0,x1,rfl⟩:=two hx7;obtain⟨y0,y1,rfl⟩:=two hy7;obtain⟨c0,c1⟩:=hxc.all2;obtain⟨d0,d1⟩:=hyc.all2;have hix1:(p:Int)+1 < (n:Int):=(by omega);have hix0:(0:Int)<=(p:Int):=(by omega);have hix2:(0:Int)<=(p:Int)+1:=(by omega);have hix3:(p:Int) < (n:Int):=(by omega);have hwr:IntKind.i64.wrap ((p:Int)+1 - 1)=(p:Int):=(by rw[show(p:Int)+1 - 1=(p:Int) by omega];exact IntWalk.i64_in _ (by omega));have htn:((p:Int)+1).toNat=p+1:=(by omega);have hty:=hy;have hxt:=hx;clear hxc hyc hx7 hy7 hx hy;by_cases he : [x0,x1] = [y0,y1]
    ·have hE:eqL [x0,x1] [y0,y1]=true:=eqL_true.2 he;rw[if_pos he.symm,hc.out] at htk;have htk:=qH htk;replace hty:=qH hty;clear he hc hxt;go_wp2_with fail
     go_quiet (fail)
     go_wp2_with fail
     obtain⟨N2,hN2⟩:=exE (n - (p+1));obtain⟨C2,hC2⟩:=exE (cap - (p+1));rw[hN2,hC2];have hnN:n=p+1+N2:=(by omega);replace hC2:=qH hC2;replace hN2:=qH hN2;have hnNh:=qH hnN;have hN2i:(1:Int)<=(N2:Int):=(by omega);have hs0:Hid (xs.take (p+1)=cpG (xs.take (p+1+(0+1)))):=htk.out.symm;have hO0:OwX 83 2 EI (w.drewN (q+nq)) B (.slice (some ⟨g,0,none⟩) n cap) n xs:=hh.out;have hb0:Below B w (w.drewN (q+nq)):=below_drewN (Below.refl _ w) _;have hk0:KeepX 83 w (w.drewN (q+nq)):=KeepX.below (below_drewN (Below.refl _ w) _);have hk0h:=qH hk0;have hsame:Hid (∀j,p+1<=j->xs.getD j []=xs.getD j []):=fun _ _=>rfl;clear hnN c0 c1 d0 d1 hE hix1 hix2 htn hwr hk0;go_loopg [3,5] N2 (fun f kv rv wr=>∃(kk r:Nat) (cs:Jb),kv = .int .i64 ((kk:Nat):Int)/\rv = .int .i64 ((r:Int)+1)/\r+1<=N2/\N2<=r+1+f/\kk < p+1+(r+1)/\OwX 83 2 EI wr B (.slice (some ⟨g,0,none⟩) n cap) n cs/\Hid (cs.take kk=cpG (xs.take (p+1+(r+1))))/\Hid (∀j,kk<=j->cs.getD j []=xs.getD j [])/\Below B w wr/\Hid (KeepX 83 w wr))
     case atStart=>exact⟨p+1,0,xs,by go_num,rfl,by omega,by omega,by omega,hO0,hs0,hsame,hb0,hk0h⟩
     case round=>
      clear hO0 hs0 hsame hb0 hk0h;obtain⟨kk,r,cs,rfl,rfl,hr,hrf,hkk,hO,htkk,hsm,hbw,hkx⟩:=hrel;have hcl:=hO.length;have hOh:=qH hO;have hnn:=hnNh.out;by_cases hltr:r+1 < N2
      ·obtain⟨f,rfl⟩:∃f,gk=f+1:=⟨gk - 1,by omega⟩;obtain⟨hx7,hxc⟩:=hO.intCells (j:=p+1+(r+1)) (by omega);obtain⟨hy7,hyc⟩:=hO.intCells (j:=p+1+r) (by omega);obtain⟨hz7,hzc⟩:=hO.intCells (j:=kk) (by omega);rw[hsm.out _ (by omega)] at hx7 hxc;rw[hsm.out _ (by omega)] at hy7 hyc;rw[Nat.add_mul (p+1) (r+1)] at hxc;rw[Nat.add_mul (p+1) r] at hyc;obtain⟨x,hx⟩:=exE (xs.getD (p+1+(r+1)) []);obtain⟨y,hy⟩:=exE (xs.getD (p+1+r) []);obtain⟨z,hz⟩:=exE (cs.getD kk []);have htt:=cmpcv_take (xs:=xs) (m:=p+1+r) (by rw[hlh.out];omega);have hput:=compactv_put (xs:=xs) (cs:=cs) (m:=p+1+(r+1)) (kk:=kk) (x:=x) (by rw[hcl,hlh.out]) hkk (by rw[hlh.out];omega) htkk.out hsm.out hx;rw[show p+1+r+1=p+1+(r+1) by omega,hx,hy] at htt;rw[show p+1+(r+1) - 1=p+1+r by omega,hy] at hput;rw[hx] at hx7 hxc;rw[hy] at hy7 hyc;rw[hz] at hz7 hzc;obtain⟨x0,x1,rfl⟩:=two hx7;obtain⟨y0,y1,rfl⟩:=two hy7;obtain⟨z0,z1,rfl⟩:=two hz7;obtain⟨c0,c1⟩:=hxc.all2;obtain⟨d0,d1⟩:=hyc.all2;obtain⟨e0,e1⟩:=hzc.all2;have hi1:(r:Int)+1 < (N2:Int):=(by omega);have hi2:(0:Int)<=(r:Int)+1:=(by omega);have hi3:(0:Int)<=(r:Int):=(by omega);have hi4:(r:Int) < (N2:Int):=(by omega);have hi5:(kk:Int) < (n:Int):=(by omega);have hN2b:(N2:Int)<=1000:=(by omega);have hkkb:(kk:Int)<=1000:=(by omega);have htn:((r:Int)+1).toNat=r+1:=(by omega);have hwr:IntKind.i64.wrap ((r:Int)+1 - 1)=(r:Int):=(by rw[show(r:Int)+1 - 1=(r:Int) by omega];exact IntWalk.i64_in _ (by omega));have hwr2:IntKind.i64.wrap (r:Int)=(r:Int):=IntWalk.i64_in _ (by omega);clear hxc hyc hzc hx7 hy7 hz7 hx hy hz hO;by_cases he : [x0,x1] = [y0,y1]
       ·have hE:eqL [x0,x1] [y0,y1]=true:=eqL_true.2 he;rw[if_pos he.symm] at htt;have htt2:Hid (cs.take kk=cpG (xs.take (p+1+(r+1+1)))):=htkk.out.trans htt.symm;clear he htt hput;replace hnn:=qH hnn;replace hcl:=qH hcl;go_wp2_with fail
        go_quiet (fail)
        clear hwr hwr2 htn;go_wp2_with fail
        go_roundg f
        case measure=>omega
        case rel=>exact⟨kk,r+1,cs,rfl,by go_num,by omega,by omega,by omega,hOh.out,htt2,hsm,below_drewN hbw _,hkx.out.trans (KeepX.below (below_drewN (Below.refl _ _) _))⟩
       ·have hE:eqL [x0,x1] [y0,y1]=false:=eqL_false.2 he;obtain⟨hp1,hp2⟩:=hput (fun h=>he h.symm);have hp1h:=qH hp1;have hp2h:=qH hp2;have hst:Hid (∀d,OwX 83 2 EI (((wr.drewN d).setCell ⟨g,kk * 2,none⟩ (.int .i64 x0)).setCell ⟨g,kk * 2+1,none⟩ (.int .i64 x1)) B (.slice (some ⟨g,0,none⟩) n cap) n (cs.set kk [x0,x1])):=fun d=>OwX.store2v (OwX.keep (EI.stab _) hOh.out (below_drewN (Below.refl _ _) d)) (by omega) x0 x1;have hst3:Hid (∀d,Below B w (((wr.drewN d).setCell ⟨g,kk * 2,none⟩ (.int .i64 x0)).setCell ⟨g,kk * 2+1,none⟩ (.int .i64 x1))):=fun d=>below2v (below_drewN hbw d) hB;have hst2:Hid (∀d,KeepX 83 w (((wr.drewN d).setCell ⟨g,kk * 2,none⟩ (.int .i64 x0)).setCell ⟨g,kk * 2+1,none⟩ (.int .i64 x1))):=fun d=>(hkx.out.trans (KeepX.below (below_drewN (Below.refl _ _) d))).trans (OwX.keep2v (OwX.keep (EI.stab _) hOh.out (below_drewN (Below.refl _ _) d)) kk x0 x1);have hfz:∀j,wr.frozen? ⟨g,j,none⟩=false:=fun j=>hOh.out.frozen j;have f0:=hfz (kk * 2);have f1:=hfz (kk * 2+1);clear he htt hput hp1 hp2 hfz;replace hnn:=qH hnn;replace hcl:=qH hcl;go_wp2_with fail
        go_quiet (fail)
        clear hwr hwr2 htn;go_wp2_with fail
        go_roundg f
        case measure=>omega
        case rel=>exact⟨kk+1,r+1,cs.set kk [x0,x1],by go_num,by go_num,by omega,by omega,by omega,hst.out _,hp1h,hp2h,hst3.out _,hst2.out _⟩
      ·have hrN:r+1=N2:=(by omega);have hfz:∀j,wr.frozen? ⟨g,j,none⟩=false:=fun j=>hO.frozen j
       have hcs:∀j,j < (n - kk) * 2->(wr.cell? ⟨g,kk * 2+j,none⟩).isSome=true:=fun j hj=>by
        have hq:kk+j / 2 < n:=by
         have:j / 2 < n - kk:=by rw[Nat.div_lt_iff_lt_mul (by decide)];exact hj
         omega
        obtain⟨k7,kc⟩:=hO.intCells hq;have hm:j % 2 < 2:=Nat.mod_lt _ (by decide);have h1:=kc (j % 2) (by rw[k7];exact hm);rw[show(kk+j / 2) * 2+j % 2=kk * 2+j by rw[Nat.add_mul,Nat.add_assoc,Nat.mul_comm (j / 2) 2,Nat.div_add_mod]] at h1;rw[h1];rfl
       have hcl7:=fun ty=>run_clear_vxs wr ty g (kk * 2) (n - kk) (cap - kk) (by omega) hcs (fun j _=>hfz _);obtain⟨Z,hZ⟩:=exE ((Builtin.zeroCells (Value.agg #[.int .i64 0,.int .i64 0]).cells (n - kk)).toList);simp only[hZ] at hcl7;obtain⟨t1,t2,t3⟩:=hO.setTailV (m:=kk) (by omega) Z;rw[htkk.out,List.take_of_length_le (by rw[hlh.out];omega)] at t1;obtain⟨W2,hW2⟩:=exE (wr.setCells g (kk * 2) Z);rw[hW2] at t1 t2 t3;simp only[hW2] at hcl7;have hfin:=qH t1;have hkf:=qH (hkx.out.trans t3);have hbf:=hbw.trans t2;have hk1:(kk:Int)<=(n:Int):=(by omega);have hkn:kk < n:=(by omega);have hkc:kk < cap:=(by omega);have hk2:(kk:Int)<=(cap:Int):=(by omega);have hge:decide ((r:Int)+1 < (N2:Int))=false:=decide_eq_false (by omega);clear t1 t2 t3 hO hOh hfz hcs hZ hW2 htkk hkx hsm;replace hnn:=qH hnn;replace hcl:=qH hcl;replace hrN:=qH hrN;go_wp2;go_ret;exact⟨kk,rfl,hfin.out,hbf,hkf.out⟩
    ·have hE:eqL [x0,x1] [y0,y1]=false:=eqL_false.2 he;rw[if_neg (fun h=>he h.symm),hc.out] at htk;have htk2:Hid (cpG (xs.take (p+1+1))=xs.take (p+1+1)):=(by show _=_;rw[htk,<-hxt];exact(take_snoc (by rw[hlh.out];exact hlt) []).symm);clear he hc hty htk hxt;go_wp2_with fail
     go_quiet (fail)
     go_wp2_with fail
     go_roundg f
     case measure=>omega
     case rel=>exact⟨p+1,_,by go_num,by omega,by omega,(by first|exact rfl|exact World.drewN_drewN _ _ _),htk2⟩
   ·obtain rfl:n=p+1:=(by omega);have hfin:=qH (hfin0.out q hc.out);obtain⟨b1,b2⟩:=hBw.out q;have b2h:=qH b2;clear hc b2;go_wp2_with fail
    go_ret;exact⟨p+1,by first|rfl|(congr 2;done),hfin.out,b1,b2h.out⟩
end Go.Proofs.YtcnedkkcgdkioaaGreat
