/- Texts of this claim, put together: V3 V4 TJ TK. -/
import Derived.Test.YtcnedkkcgdkioaaGreatKBk
import Derived.Control

set_option maxRecDepth 100000
set_option maxHeartbeats 12800000
namespace Go.Proofs.YtcnedkkcgdkioaaGreat
open Go.RowKit
attribute [local go_sem] Oper.semAt_some
def PV (r:Nat):Deferred:={ target:=.collected r,args:=#[] }
theorem ZW {fn:Func}{tmps:Array Value}{R:Ending->World->Prop}{p:Tmp}{B:Nat}(s:fn.results = #[.tmp p]):∀(rs:List Nat) (w:World),(∀r∈rs,w.heap[r]? = some (.deferred (some []))/\B<=r)->rs.Nodup->
  (∀w',Below B w w'->R (.returned (tmps.getD p undef)) w')->LeavesInM Fence.wide 0 Tryz.prog fn tmps R (rs.map PV) .returning w
 | [],w,_,_,h=>⟨_,results_tmp s _ _ _,h w (wB _ _)⟩
 | r::rs,w,hr,hn,h=>by
  rw[List.nodup_cons] at hn;obtain⟨b,c⟩:=hr r (by simp);refine⟨by simp,.inl ⟨r,_,rfl,run_takeDeferred b,?_⟩⟩;have g:Below B w (w.putObj r (.deferred none)):=IG (wB _ _) c _;refine ZW s rs _ (fun j a=>?_) hn.2 (fun w' i=>h w' (g.trans i));obtain⟨d,f⟩:=hr j (by simp[a]);exact⟨(World.putObj_heap_other (fun e=>hn.1 (by rw[<-e];exact a))).trans d,f⟩
def FB (p:List (Nat × List Int)) (j:Nat):Jb:=p.filterMap fun x=>if x.1=j then some x.2 else none
theorem OW (a b:List (Nat × List Int)) (j:Nat):FB (a++b) j=FB a j++FB b j:=List.filterMap_append
theorem QX (k j:Nat):∀s:Jb,FB (s.map fun m=>(k,m)) j=if k=j then s else []
 | []=>by simp[FB]
 | m::r=>by
  have h:=QX k j r;rw[FB] at h;rw[List.map_cons,FB,List.filterMap_cons];by_cases e:k=j
  ·rw[if_pos e] at h|-;simp only[if_pos e];rw[h]
  ·rw[if_neg e] at h|-;simp only[if_neg e];exact h
theorem dB:∀(ss:Jc) (k j:Nat),j < k->FB (CU k ss) j = []
 | [],_,_,_=>rfl
 | l::r,k,j,h=>by rw[CU,OW,QX,if_neg (by omega),dB r (k+1) j (by omega)];rfl
theorem cZ:∀(ss:Jc) (k j:Nat),FB (CU k ss) (k+j)=ss.getD j []
 | [],_,_=>rfl
 | l::r,k,0=>by rw[CU,OW,QX,Nat.add_zero,if_pos rfl,dB r (k+1) k (by omega),List.append_nil];rfl
 | l::r,k,j+1=>by
  rw[CU,OW,QX,if_neg (by omega),List.nil_append,show k+(j+1)=k+1+j by omega,cZ r (k+1) j];rfl
theorem TO:∀ {ss:Jc}{k:Nat}{x:Nat × List Int},x∈CU k ss->∃i,x.1=k+i/\i < ss.length/\x.2∈ss.getD i []
 | [],_,_,h=>by cases h
 | l::r,k,x,h=>by
  rw[CU,List.mem_append] at h;rcases h with h|h
  ·obtain⟨m,b,rfl⟩:=List.mem_map.1 h;exact⟨0,rfl,by simp,b⟩
  ·obtain⟨i,c,d,a⟩:=TO h;exact⟨i+1,by omega,by simp;omega,a⟩
def EV (L N:Nat) (P:List Nat) (p:List (Nat × List Int)):List Nat:=(List.range N).map fun s=>DM L P (FB p s)
theorem sF (L N:Nat) (P:List Nat):EV L N P []=List.replicate N 0:=by
 refine List.ext_getElem (by simp[EV]) fun i h a=>?_;simp[EV,FB,DM]
theorem sD {L N:Nat}{P:List Nat}{p:List (Nat × List Int)}{s:Nat}(h:s < N):(EV L N P p).getD s 0=DM L P (FB p s):=by
 rw[AK (by simpa [EV] using h)];simp[EV]
theorem sG {L N:Nat}{P:List Nat}{p:List (Nat × List Int)}{s:Nat}{m:List Int}:EV L N P (p ++ [(s,m)])=(EV L N P p).set s (min (DM L P (FB p s)+P.getD (CH m) 0) L):=by
 refine List.ext_getElem (by simp[EV]) fun i h a=>?_;have b:i < N:=by simpa [EV] using h
 rw[List.getElem_set];simp only[EV,List.getElem_map,List.getElem_range];by_cases e:s=i
 ·subst e;rw[if_pos rfl,OW,DM,List.foldl_append];have:FB [(s,m)] s = [m]:=by simp[FB]
  rw[this,List.foldl_cons,List.foldl_nil];rfl
 ·rw[if_neg e,OW];have:FB [(s,m)] i = []:=by simp[FB,e]
  rw[this,List.append_nil]
theorem sC (L:Nat) (P:List Nat) (ss:Jc):EV L ss.length P (CU 0 ss)=ss.map (DM L P):=by
 refine List.ext_getElem (by simp[EV]) fun i h b=>?_;have a:i < ss.length:=by simpa [EV] using h
 simp only[EV,List.getElem_map,List.getElem_range];have:=cZ ss 0 i
 rw[Nat.zero_add] at this;rw[this,AK a]
theorem OI.same {w w':World}{B g n c:Nat}{xs:List Int}(h:OI w B (.slice (some ⟨g,0,none⟩) n c) n xs) (k:0 < n) (i:w'.heap[g]? = w.heap[g]?):OI w' B (.slice (some ⟨g,0,none⟩) n c) n xs:=by
 refine⟨h.1,?_⟩;rcases h.2 with⟨_,j⟩|⟨b,p,u,a,d,e,f⟩
 ·omega
 ·have:b=g:=by injection a with a;injection a with a;injection a with a;exact a.symm
  subst this;exact .inr ⟨b,p,u,a,d,i.trans e,f⟩
theorem OI.made {w:World}{B g n c:Nat}{xs:List Int}(h:OI w B (.slice (some ⟨g,0,none⟩) n c) n xs) (j:0 < n):B<=g/\g < w.heap.size/\∃cs,w.heap[g]? = some (.cells cs 3):=by
 rcases h.2 with⟨_,f⟩|⟨d,p,u,a,e,b,i⟩
 ·omega
 ·have:d=g:=by injection a with a;injection a with a;injection a with a;exact a.symm
  subst this;exact⟨e,(wD.1 b).1,_,b⟩
def KJ (ss:Jc):Prop:=ss.length<=90/\CA ss<=1000000/\0 < ss.length/\∀s∈ss,0 < s.length/\∀m∈s,m.length=8/\0<=m.getD 7 0/\m.getD 7 0 < (ss.length:Int)
theorem JM.wd {ss:Jc}(h:JM ss):KJ ss:=⟨h.1,by have:=h.2.1;omega,h.2.2.1,fun s a=>⟨(h.2.2.2 s a).1,fun m b=>((h.2.2.2 s a).2 m b).2⟩⟩
theorem ES.ofWd {ss:Jc}(h:KJ ss):ES ss:=fun s b m a=>((h.2.2.2 s b).2 m a).2
theorem aM {w:World}{v:Value}{n:Int}{ss:Jc}(hA:DC w v n ss) (a0:KJ ss) {k L:Nat}{lim:Int}(hk:k<=100) (hL:lim+1=(L:Int)) (i7:1<=L) (m2:L<=2000000) :
  Calls Tryz.prog 190 #[v,.int .i64 (k:Int),.int .i64 lim] w fun e w'=>e = .returned (.int .i64 (num ss L k:Nat))/\Below w.heap.size w w':=by
 have i3:=hA.len8;have i4:=hA;obtain⟨sv,rfl,K⟩:=i4;obtain⟨A,C,k9⟩:=K.shape;subst k9;obtain⟨N,E⟩:=AB (ss.length);have o:=a0.2.2.1;have hl:=a0.1;rw[E] at o hl K|-;have o2:IntKind.i64.wrap (lim+1)=(L:Int):=by rw[hL];exact IntWalk.i64_in _ (by omega)
 have o3:IntKind.i64.wrap (L:Int)=(L:Int):=IntWalk.i64_in _ (by omega);obtain⟨Z,F⟩:=AF (((w.alloc (.cells #[.int .i64 n,.slice A N C] 27)).alloc (.cells #[.int .i64 lim] 3)).alloc (.cells #[.int .i64 1] 3));have a9:Z.heap.size=w.heap.size+3:=by rw[F];simp
 have d7:Below w.heap.size w Z:=by rw[F];exact(((wB _ w).alloc (wC _) _).alloc (by simp) _).alloc (by simp;omega) _
 have kA:Z.heap[w.heap.size]? = some (.cells #[.int .i64 n,.slice A N C] 27):=by
  rw[F];exact(Below.heap_alloc _ _ _ (by simp;omega)).trans ((Below.heap_alloc _ _ _ (by simp)).trans (World.alloc_heap_new w _))
 have kL:Z.heap[w.heap.size+1]? = some (.cells #[.int .i64 lim] 3 (0,0)):=by
  rw[F];refine(Below.heap_alloc _ _ _ (by simp)).trans ?_;have:=World.alloc_heap_new (w.alloc (.cells #[.int .i64 n,.slice A N C] 27)) (.cells #[.int .i64 lim] 3)
  rwa [World.size_alloc] at this
 have l1:Z.heap[w.heap.size+1+1]? = some (.cells #[.int .i64 1] 3 (0,0)):=by
  rw[F];have:=World.alloc_heap_new ((w.alloc (.cells #[.int .i64 n,.slice A N C] 27)).alloc (.cells #[.int .i64 lim] 3)) (.cells #[.int .i64 1] 3)
  simpa only [World.size_alloc] using this
 have j6:=wJ l1;obtain⟨d0,f7⟩:=GJ kA;refine callsIn_wide.1 (callsIn_of_wp_marks (n:=0) Tryz.func190 rfl trivial ?_);simp only[Tryz.ntmps190,List.size_toArray,List.length_cons,List.length_nil,Nat.reduceAdd,Nat.reduceSub,Array.replicate_succ,Array.replicate_zero,List.push_toArray,List.append_toArray,List.nil_append,List.cons_append];refine wpIn_wide.2 ?_;replace E:=qH E;replace a0:=qH a0;replace K:=qH K;replace hL:=qH hL;replace a9:=qH a9;go_wp2_with fail
 rw[<-F];replace F:=qH F;refine(rV j6 o hl).mono ?_;rintro e b ⟨p9,rfl,d5,b'⟩;have g2:=bt d7 b' d7.size;obtain⟨ua,uc,k'⟩:=d5.shape;subst k';have l2:=(b'.block w.heap.size (by have:=a9.out;omega)).trans kA;have l4:=(b'.block (w.heap.size+1) (by have:=a9.out;omega)).trans kL;go_wp2_with fail
 have g0:OI (b.alloc (.cells #[.slice ua N uc] 48)) w.heap.size (.slice ua N uc) N (BF (DD ss L 0)):=by
  rw[DD,E.out];exact(d5.keep ((wB _ _).alloc (wC _) _)).base d7.size
 have g5:(b.alloc (.cells #[.slice ua N uc] 48)).heap[b.heap.size]? = some (.cells #[.slice ua N uc] 48 (0,0)):=wE _ _;have g3:Below b.heap.size b (b.alloc (.cells #[.slice ua N uc] 48)):=(wB _ _).alloc (wC _) _
 refine wp_loop (fun a W=>∃(u4 u8 u9 u10 u11 u12 u13 u14 u15 u18 u19 u20 u21 u22 u23 u24 u25 u26 u27 u28 u29 u30 u31 u32 u33 u34 u35 u36 u37 u38 u39 u40 u41 u42 u43 u44 u45 u46:Value) (i:Nat) (z:List Nat) (cv:Value),i<=k/\W.heap[b.heap.size]? = some (.cells #[cv] 48 (0,0))/\OI W w.heap.size cv N (BF (DD ss L i))/\(∀r∈z,W.heap[r]? = some (.deferred (some []))/\b.heap.size<=r)/\z.Nodup/\Below b.heap.size b W/\
  a = { tmps:=#[.agg #[.int .i64 n,.slice A N C],.int .i64 (k:Int),.int .i64 lim,.pointer (some ⟨w.heap.size,0,none⟩),u4,.pointer (some ⟨w.heap.size+1,0,none⟩),.int .i64 0,.pointer (some ⟨b.heap.size,0,none⟩),u8,u9,u10,u11,u12,u13,u14,u15,.int .i64 (k:Int),.int .i64 (i:Int),u18,u19,u20,u21,u22,u23,u24,u25,u26,u27,u28,u29,u30,u31,u32,u33,u34,u35,u36,u37,u38,u39,u40,u41,u42,u43,u44,u45,u46],defers:=z.map PV }) (fun a _=>k - (intOf (a.tmps.getD 17 undef)).toNat) ?_ ?_
 ·refine⟨_,_,_,_,_,_,_,_,_,_,_,_,_,_,_,_,_,_,_,_,_,_,_,_,_,_,_,_,_,_,_,_,_,_,_,_,_,_,0,[],_,Nat.zero_le _,g5,g0,by simp,List.nodup_nil,g3,rfl⟩
 clear g0 g5 g3 d5;rintro a wr ⟨u4,u8,u9,u10,u11,u12,u13,u14,u15,u18,u19,u20,u21,u22,u23,u24,u25,u26,u27,u28,u29,u30,u31,u32,u33,u34,u35,u36,u37,u38,u39,u40,u41,u42,u43,u44,u45,u46,i,z,cv,hi,a3,J,H,c1,y,rfl⟩;obtain⟨c',gc,k0,n0⟩:=J.form o;subst k0;have c4:w.heap.size+1+1 < b.heap.size:=by have:=a9.out;have:=b'.size;omega
 have e4:=(y.block w.heap.size (by omega)).trans l2;have e5:=(y.block (w.heap.size+1) (by omega)).trans l4;obtain⟨d0,f7⟩:=GJ e4;have cb:=wJ a3;have cl:=wJ e5;by_cases k2:i < k
 ·have n4:(i:Int) < (k:Int):=by omega
  obtain⟨P,hP⟩:=AB (DD ss L i);rw[hP] at J;have i9:Hid (∀j,P.getD j 0<=L):=fun j=>by rw[<-hP];exact aL ss i7 i j
  have hQ:Hid (DD ss L (i+1)=ss.map (DM L P)):=by show _=_;rw[DD,hP]
  replace hP:=qH hP;replace c4:=qH c4;go_wp2_with (first|(at_make;refine VF rfl _ _ rfl N rfl rfl (by omega) (wC _) ?_;intro S c2 j' c0;have a2:=(wB S.heap.size S).alloc (wC _) (.cells #[.slice (some ⟨wr.heap.size,0,none⟩) N N] 48);obtain⟨e0,e1⟩:=(GJ ((c0.block w.heap.size (by have:=c4.out;have:=y.size;omega)).trans e4));replace e0:=AC a2 e0;replace e1:=AC a2 e1)|(go_at_call 219;refine(TL _ _ _ _ _).mono ?_;rintro e w5 ⟨rfl,rfl⟩))
  obtain⟨f,Q⟩:=AF (S.heap.size);obtain⟨g,Y⟩:=AF (wr.heap.size);obtain⟨l,V⟩:=AF ((S.alloc (.cells #[.slice (some ⟨wr.heap.size,0,none⟩) N N] 48)).alloc (.cells #[.int .i64 n,.slice A N C] 27));have d8:Below S.heap.size S l:=by rw[V];exact a2.alloc a2.size _
  have n':l.heap.size=f+1+1:=by rw[V,Q];simp
  have X:Below wr.heap.size wr l:=c0.trans (d8.mono c0.size)
  have kX:l.heap[f+1]? = some (.cells #[.int .i64 n,.slice A N C] 27):=by
   rw[V,Q];have:=World.alloc_heap_new (S.alloc (.cells #[.slice (some ⟨wr.heap.size,0,none⟩) N N] 48)) (.cells #[.int .i64 n,.slice A N C] 27)
   rwa [World.size_alloc] at this
  have kB:l.heap[f]? = some (.cells #[.slice (some ⟨g,0,none⟩) N N] 48 (0,0)):=by
   rw[V,Q,Y];exact(Below.heap_alloc _ _ _ (by simp)).trans (wE _ _)
  rw[<-V,<-Y];rw[<-Y] at c2;obtain⟨m',j8,_⟩:=c2.made o;rw[<-Q] at j8;have k8:wr.heap.size=g:=Y.symm;have o1:=c4.out;have m6:=y.size;have d9:l.cell? ⟨f+1,1,none⟩=some (.slice A N C):=AO kX rfl;have h0:=(c2.keep d8).base (B':=w.heap.size) (by omega);have d4:=J.keep X;have j4:b.heap.size < wr.heap.size:=(wD.1 a3).1;have a4:=(X.block b.heap.size j4).trans a3;have e6:=(X.block (w.heap.size+1) (by omega)).trans e5
  have c3:∀r∈z,l.heap[r]? = some (.deferred (some []))/\b.heap.size<=r/\r < g:=fun r c=>by
   have t:=(wD.1 (H r c).1).1;exact⟨(X.block r t).trans (H r c).1,(H r c).2,by omega⟩
  have g4:Below b.heap.size b l:=y.trans (X.mono y.size);have j2:Below w.heap.size w l:=g2.trans (g4.mono (by omega));obtain⟨n2,j9,_⟩:=J.made o;rw[k8] at j9;have k3 : Tryz.prog.follows .mixedOrders=true:=by kernel_rfl
  rw[<-Q];have k7:BF (List.replicate N 0)=List.replicate N 0:=by simp[BF]
  have d2:(∀k,(k=g)↔k=g)/\OI l w.heap.size (.slice (some ⟨g,0,none⟩) N N) N (BF (EV L N P [])):=⟨fun _=>Iff.rfl,by rw[sF,k7];exact h0⟩;clear V d0 f7 cb cl e4 e5 c0 j' c2 h0 J a3 H a2 d8 X y e0 e1 kX;replace Y:=qH Y;replace Q:=qH Q
  refine wpIn_wide.1 (eO (gf:=247) (lb:=#[.pointer (some ⟨f+1,0,none⟩)]) rfl (enters_of Tryz.func247 (by kernel_rfl) rfl) (TN K.out j2 d9) (wB _ _) (fun _=>rfl) TM (fun _ _ _ _ h=>h)
   (fun m D W=>(∀k,D k↔k=g)/\OI W w.heap.size (.slice (some ⟨g,0,none⟩) N N) N (BF (EV L N P m))) (fun _ _ _ _=>False)
   (fun m D W W' h hs hk=>⟨h.1,h.2.same o (hk g ((h.1 g).2 rfl))⟩) (fun _ _ _ _ _ h _ _=>h)
   (fun k=>k=g) (fun k hk=>by omega) (fun k hk=>by omega) (fun k hk=>by omega) d2
   (fun b4=>(b4.2.map (Value.int .i64)).toArray) 178 (fun b4 f3 l6=>(((l6.setIfInBounds 24 (.int .i64 b4.1)).setIfInBounds 25 (.agg (b4.2.map (Value.int .i64)).toArray)).setIfInBounds 9 (.int .i64 b4.1)).setIfInBounds 10 (.pointer (some ⟨f3,0,none⟩))) ?assign ?body ?done ?stop)
  case assign=>
   rintro l5 m ⟨s,b0⟩ W l7 ⟨r,c⟩ K;obtain⟨q0,a8,G,hm⟩:=TO (x:=(s,b0)) (k:=0) (ss:=ss) (by rw[<-c];simp);obtain rfl:s=q0:=(by have h:s=0+q0:=a8;omega);clear a8;obtain⟨y0,y1,y2,y3,y4,y5,y6,y7,rfl⟩:=CT (i3 _ (by rw[AK G];exact wG G) b0 hm);clear c G hm;simp only[List.setIfInBounds_toArray,List.set_cons_succ,List.set_cons_zero,List.map_cons,List.map_nil] at K;simp only[OQ,List.map_cons,List.map_nil];gi_wp2;exact K
  case body=>
   rintro l5 m ⟨s,b0⟩ D W f3 ⟨U,M⟩ f9 O f' ⟨r,c⟩ k1 d1 n6 m4;obtain⟨q0,a8,G,hm⟩:=TO (x:=(s,b0)) (k:=0) (ss:=ss) (by rw[<-c];simp);obtain rfl:s=q0:=(by have h:s=0+q0:=a8;omega);clear a8;have g':ss.getD s []∈ss:=(by rw[AK G];exact wG G);obtain⟨g9,e2,c5⟩:=((a0.out.2.2.2 _ g').2 b0 hm);have h1:s < N:=(by rw[<-E.out];exact G);rw[E.out] at c5;obtain⟨y0,y1,y2,y3,y4,y5,y6,y7,rfl⟩:=CT g9;replace e2:0<=y7:=e2;replace c5:y7 < (N:Int):=c5;obtain⟨q,rfl⟩:∃q:Nat,y7=(q:Int):=⟨y7.toNat,by omega⟩;have k5:q < N:=(by omega);have n8:(q:Int) < (N:Int):=(by omega);have o0:(s:Int) < (N:Int):=(by omega);obtain⟨I,b8⟩:=AB (DM L P (FB m s));have m3:I<=L:=(by rw[<-b8];exact dS _ _ _);obtain⟨T,b9⟩:=AB (P.getD q 0);have j1:=i9.out q;rw[b9] at j1;have cs:=M.cell h1;rw[OT,sD h1,b8] at cs;have cf:=M.free s;have h9:W.cell? ⟨f,0,none⟩=some (.slice (some ⟨g,0,none⟩) N N):=O.cell (p:=⟨f,0,none⟩) (by show ¬(f=g);omega) (wJ kB);have h8:W.cell? ⟨b.heap.size,0,none⟩=some (.slice (some ⟨c',0,none⟩) N gc):=O.cell (p:=⟨b.heap.size,0,none⟩) (by show ¬(b.heap.size=g);omega) (wJ a4);have cl:W.cell? ⟨w.heap.size+1,0,none⟩=some (.int .i64 lim):=O.cell (p:=⟨w.heap.size+1,0,none⟩) (by show ¬(w.heap.size+1=g);omega) (wJ e6);have cq:=O.cell (p:=⟨c',q,none⟩) (by show ¬(c'=g);omega) (d4.cell k5);rw[OT,b9] at cq;simp only[List.map_cons,List.map_nil] at d1;obtain⟨p0,p1,p2,p3,p4,p5,p6,p7⟩:=KL d1;have o4:IntKind.i64.wrap ((I:Int)+(T:Int))=(I:Int)+(T:Int):=IntWalk.i64_in _ (by omega)
   have a':∀(R:Nat) (b5:Int),OI ((W.drewN R).setCell ⟨g,s,none⟩ (.int .i64 b5)) w.heap.size (.slice (some ⟨g,0,none⟩) N N) N ((BF (EV L N P m)).set s b5)/\AV D W ((W.drewN R).setCell ⟨g,s,none⟩ (.int .i64 b5)):=fun R b5=>
    ⟨((M.same (w':=W.drewN R) o rfl).store s b5).1,((AV.refl D W).drewN R).setCell (p:=⟨g,s,none⟩) ((U g).2 rfl) _⟩
   have e3:min (DM L P (FB m s)+P.getD (CH [y0,y1,y2,y3,y4,y5,y6,(q:Int)]) 0) L=min (I+T) L:=by
    have h2:CH [y0,y1,y2,y3,y4,y5,y6,(q:Int)]=q:=rfl;rw[h2,b8,b9]
   have i5:=qH f9;replace U:=qH U;replace a':=qH a';replace e3:=qH e3;clear c G hm g' g9 e2 c5 d1 M k1 d2 d9 f9 b8 b9 c3 a4 e6 kB d4;simp only[List.setIfInBounds_toArray,List.set_cons_succ,List.set_cons_zero,List.map_cons,List.map_nil];gi_wp2
   have j7:Hid (BF ((EV L N P m).set s (min (I+T) L))=(BF (EV L N P m)).set s (min ((I:Int)+(T:Int)) (L:Int))):=by
    show _=_;rw[BF,BF,List.map_set];congr 1
    omega
   replace a':=a'.out;refine vC 16 k3 (by kernel_rfl) (by kernel_rfl) (by kernel_rfl) (by rintro⟨a,w,h⟩;exact h) ?_;intro o5;simp only[List.take_succ_cons,List.take_zero,List.drop_succ_cons,List.drop_zero]
   repeat (quiet_step (fail))
   refine wpQuiet_nil ?_;intro R;obtain⟨d',b7⟩:=a' R (min ((I:Int)+(T:Int)) (L:Int));replace d':=qH d';replace b7:=qH b7;go_wp2;exact⟨D,b7.out,Gr.refl _ _,fun j hj=>Nat.lt_of_lt_of_le (i5.out j hj) b7.out.size,U.out,by rw[sG,e3.out,j7.out];exact d'.out⟩
  case done=>
   intro d xs D W hS hI O f' hd n7 g6;obtain⟨U,M⟩:=hI;have m8:d ≠ g:=(by omega);have m5:b.heap.size < g:=(by omega);have h9:W.cell? ⟨f,0,none⟩=some (.slice (some ⟨g,0,none⟩) N N):=O.cell (p:=⟨f,0,none⟩) (by show ¬(f=g);omega) (wJ kB);have a5:=(O.same b.heap.size (by omega) (by omega)).trans a4;have h8:=wJ a5;have m9:=free_of_one a5;have h3:=one_setCell (u:=.slice (some ⟨g,0,none⟩) N N) a5
   have i8:Hid (OI (W.setCell ⟨b.heap.size,0,none⟩ (.slice (some ⟨g,0,none⟩) N N)) w.heap.size (.slice (some ⟨g,0,none⟩) N N) N (BF (DD ss L (i+1)))):=by
    have t:=M.same (w':=W.setCell ⟨b.heap.size,0,none⟩ (.slice (some ⟨g,0,none⟩) N N)) o (Below.heap_setCell _ ⟨b.heap.size,0,none⟩ _ g (by show g ≠ b.heap.size;omega));rw[hS,<-E.out,sC,<-hQ.out] at t;rw[E.out] at t;exact t
   have k6:Hid (∀r∈d::z,(W.setCell ⟨b.heap.size,0,none⟩ (.slice (some ⟨g,0,none⟩) N N)).heap[r]? = some (.deferred (some []))/\b.heap.size<=r):=fun r c=>by
    rcases List.mem_cons.1 c with rfl|c
    ·exact⟨(Below.heap_setCell _ ⟨b.heap.size,0,none⟩ _ r (by show r ≠ b.heap.size;omega)).trans g6,by omega⟩
    ·obtain⟨t,h2,m1⟩:=c3 r c
     have h4:r ≠ b.heap.size:=fun e=>by
      rw[e,a4] at t;cases t
     exact⟨((Below.heap_setCell _ ⟨b.heap.size,0,none⟩ _ r h4).trans (O.same r (by omega) (by omega))).trans t,h2⟩
   have k4:Hid (d::z).Nodup:=by
    show List.Nodup _;rw[List.nodup_cons];exact⟨fun c=>by have:=(c3 d c).2.2;omega,c1⟩
   have j5:Hid (Below b.heap.size b (W.setCell ⟨b.heap.size,0,none⟩ (.slice (some ⟨g,0,none⟩) N N))):=Below.setCell (p:=⟨b.heap.size,0,none⟩) (g4.trans (O.below (by omega) (fun j hj=>by omega))) (wC _) _;have n5:IntKind.i64.wrap ((i:Int)+1)=(i:Int)+1:=IntWalk.i64_in _ (by omega);replace a5:=qH h3;clear M hS U O f' d2 d9 d4 a4 kB e6 c3 h3 g6;go_wp2;refine⟨⟨_,_,_,_,_,_,_,_,_,_,_,_,_,_,_,_,_,_,_,_,_,_,_,_,_,_,_,_,_,_,_,_,_,_,_,_,_,_,i+1,d::z,.slice (some ⟨g,0,none⟩) N N,k2,a5.out,i8.out,k6.out,k4.out,j5.out,rfl⟩,?_⟩;simp[intOf]
   omega
  case stop=>
   intro d l9 m D W _ h;exact h.elim
 ·obtain rfl:i=k:=by omega
  have n1 : ¬((i:Int) < (i:Int)):=by omega
  have m0:(0:Int) < (N:Int):=by omega
  have f4:=J.cell o;rw[OT] at f4;obtain⟨h6,hZ⟩:=AB ((DD ss L i).getD 0 0);rw[hZ] at f4;have j0:Hid (num ss L i=h6):=hZ;have j3:=qH (g2.trans (y.mono (by omega)));replace H:=qH H;replace c1:=qH c1;clear J a3 y hZ;go_wp2;refine ZW (B:=w.heap.size) rfl z wr (fun r c=>⟨(H.out r c).1,by have:=(H.out r c).2;omega⟩) c1.out (fun w' l0=>⟨?_,j3.out.trans l0⟩);rw[j0.out];rfl
theorem iO {w:World}{v:Value}{n:Int}{ss:Jc}(h:DC w v n ss) (i:BU n ss=0) (O:KJ ss) {k:Nat}(A:k<=6) (l:num ss 4097 k<=4096) :
  Calls Tryz.prog 127 #[v,.int .i64 (k:Int),.int .i64 4096] w fun e w'=>e = .returned (.tuple #[.int .i64 (num ss 4097 k:Nat),.int .i64 0])/\Below w.heap.size w w':=by
 have m:CA ss<=1000000000:=by have:=O.2.1;omega
 obtain⟨x,q,u⟩:=PK h;subst u;obtain⟨g,a⟩:=AF (w.alloc (.cells #[.int .i64 n,.slice x ss.length q] 27));obtain⟨c,p,o,_⟩:=MP a;have C:=qH (fun W (b:Below w.heap.size w W)=>i▸RX (h.keep b) m);have H:=qH (fun W (b:Below w.heap.size w W)=>aM (k:=k) (L:=4097) (lim:=4096) (h.keep b) O (by omega) rfl (by omega) (by omega));obtain⟨z,f⟩:=AB (num ss 4097 k);rw[f] at l;simp only[f] at H|-;have s:decide ((k:Int) < 0)=false:=vY (by omega);have t:decide ((6:Int) < (k:Int))=false:=vY (by omega);have y:decide ((4096:Int) < (z:Int))=false:=vY (by omega);clear h f;go_enter Tryz.func127, Tryz.ntmps127
 go_wp2_with fail
 rw[<-a];replace a:=qH a;refine(C.out g c).mono ?_;rintro e W2 ⟨rfl,d⟩;have B:=bt c d c.size;have D:=AC d p;have E:=AC d o;go_wp2_with fail
 refine(H.out W2 B).mono ?_;rintro e r ⟨rfl,j⟩;go_wp2;go_ret2
 exact⟨rfl,bt B j B.size⟩
theorem iN {w:World}{v:Value}{n:Int}{ss:Jc}(A:DC w v n ss) (m:BU n ss=0) (O:KJ ss) {k:Nat}(E:k<=6) :
  Calls Tryz.prog 127 #[v,.int .i64 (k:Int),.int .i64 1048576] w fun e w'=>e = .returned (if 1048576 < num ss 1048577 k then .tuple #[.int .i64 0,.int .i64 17] else .tuple #[.int .i64 (num ss 1048577 k:Nat),.int .i64 0])/\Below w.heap.size w w':=by
 have q:CA ss<=1000000000:=by have:=O.2.1;omega
 obtain⟨x,t,u⟩:=PK A;subst u;obtain⟨g,h⟩:=AF (w.alloc (.cells #[.int .i64 n,.slice x ss.length t] 27));obtain⟨a,p,j,_⟩:=MP h;have C:=qH (fun W (d:Below w.heap.size w W)=>m▸RX (A.keep d) q);have H:=qH (fun W (d:Below w.heap.size w W)=>aM (k:=k) (L:=1048577) (lim:=1048576) (A.keep d) O (by omega) rfl (by omega) (by omega));obtain⟨z,i⟩:=AB (num ss 1048577 k);simp only[i] at H|-;have y:decide ((k:Int) < 0)=false:=vY (by omega);have D:decide ((6:Int) < (k:Int))=false:=vY (by omega);clear A i;by_cases c:1048576 < z
 ·rw[if_pos c];have o:decide ((1048576:Int) < (z:Int))=true:=vZ (by omega);clear c;go_enter Tryz.func127, Tryz.ntmps127
  go_wp2_with fail
  rw[<-h];replace h:=qH h;refine(C.out g a).mono ?_;rintro e W2 ⟨rfl,b⟩;have B:=bt a b a.size;have r:=AC b p;have s:=AC b j;go_wp2_with fail
  refine(H.out W2 B).mono ?_;rintro e l ⟨rfl,f⟩;go_wp2;go_ret2
  exact⟨rfl,bt B f B.size⟩
 ·rw[if_neg c];have o:decide ((1048576:Int) < (z:Int))=false:=vY (by omega);clear c;go_enter Tryz.func127, Tryz.ntmps127
  go_wp2_with fail
  rw[<-h];replace h:=qH h;refine(C.out g a).mono ?_;rintro e W2 ⟨rfl,b⟩;have B:=bt a b a.size;have r:=AC b p;have s:=AC b j;go_wp2_with fail
  refine(H.out W2 B).mono ?_;rintro e l ⟨rfl,f⟩;go_wp2;go_ret2
  exact⟨rfl,bt B f B.size⟩
theorem eV {w:World}{v:Value}{n:Int}{ss:Jc}(A:DC w v n ss) (g:BU n ss=0) (O:KJ ss) {k:Nat}(i:k<=6) :
  Calls Tryz.prog 126 #[v,.int .i64 (k:Int)] w fun e w'=>e = .returned (if 1048576 < num ss 1048577 k then .tuple #[.int .i64 0,.int .i64 17] else .tuple #[.int .i64 (num ss 1048577 k:Nat),.int .i64 0])/\Below w.heap.size w w':=by
 obtain⟨x,j,u⟩:=PK A;subst u;obtain⟨W,h⟩:=AF (w.alloc (.cells #[.int .i64 n,.slice x ss.length j] 27));obtain⟨b,p,l,_⟩:=MP h;have H:=iN (A.keep b) g O i;obtain⟨z,d⟩:=AB (num ss 1048577 k);rw[d] at H|-;clear A d;by_cases c:1048576 < z
 ·rw[if_pos c] at H|-;replace H:=qH H;go_enter Tryz.func126, Tryz.ntmps126
  go_wp2_with fail
  rw[<-h];replace h:=qH h;refine H.out.mono ?_;rintro e W2 ⟨rfl,a⟩;have f:=btt b a;go_wp2;go_ret2
  exact⟨rfl,f⟩
 ·rw[if_neg c] at H|-;replace H:=qH H;go_enter Tryz.func126, Tryz.ntmps126
  go_wp2_with fail
  rw[<-h];replace h:=qH h;refine H.out.mono ?_;rintro e W2 ⟨rfl,a⟩;have f:=btt b a;go_wp2;go_ret2
  exact⟨rfl,f⟩
def JW (cs:List Cs) (ss:Jc) (k:Nat):Int × Int:=
 if 1048576 < num ss 1048577 k then (0,17) else if 1048576 < num ss 1048577 k * cs.length then (0,17) else ((num ss 1048577 k * cs.length:Nat),0)
theorem MR {n i o:Int}{cs:List Cs}(h:FK n i o cs=0):1<=cs.length/\cs.length<=1024:=by
 unfold FK at h;split at h
 ·cases h
 ·split at h
  ·cases h
  ·omega
theorem YL {w:World}{v:Value}{n i o an r:Int}{cs:List Cs}{ss:Jc}(h:ED w v n i o cs an ss r) (U:FV ss=true) :
  Calls Tryz.prog 72 #[v] w fun e w'=>e = .returned (.tuple #[.int .i64 (if DJ n i o cs an ss r ≠ 0 then (0,DJ n i o cs an ss r) else JW cs ss r.toNat).1,.int .i64 (if DJ n i o cs an ss r ≠ 0 then (0,DJ n i o cs an ss r) else JW cs ss r.toNat).2])/\Below w.heap.size w w':=by
 have D:=qH (fun W (f:Below w.heap.size w W)=>jP (h.keep f) U);obtain⟨a,c,P,Q,rfl,T,E⟩:=h;obtain⟨g,b⟩:=AF (w.alloc (.cells #[.int .i64 n,.int .i64 i,.int .i64 o,.slice a cs.length c,.int .i64 an,.slice P ss.length Q,.int .i64 r] 29));have u:Below w.heap.size w g:=by rw[b];exact(wB _ w).alloc (wC _) _
 have V:g.heap[w.heap.size]? = some (.cells #[.int .i64 n,.int .i64 i,.int .i64 o,.slice a cs.length c,.int .i64 an,.slice P ss.length Q,.int .i64 r] 29):=by rw[b];exact wE _ _
 have H:=qH (fun W (f:Below g.heap.size g W)=>keep7 f (box7' V));obtain⟨j,l,m,p,q,s,t⟩:=H.out g (wB _ _);rw[b] at j l m p q s t;obtain⟨z,F⟩:=AB (DJ n i o cs an ss r);have L:=F;rw[F];simp only[F] at D;clear V F;by_cases O:z=0
 ·subst O;rw[if_neg (fun h=>h rfl)];obtain⟨R,I,-,X,Y⟩:=LQ L;obtain⟨l1,l2⟩:=MR R;have S:=(JU E U I).wd;obtain⟨k,rfl⟩:∃k:Nat,r=(k:Int):=⟨r.toNat,by omega⟩;rw[Int.toNat_natCast];have a0:k<=6:=by omega
  have C:=qH (fun W (f:Below g.heap.size g W)=>eV ((E.keep u).keep f) I S a0);unfold JW;obtain⟨N,K⟩:=AB (num ss 1048577 k);rw[K];simp only[K] at C;clear L R I X Y S E T K;by_cases f:1048576 < N
  ·rw[if_pos f];simp only[if_pos f] at C;clear f;go_enter Tryz.func72, Tryz.ntmps72
   go_wp2_with fail
   rw[<-b];replace b:=qH b;refine(D.out g u).mono ?_;rintro e x ⟨rfl,d⟩;clear j l m p q s t;obtain⟨j,l,m,p,q,s,t⟩:=H.out x d;go_wp2_with fail
   refine(C.out x d).mono ?_;rintro e G ⟨rfl,y⟩;have A:=btt u (btt d y);go_wp2_with fail
   go_ret2
   exact⟨rfl,A⟩
  ·rw[if_neg f];simp only[if_neg f] at C;have B:N * cs.length<=1048576 * 1024:=Nat.mul_le_mul (by omega) l2;obtain⟨M,J⟩:=AB (N * cs.length);rw[J] at B|-;have a3:IntKind.i64.wrap (M:Int)=(M:Int):=IntWalk.i64_in _ (by omega);have a2:(N:Int) * (cs.length:Int)=(M:Int):=(by rw[<-J,Int.natCast_mul]);clear f B J;by_cases B:1048576 < M
   ·rw[if_pos B];have Z:decide ((1048576:Int) < (M:Int))=true:=vZ (by omega);clear B;go_enter Tryz.func72, Tryz.ntmps72
    go_wp2_with fail
    rw[<-b];replace b:=qH b;refine(D.out g u).mono ?_;rintro e x ⟨rfl,d⟩;clear j l m p q s t;obtain⟨j,l,m,p,q,s,t⟩:=H.out x d;go_wp2_with fail
    refine(C.out x d).mono ?_;rintro e G ⟨rfl,y⟩;clear j l m p q s t;obtain⟨j,l,m,p,q,s,t⟩:=H.out G (btt d y);have A:=btt u (btt d y);go_wp2_with fail
    go_ret2
    exact⟨rfl,A⟩
   ·rw[if_neg B];have Z:decide ((1048576:Int) < (M:Int))=false:=vY (by omega);clear B;go_enter Tryz.func72, Tryz.ntmps72
    go_wp2_with fail
    rw[<-b];replace b:=qH b;refine(D.out g u).mono ?_;rintro e x ⟨rfl,d⟩;clear j l m p q s t;obtain⟨j,l,m,p,q,s,t⟩:=H.out x d;go_wp2_with fail
    refine(C.out x d).mono ?_;rintro e G ⟨rfl,y⟩;clear j l m p q s t;obtain⟨j,l,m,p,q,s,t⟩:=H.out G (btt d y);have A:=btt u (btt d y);go_wp2_with fail
    go_ret2
    exact⟨rfl,A⟩
 ·rw[if_pos O];have a4:(z != 0)=true:=by simpa using O
  clear L T E;go_enter Tryz.func72, Tryz.ntmps72
  go_wp2_with fail
  rw[<-b];replace b:=qH b;refine(D.out g u).mono ?_;rintro e x ⟨rfl,d⟩;have A:=btt u d;go_wp2_with fail
  go_ret2
  exact⟨rfl,A⟩
end Go.Proofs.YtcnedkkcgdkioaaGreat
namespace Go.Proofs.YtcnedkkcgdkioaaGreat
open Go.RowKit Go.ChangeMaps Go.MapKept Go.WideMaps
def EG (x:List Int):Value:=.agg (x.map (Value.int .i64)).toArray
def MM (x:List Int):Prop:=x.length=8/\∀y∈x,-1000000<=y/\y<=1000000
theorem mT:Maps.Keyed Tryz.prog 114:=Maps.Keyed.of_law (deep_law_gate (by kernel_rfl) (of_decide_eq_true (by kernel_rfl)) (of_decide_eq_true (by kernel_rfl)) (by kernel_rfl) (by kernel_rfl))
theorem KV {x:Int}(m:Nat) (h : -1000000<=x/\x<=1000000) : Tryz.prog.keyLits (m+1) 3 [.int .i64 x]=some [.int .i64 x]:=by
 unfold Program.keyLits;simp only[eE];rw[if_pos ⟨trivial,WalkArith.wf_i64 (by omega)⟩]
theorem mV {h a b c d:Int}(m:Nat) (g0 : -1000000<=h/\h<=1000000) (g : -1000000<=a/\a<=1000000) (i : -1000000<=b/\b<=1000000) (j : -1000000<=c/\c<=1000000) (k : -1000000<=d/\d<=1000000) :
  Tryz.prog.keyLits (m+2) 112 [.int .i64 h,.int .i64 a,.int .i64 b,.int .i64 c,.int .i64 d]=some [.int .i64 h,.int .i64 a,.int .i64 b,.int .i64 c,.int .i64 d]:=by
 have u5 : Tryz.prog.underlying 112=some (.array 5 3):=by kernel_rfl
 have f : Tryz.prog.cellsOf 112=5:=by kernel_rfl
 have e : Tryz.prog.cellsOf 3=1:=by kernel_rfl
 rw[show m+2=(m+1)+1 from rfl];conv=>lhs;unfold Program.keyLits
 simp only[u5,f,e,show List.range 5 = [0,1,2,3,4] from rfl];rw[if_pos (by rfl)];simp only[List.mapM_cons,List.mapM_nil,List.drop,List.take,Nat.mul_one];rw[KV m g0,KV m g,KV m i,KV m j,KV m k];rfl
theorem mJ {a b c h d e f g:Int}(r : -1000000<=a/\a<=1000000) (s : -1000000<=b/\b<=1000000) (t : -1000000<=c/\c<=1000000) (g0 : -1000000<=h/\h<=1000000) (n : -1000000<=d/\d<=1000000) (o : -1000000<=e/\e<=1000000) (p : -1000000<=f/\f<=1000000) (q : -1000000<=g/\g<=1000000) :
  ∃l,keyOf Tryz.prog 114 (.agg #[.int .i64 a,.int .i64 b,.int .i64 c,.int .i64 h,.int .i64 d,.int .i64 e,.int .i64 f,.int .i64 g])=some l:=by
 obtain⟨m,w⟩:=eC;have i : Tryz.prog.cellsOf 114=8:=by kernel_rfl
 have k : Tryz.prog.cellsOf 112=5:=by kernel_rfl
 have j : Tryz.prog.cellsOf 3=1:=by kernel_rfl
 have v : Tryz.prog.keyType 114=true:=by kernel_rfl
 have u:=Tryz.underlying114;refine⟨.string (keyBytes [.int .i64 a,.int .i64 b,.int .i64 c,.int .i64 h,.int .i64 d,.int .i64 e,.int .i64 f,.int .i64 g]),?_⟩;unfold keyOf;simp only[u];rw[if_pos (by simp[v,Value.formed,u,i]),w];conv=>lhs;unfold Program.keyLits
 simp only[u,i,Value.cells];rw[if_pos (by exact⟨rfl,by kernel_rfl⟩)];simp only[List.mapM_cons,List.mapM_nil,List.drop,List.take,k,j];rw[KV (m+2) r,KV (m+2) s,KV (m+2) t,mV (m+1) g0 n o p q];rfl
theorem ZR:KI Tryz.prog 114 EG MM where
 law:=mT
 has:=fun x ⟨h1,h2⟩=>by
  obtain⟨a,b,c,d,e,f,g,i,rfl⟩:=CT h1;exact mJ (h2 a (by simp)) (h2 b (by simp)) (h2 c (by simp)) (h2 d (by simp)) (h2 e (by simp)) (h2 f (by simp)) (h2 g (by simp)) (h2 i (by simp))
 inj:=fun x y _ _ h=>by
  simp only[EG,Value.agg.injEq] at h
  have h2:x.map (Value.int .i64)=y.map (Value.int .i64):=by
   have:=congrArg Array.toList h
   simpa using this
  have hinj:∀a b:Int,Value.int .i64 a=Value.int .i64 b->a=b:=fun a b e=>by injection e
  exact List.map_inj_right hinj |>.1 h2
theorem eD : Tryz.prog.underlying 138=some (.map 114 3):=by kernel_rfl
theorem vO:∀w,(zeroValue 3).run Tryz.prog w = .ok (.int .i64 0) w:=fun w=>by kernel_rfl
theorem SQ:EA Tryz.prog 30 114 (.agg #[.int .i64 0,.int .i64 0,.int .i64 0,.int .i64 0,.int .i64 0,.int .i64 0,.int .i64 0,.int .i64 0]) 8 64:=⟨by kernel_rfl,by kernel_rfl,rfl⟩
def BO (vs:Jb) (v:List Int):Jb:=if v∈vs then vs else vs ++ [v]
theorem oZ {vs:Jb}{v:List Int}(h:vs.Nodup):(BO vs v).Nodup:=by
 unfold BO;split
 ·exact h
 ·rename_i n
  rw[List.nodup_append];exact⟨h,by simp,fun a d b c e=>by rw[List.mem_singleton] at c;subst c;subst e;exact n d⟩
theorem QS {vs:Jb}{v x:List Int}:x∈BO vs v↔x∈vs\/x=v:=by
 unfold BO;split
 ·rename_i m
  exact⟨.inl,fun h=>h.elim id fun e=>by rw[e];exact m⟩
 ·rw[List.mem_append,List.mem_singleton]
theorem oY {vs:Jb}{v:List Int}:(BO vs v).length<=vs.length+1:=by
 unfold BO;split<;>simp
end Go.Proofs.YtcnedkkcgdkioaaGreat
