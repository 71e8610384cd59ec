/- Texts of this claim, put together: NS NL NB. -/
import Derived.Test.YtcnedkkcgdkioaaGreatKBu

set_option maxRecDepth 100000
set_option maxHeartbeats 12800000
namespace Go.Proofs.YtcnedkkcgdkioaaGreat
open Go.RowKit
theorem BA {w:World}{b:Nat}{t:TypeId}{u0 u1:Value}(h:w.heap[b]? = some (.cells #[u0,u1] t)) :
  w.cell? ⟨b,0,none⟩=some u0/\w.cell? ⟨b,1,none⟩=some u1:=
 ⟨AO h rfl,AO h rfl⟩
theorem boxL3 {w:World}{b:Nat}{t:TypeId}{u0 u1 u2:Value}(h:w.heap[b]? = some (.cells #[u0,u1,u2] t)) :
  w.cell? ⟨b,0,none⟩=some u0/\w.cell? ⟨b,1,none⟩=some u1/\w.cell? ⟨b,2,none⟩=some u2:=
 ⟨AO h rfl,AO h rfl,AO h rfl⟩
theorem YS {w:World}{b:Nat}{t:TypeId}{cs:Array Value}(h:w.heap[b]? = some (.cells cs t)):w.frozen? ⟨b,0,none⟩=false/\w.frozen? ⟨b,1,none⟩=false/\w.frozen? ⟨b,2,none⟩=false:=by
 simp[World.frozen?,h]
theorem dU {w:World}{b:Nat}{t:TypeId}{y n x u0 u1 u2:Value}{G:Prop}(h:w.heap[b]? = some (.cells #[y,n,x] t))
  (k:∀W,W=(((w.setCell ⟨b,0,none⟩ u0).setCell ⟨b,1,none⟩ u1).setCell ⟨b,2,none⟩ u2)->(∀(B:Nat) (w0:World),B<=b->Below B w0 w->Below B w0 W)->AE t w W->W.heap[b]? = some (.cells #[u0,u1,u2] t)->
   W.cell? ⟨b,0,none⟩=some u0->W.cell? ⟨b,1,none⟩=some u1->W.cell? ⟨b,2,none⟩=some u2->G):G:=by
 obtain⟨c,f⟩:=AF (w.setCell ⟨b,0,none⟩ u0);have l:c.heap[b]? = some (.cells #[u0,n,x] t):=by rw[f];exact heap_setCell_same w b 0 _ t u0 h
 have s:AE t w c:=by rw[f];exact AE.trans (AE.refl t w) (AE.setCell (p:=⟨b,0,none⟩) h u0)
 have o:∀(B:Nat) (w0:World),B<=b->Below B w0 w->Below B w0 c:=fun B w0 a e=>by rw[f];exact(e).setCell (p:=⟨b,0,none⟩) a _
 obtain⟨d,g⟩:=AF (c.setCell ⟨b,1,none⟩ u1);have m:d.heap[b]? = some (.cells #[u0,u1,x] t):=by rw[g];exact heap_setCell_same c b 1 _ t u1 l
 have u:AE t w d:=by rw[g];exact AE.trans s (AE.setCell (p:=⟨b,1,none⟩) l u1)
 have q:∀(B:Nat) (w0:World),B<=b->Below B w0 w->Below B w0 d:=fun B w0 a e=>by rw[g];exact(o B w0 a e).setCell (p:=⟨b,1,none⟩) a _
 obtain⟨W2,i⟩:=AF (d.setCell ⟨b,2,none⟩ u2);have j:W2.heap[b]? = some (.cells #[u0,u1,u2] t):=by rw[i];exact heap_setCell_same d b 2 _ t u2 m
 have v:AE t w W2:=by rw[i];exact AE.trans u (AE.setCell (p:=⟨b,2,none⟩) m u2)
 have r:∀(B:Nat) (w0:World),B<=b->Below B w0 w->Below B w0 W2:=fun B w0 a e=>by rw[i];exact(q B w0 a e).setCell (p:=⟨b,2,none⟩) a _
 exact k W2 (by rw[i,g,f]) r v j (AO j rfl) (AO j rfl) (AO j rfl)
theorem tY {w:World}{b:Nat}{t:TypeId}{x0 N E D o f e x u0 u1 u2 u3 u4 u5 u6 u7:Value}{G:Prop}(h:w.heap[b]? = some (.cells #[x0,N,E,D,o,f,e,x] t))
  (k:∀W,W=((((((((w.setCell ⟨b,0,none⟩ u0).setCell ⟨b,1,none⟩ u1).setCell ⟨b,2,none⟩ u2).setCell ⟨b,3,none⟩ u3).setCell ⟨b,4,none⟩ u4).setCell ⟨b,5,none⟩ u5).setCell ⟨b,6,none⟩ u6).setCell ⟨b,7,none⟩ u7)->(∀(B:Nat) (w0:World),B<=b->Below B w0 w->Below B w0 W)->AE t w W->W.heap[b]? = some (.cells #[u0,u1,u2,u3,u4,u5,u6,u7] t)->
   W.cell? ⟨b,0,none⟩=some u0->W.cell? ⟨b,1,none⟩=some u1->W.cell? ⟨b,2,none⟩=some u2->W.cell? ⟨b,3,none⟩=some u3->W.cell? ⟨b,4,none⟩=some u4->W.cell? ⟨b,5,none⟩=some u5->W.cell? ⟨b,6,none⟩=some u6->W.cell? ⟨b,7,none⟩=some u7->G):G:=by
 obtain⟨g,r⟩:=AF (w.setCell ⟨b,0,none⟩ u0);have F:g.heap[b]? = some (.cells #[u0,N,E,D,o,f,e,x] t):=by rw[r];exact heap_setCell_same w b 0 _ t u0 h
 have X:AE t w g:=by rw[r];exact AE.trans (AE.refl t w) (AE.setCell (p:=⟨b,0,none⟩) h u0)
 have O:∀(B:Nat) (w0:World),B<=b->Below B w0 w->Below B w0 g:=fun B w0 a c=>by rw[r];exact(c).setCell (p:=⟨b,0,none⟩) a _
 obtain⟨i,s⟩:=AF (g.setCell ⟨b,1,none⟩ u1);have H:i.heap[b]? = some (.cells #[u0,u1,E,D,o,f,e,x] t):=by rw[s];exact heap_setCell_same g b 1 _ t u1 F
 have Y:AE t w i:=by rw[s];exact AE.trans X (AE.setCell (p:=⟨b,1,none⟩) F u1)
 have P:∀(B:Nat) (w0:World),B<=b->Below B w0 w->Below B w0 i:=fun B w0 a c=>by rw[s];exact(O B w0 a c).setCell (p:=⟨b,1,none⟩) a _
 obtain⟨W2,u⟩:=AF (i.setCell ⟨b,2,none⟩ u2);have I:W2.heap[b]? = some (.cells #[u0,u1,u2,D,o,f,e,x] t):=by rw[u];exact heap_setCell_same i b 2 _ t u2 H
 have Z:AE t w W2:=by rw[u];exact AE.trans Y (AE.setCell (p:=⟨b,2,none⟩) H u2)
 have Q:∀(B:Nat) (w0:World),B<=b->Below B w0 w->Below B w0 W2:=fun B w0 a c=>by rw[u];exact(P B w0 a c).setCell (p:=⟨b,2,none⟩) a _
 obtain⟨j,v⟩:=AF (W2.setCell ⟨b,3,none⟩ u3);have J:j.heap[b]? = some (.cells #[u0,u1,u2,u3,o,f,e,x] t):=by rw[v];exact heap_setCell_same W2 b 3 _ t u3 I
 have k3:AE t w j:=by rw[v];exact AE.trans Z (AE.setCell (p:=⟨b,3,none⟩) I u3)
 have R:∀(B:Nat) (w0:World),B<=b->Below B w0 w->Below B w0 j:=fun B w0 a c=>by rw[v];exact(Q B w0 a c).setCell (p:=⟨b,3,none⟩) a _
 obtain⟨l,y⟩:=AF (j.setCell ⟨b,4,none⟩ u4);have K:l.heap[b]? = some (.cells #[u0,u1,u2,u3,u4,f,e,x] t):=by rw[y];exact heap_setCell_same j b 4 _ t u4 J
 have k4:AE t w l:=by rw[y];exact AE.trans k3 (AE.setCell (p:=⟨b,4,none⟩) J u4)
 have S:∀(B:Nat) (w0:World),B<=b->Below B w0 w->Below B w0 l:=fun B w0 a c=>by rw[y];exact(R B w0 a c).setCell (p:=⟨b,4,none⟩) a _
 obtain⟨m,z⟩:=AF (l.setCell ⟨b,5,none⟩ u5);have L:m.heap[b]? = some (.cells #[u0,u1,u2,u3,u4,u5,e,x] t):=by rw[z];exact heap_setCell_same l b 5 _ t u5 K
 have k5:AE t w m:=by rw[z];exact AE.trans k4 (AE.setCell (p:=⟨b,5,none⟩) K u5)
 have T:∀(B:Nat) (w0:World),B<=b->Below B w0 w->Below B w0 m:=fun B w0 a c=>by rw[z];exact(S B w0 a c).setCell (p:=⟨b,5,none⟩) a _
 obtain⟨n,A⟩:=AF (m.setCell ⟨b,6,none⟩ u6);have M:n.heap[b]? = some (.cells #[u0,u1,u2,u3,u4,u5,u6,x] t):=by rw[A];exact heap_setCell_same m b 6 _ t u6 L
 have k6:AE t w n:=by rw[A];exact AE.trans k5 (AE.setCell (p:=⟨b,6,none⟩) L u6)
 have U:∀(B:Nat) (w0:World),B<=b->Below B w0 w->Below B w0 n:=fun B w0 a c=>by rw[A];exact(T B w0 a c).setCell (p:=⟨b,6,none⟩) a _
 obtain⟨q,C⟩:=AF (n.setCell ⟨b,7,none⟩ u7);have d:q.heap[b]? = some (.cells #[u0,u1,u2,u3,u4,u5,u6,u7] t):=by rw[C];exact heap_setCell_same n b 7 _ t u7 M
 have k7:AE t w q:=by rw[C];exact AE.trans k6 (AE.setCell (p:=⟨b,7,none⟩) M u7)
 have V:∀(B:Nat) (w0:World),B<=b->Below B w0 w->Below B w0 q:=fun B w0 a c=>by rw[C];exact(U B w0 a c).setCell (p:=⟨b,7,none⟩) a _
 exact k q (by rw[C,A,z,y,v,u,s,r]) V k7 d (AO d rfl) (AO d rfl) (AO d rfl) (AO d rfl) (AO d rfl) (AO d rfl) (AO d rfl) (AO d rfl)
def bE:List Oper:=[⟨some 43,.fieldAddr 24 (.tmp 2) 3,0,"ref.go:356",#[],none⟩,⟨some 44,.load 22 (.tmp 43),22,"ref.go:356",#[⟨0,.data⟩],none⟩,⟨some 45,.move (.tmp 5),3,"ref.go:356",#[],none⟩,⟨some 46,.indexAddr 22 (.tmp 44) (.tmp 45),0,"ref.go:356",#[⟨1,.data⟩,⟨2,.data⟩],none⟩,⟨some 47,.load 95 (.tmp 46),95,"ref.go:356",#[⟨3,.data⟩],none⟩,⟨some 48,.fieldAddr 24 (.tmp 3) 3,0,"ref.go:356",#[{ on:=12,ground:=Ground.gcOnly Departure.lateStores }],none⟩,⟨some 49,.load 22 (.tmp 48),22,"ref.go:356",#[⟨5,.data⟩,{ on:=12,ground:=Ground.gcOnly Departure.lateStores }],none⟩,⟨some 50,.move (.tmp 5),3,"ref.go:356",#[{ on:=12,ground:=Ground.gcOnly Departure.lateStores }],none⟩,⟨some 51,.indexAddr 22 (.tmp 49) (.tmp 50),0,"ref.go:356",#[⟨6,.data⟩,⟨7,.data⟩,{ on:=12,ground:=Ground.gcOnly Departure.lateStores }],none⟩,⟨some 52,.load 95 (.tmp 51),95,"ref.go:356",#[⟨8,.data⟩,{ on:=12,ground:=Ground.gcOnly Departure.lateStores }],none⟩,⟨some 6,.alloc 95,0,"ref.go:356",#[],none⟩,⟨some 7,.alloc 95,0,"ref.go:356",#[],none⟩,⟨none,.store 95 (.tmp 6) (.tmp 47),0,"ref.go:356",#[⟨10,.data⟩,⟨4,.data⟩,⟨0,.phase⟩,⟨1,.phase⟩,⟨2,.phase⟩,⟨3,.phase⟩,⟨4,.phase⟩,⟨5,.textOnly .lateStores⟩,⟨6,.textOnly .lateStores⟩,⟨7,.textOnly .lateStores⟩,⟨8,.textOnly .lateStores⟩,⟨9,.textOnly .lateStores⟩,⟨10,.phase⟩,⟨11,.phase⟩],none⟩,⟨none,.store 95 (.tmp 7) (.tmp 52),0,"ref.go:356",#[⟨11,.data⟩,⟨9,.data⟩,⟨12,.chain⟩,⟨0,.phase⟩,⟨1,.phase⟩,⟨2,.phase⟩,⟨3,.phase⟩,⟨4,.phase⟩,⟨5,.phase⟩,⟨6,.phase⟩,⟨7,.phase⟩,⟨8,.phase⟩,⟨9,.phase⟩,⟨10,.phase⟩,⟨11,.phase⟩,⟨12,.phase⟩],none⟩]
theorem rU {w:World}{x0 x1 x4 x6 x7 x8 x9 c3 c4 c5 c6 c7 c8 c9 c' d0 d1 d2 d3 d4 d5 d6 d7 d8 d9 d' e0 e1 e2 e3 e4 e5 e6 e7 e8 e9 e' f1 f2 f3 f8 f9 f' g1 g2 g3 g4 g5 g6 g7:Value}{xs:List Value}{f7:Exit->Act->World->Prop}{b2 N A B C E lx ly xc yc i:Nat}{V X Y S T U a5 a6 a7 a2 a3 a4:Nat}{O P Q Z a0 a1:Option Addr}
  (p2:w.cell? ⟨b2,3,none⟩=some (.slice (some ⟨A,B,none⟩) lx xc)) (p3:w.cell? ⟨N,3,none⟩=some (.slice (some ⟨C,E,none⟩) ly yc)) (hi:(i:Int) < (lx:Int)) (hj:(i:Int) < (ly:Int))
  (q0:w.cell? ⟨A,B+i * 3,none⟩=some (.slice O V S)) (q1:w.cell? ⟨A,B+i * 3+1,none⟩=some (.slice P X T)) (q2:w.cell? ⟨A,B+i * 3+2,none⟩=some (.slice Q Y U))
  (r0:w.cell? ⟨C,E+i * 3,none⟩=some (.slice Z a5 a2)) (r1:w.cell? ⟨C,E+i * 3+1,none⟩=some (.slice a0 a6 a3)) (r2:w.cell? ⟨C,E+i * 3+2,none⟩=some (.slice a1 a7 a4))
  (h':∀(t u _y12 _y13:Value) (W:World),(Below w.heap.size w W/\((fun i=>decide (i < 14)) 10=true->(fun i=>decide (i < 14)) 12=false->∃b,t = .pointer (some ⟨b,0,none⟩)/\w.heap.size<=b/\W.heap[b]? = some (.cells #[.slice none 0 0,.slice none 0 0,.slice none 0 0] 95))/\((fun i=>decide (i < 14)) 12=true->∃b,t = .pointer (some ⟨b,0,none⟩)/\w.heap.size<=b/\W.heap[b]? = some (.cells #[.slice O V S,.slice P X T,.slice Q Y U] 95))/\((fun i=>decide (i < 14)) 11=true->(fun i=>decide (i < 14)) 13=false->∃b,u = .pointer (some ⟨b,0,none⟩)/\w.heap.size<=b/\W.heap[b]? = some (.cells #[.slice none 0 0,.slice none 0 0,.slice none 0 0] 95))/\((fun i=>decide (i < 14)) 13=true->∃b,u = .pointer (some ⟨b,0,none⟩)/\w.heap.size<=b/\W.heap[b]? = some (.cells #[.slice Z a5 a2,.slice a0 a6 a3,.slice a1 a7 a4] 95))/\((fun i=>decide (i < 14)) 10=true->(fun i=>decide (i < 14)) 11=true->t ≠ u))->(∃b,t = .pointer (some ⟨b,0,none⟩)/\w.heap.size<=b)->(∃b,u = .pointer (some ⟨b,0,none⟩)/\w.heap.size<=b)->(True)->(True)->f7 .normal ⟨List.toArray (x0::x1::.pointer (some ⟨b2,0,none⟩)::.pointer (some ⟨N,0,none⟩)::x4::.int .i64 (i:Int)::t::u::x8::x9::c3::c4::c5::c6::c7::c8::c9::c'::d0::d1::d2::d3::d4::d5::d6::d7::d8::d9::d'::e0::e1::e2::e3::e4::e5::e6::e7::e8::e9::e'::f1::f2::f3::.pointer (some ⟨b2,3,none⟩)::.slice (some ⟨A,B,none⟩) lx xc::.int .i64 (i:Int)::.pointer (some ⟨A,B+i * 3,none⟩)::.agg #[.slice O V S,.slice P X T,.slice Q Y U]::.pointer (some ⟨N,3,none⟩)::.slice (some ⟨C,E,none⟩) ly yc::.int .i64 (i:Int)::.pointer (some ⟨C,E+i * 3,none⟩)::.agg #[.slice Z a5 a2,.slice a0 a6 a3,.slice a1 a7 a4]::xs),[]⟩ W) :
  (Code.region 6 bE.toArray true).wp Tryz.prog f7 ⟨List.toArray (x0::x1::.pointer (some ⟨b2,0,none⟩)::.pointer (some ⟨N,0,none⟩)::x4::.int .i64 (i:Int)::x6::x7::x8::x9::c3::c4::c5::c6::c7::c8::c9::c'::d0::d1::d2::d3::d4::d5::d6::d7::d8::d9::d'::e0::e1::e2::e3::e4::e5::e6::e7::e8::e9::e'::f1::f2::f3::f8::f9::f'::g1::g2::g3::g4::g5::g6::g7::xs),[]⟩ w:=by
 refine GB (l:=bE) (F:=(fun y=>⟨List.toArray (x0::x1::.pointer (some ⟨b2,0,none⟩)::.pointer (some ⟨N,0,none⟩)::x4::.int .i64 (i:Int)::y 10::y 11::x8::x9::c3::c4::c5::c6::c7::c8::c9::c'::d0::d1::d2::d3::d4::d5::d6::d7::d8::d9::d'::e0::e1::e2::e3::e4::e5::e6::e7::e8::e9::e'::f1::f2::f3::y 0::y 1::y 2::y 3::y 4::y 5::y 6::y 7::y 8::y 9::xs),[]⟩)) (Φ:=[AI (.pointer (some ⟨b2,3,none⟩)),AI (.slice (some ⟨A,B,none⟩) lx xc),AI (.int .i64 (i:Int)),AI (.pointer (some ⟨A,B+i * 3,none⟩)),AI (.agg #[.slice O V S,.slice P X T,.slice Q Y U]),AI (.pointer (some ⟨N,3,none⟩)),AI (.slice (some ⟨C,E,none⟩) ly yc),AI (.int .i64 (i:Int)),AI (.pointer (some ⟨C,E+i * 3,none⟩)),AI (.agg #[.slice Z a5 a2,.slice a0 a6 a3,.slice a1 a7 a4]),fun _ c0=>∃b,c0 = .pointer (some ⟨b,0,none⟩)/\w.heap.size<=b,fun _ c0=>∃b,c0 = .pointer (some ⟨b,0,none⟩)/\w.heap.size<=b,CM,CM]) (R:=(fun _ _=>True)) (G:=(fun D y W=>Below w.heap.size w W/\(D 10=true->D 12=false->∃b,(y 10) = .pointer (some ⟨b,0,none⟩)/\w.heap.size<=b/\W.heap[b]? = some (.cells #[.slice none 0 0,.slice none 0 0,.slice none 0 0] 95))/\(D 12=true->∃b,(y 10) = .pointer (some ⟨b,0,none⟩)/\w.heap.size<=b/\W.heap[b]? = some (.cells #[.slice O V S,.slice P X T,.slice Q Y U] 95))/\(D 11=true->D 13=false->∃b,(y 11) = .pointer (some ⟨b,0,none⟩)/\w.heap.size<=b/\W.heap[b]? = some (.cells #[.slice none 0 0,.slice none 0 0,.slice none 0 0] 95))/\(D 13=true->∃b,(y 11) = .pointer (some ⟨b,0,none⟩)/\w.heap.size<=b/\W.heap[b]? = some (.cells #[.slice Z a5 a2,.slice a0 a6 a3,.slice a1 a7 a4] 95))/\(D 10=true->D 11=true->(y 10) ≠ (y 11)))) ⟨?s0,?s1,?s2,?s3,?s4,?s5,?s6,?s7,?s8,?s9,?s10,?s11,?s12,?s13,trivial⟩ (fun i=>([f8,f9,f',g1,g2,g3,g4,g5,g6,g7,x6,x7,undef,undef]:List Value).getD i undef) (by kernel_rfl) (by kernel_rfl) ⟨sE,sE,sE,sE,sE,sE,sE,sE,sE,sE,fun _ _ _ h _=>h,fun _ _ _ h _=>h,fun _ _ _ h _=>h,fun _ _ _ h _=>h,trivial⟩ ?g0 ?gx ?fin
 case s0|s2|s5|s7=>
  refine .q0 (CE rfl) (fun _=>trivial) (fun _ _ _ h=>h) (fun _=>rfl) fun y W K f=>?_;go_simp;exact f
 case s1=>
  refine AL.mk rfl (AD 0 fun y0=>AD 10 fun t=>AD 11 fun u=>fun y D W K _ _ v d f=>?_);obtain rfl:=(v.get 0 rfl).2;dsimp [AJ] at d|-
  obtain⟨g,k,o,m,p,j⟩:=d;have g':=AC g p2;go_simp;exact f _ _ trivial ⟨g,k,o,m,p,j⟩ rfl
 case s3|s8=>
  refine .q2 (CE rfl) (fun _=>trivial) (fun _ _ _ h=>h) (fun _=>rfl) rfl (fun _ _ h=>h) (fun _ _ h=>h) fun y W K f=>?_;dsimp [AJ]
  go_simp;exact f
 case s4=>
  refine AL.mk rfl (AD 3 fun y3=>AD 10 fun t=>AD 11 fun u=>fun y D W K _ _ v d f=>?_);obtain rfl:=(v.get 3 rfl).2;dsimp [AJ] at d|-
  obtain⟨g,k,o,m,p,j⟩:=d;have h0:=AC g q0;have c1:=AC g q1;have c2:=AC g q2;go_simp;exact f _ _ trivial ⟨g,k,o,m,p,j⟩ rfl
 case s6=>
  refine AL.mk rfl (AD 5 fun y5=>AD 10 fun t=>AD 11 fun u=>fun y D W K _ _ v d f=>?_);obtain rfl:=(v.get 5 rfl).2;dsimp [AJ] at d|-
  obtain⟨g,k,o,m,p,j⟩:=d;have g':=AC g p3;go_simp;exact f _ _ trivial ⟨g,k,o,m,p,j⟩ rfl
 case s9=>
  refine AL.mk rfl (AD 8 fun y8=>AD 10 fun t=>AD 11 fun u=>fun y D W K _ _ v d f=>?_);obtain rfl:=(v.get 8 rfl).2;dsimp [AJ] at d|-
  obtain⟨g,k,o,m,p,j⟩:=d;have h0:=AC g r0;have c1:=AC g r1;have c2:=AC g r2;go_simp;exact f _ _ trivial ⟨g,k,o,m,p,j⟩ rfl
 case s10=>
  refine AL.mk rfl (AD 10 fun t=>AD 11 fun u=>fun y D W K H L _ d f=>?_);dsimp [AJ] at d|-
  obtain⟨g,k,o,m,p,j⟩:=d;have a':=(wB W.heap.size W).alloc (wC _) (.cells #[.slice none 0 0,.slice none 0 0,.slice none 0 0] 95);have I:=g.alloc g.size (.cells #[.slice none 0 0,.slice none 0 0,.slice none 0 0] 95);go_simp;refine f _ _ trivial ⟨I,fun _ _=>⟨_,rfl,g.size,wE _ _⟩,(fun h=>by have:=L 12 _ h rfl 10 (by decide);rw[H] at this;cases this),(fun r x=>by obtain⟨b,z,n,c⟩:=m r x;exact⟨b,z,n,(a'.block b (wD.1 c).1).trans c⟩),(fun h=>by obtain⟨b,z,n,c⟩:=p h;exact⟨b,z,n,(a'.block b (wD.1 c).1).trans c⟩),?_⟩ ⟨_,rfl,g.size⟩
  exact(fun r x=>by
   have hx:∃b,u = .pointer (some ⟨b,0,none⟩)/\b < W.heap.size:=by
    cases b1:D 13 with
    | false=>obtain⟨b,z,_,c⟩:=m x b1;exact⟨b,z,(wD.1 c).1⟩
    | true=>obtain⟨b,z,_,c⟩:=p b1;exact⟨b,z,(wD.1 c).1⟩
   obtain⟨b,rfl,i0⟩:=hx;intro e;injection e with e;injection e with e;injection e with e;omega)
 case s11=>
  refine AL.mk rfl (AD 10 fun t=>AD 11 fun u=>fun y D W K H L _ d f=>?_);dsimp [AJ] at d|-
  obtain⟨g,k,o,m,p,j⟩:=d;have a':=(wB W.heap.size W).alloc (wC _) (.cells #[.slice none 0 0,.slice none 0 0,.slice none 0 0] 95);have I:=g.alloc g.size (.cells #[.slice none 0 0,.slice none 0 0,.slice none 0 0] 95);go_simp;refine f _ _ trivial ⟨I,(fun r x=>by obtain⟨b,z,n,c⟩:=k r x;exact⟨b,z,n,(a'.block b (wD.1 c).1).trans c⟩),(fun h=>by obtain⟨b,z,n,c⟩:=o h;exact⟨b,z,n,(a'.block b (wD.1 c).1).trans c⟩),fun _ _=>⟨_,rfl,g.size,wE _ _⟩,(fun h=>by have:=L 13 _ h rfl 11 (by decide);rw[H] at this;cases this),?_⟩ ⟨_,rfl,g.size⟩
  exact(fun r x=>by
   have hx:∃b,t = .pointer (some ⟨b,0,none⟩)/\b < W.heap.size:=by
    cases b1:D 12 with
    | false=>obtain⟨b,z,_,c⟩:=k r b1;exact⟨b,z,(wD.1 c).1⟩
    | true=>obtain⟨b,z,_,c⟩:=o b1;exact⟨b,z,(wD.1 c).1⟩
   obtain⟨b,rfl,i0⟩:=hx;intro e;injection e with e;injection e with e;injection e with e;omega)
 case s12=>
  refine AL.mk rfl (AD 10 fun t=>AD 4 fun y4=>AD 11 fun u=>fun y D W K H L v d f=>?_);have ⟨b7,j2⟩:=v.get 10 rfl;obtain rfl:=(v.get 4 rfl).2;dsimp [AJ] at d|-
  obtain⟨g,k,o,m,p,j⟩:=d;obtain⟨b,rfl,b0,J⟩:=k b7 H;obtain⟨n0,n1,n2⟩:=boxL3 J;obtain⟨f0,h4,h5⟩:=YS J;go_simp;refine dU (u0:=.slice O V S) (u1:=.slice P X T) (u2:=.slice Q Y U) J ?_;intro W9 a9 I _ b9 _ _ _;have b3:∀a,a ≠ b->W9.heap[a]? = W.heap[a]?:=fun a M=>by rw[a9,Below.heap_setCell _ ⟨b,2,none⟩ _ a M,Below.heap_setCell _ ⟨b,1,none⟩ _ a M,Below.heap_setCell _ ⟨b,0,none⟩ _ a M]
  rw[<-a9];exact f undef W9 trivial ⟨I _ _ b0 g,(fun _ h=>absurd (show(true:Bool)=false from h) (by decide)),(fun _=>⟨b,rfl,b0,b9⟩),(fun r x=>by obtain⟨a,z,n,c⟩:=m r x;refine⟨a,z,n,(b3 a ?_).trans c⟩;rintro rfl;exact j b7 r z.symm),(fun h=>by obtain⟨a,z,n,c⟩:=p h;refine⟨a,z,n,(b3 a ?_).trans c⟩;rintro rfl;exact j b7 (L 13 _ h rfl 11 (by decide)) z.symm),j⟩ trivial
 case s13=>
  refine AL.mk rfl (AD 11 fun u=>AD 9 fun y9=>AD 10 fun t=>fun y D W K H L v d f=>?_);have ⟨b8,j3⟩:=v.get 11 rfl;obtain rfl:=(v.get 9 rfl).2;dsimp [AJ] at d|-
  obtain⟨g,k,o,m,p,j⟩:=d;obtain⟨b,rfl,b0,J⟩:=m b8 H;obtain⟨n0,n1,n2⟩:=boxL3 J;obtain⟨f0,h4,h5⟩:=YS J;go_simp;refine dU (u0:=.slice Z a5 a2) (u1:=.slice a0 a6 a3) (u2:=.slice a1 a7 a4) J ?_;intro W9 a9 I _ b9 _ _ _;have b3:∀a,a ≠ b->W9.heap[a]? = W.heap[a]?:=fun a M=>by rw[a9,Below.heap_setCell _ ⟨b,2,none⟩ _ a M,Below.heap_setCell _ ⟨b,1,none⟩ _ a M,Below.heap_setCell _ ⟨b,0,none⟩ _ a M]
  rw[<-a9];exact f undef W9 trivial ⟨I _ _ b0 g,(fun r x=>by obtain⟨a,z,n,c⟩:=k r x;refine⟨a,z,n,(b3 a ?_).trans c⟩;rintro rfl;exact j r b8 z),(fun h=>by obtain⟨a,z,n,c⟩:=o h;refine⟨a,z,n,(b3 a ?_).trans c⟩;rintro rfl;exact j (L 12 _ h rfl 10 (by decide)) b8 z),(fun _ h=>absurd (show(true:Bool)=false from h) (by decide)),(fun _=>⟨b,rfl,b0,b9⟩),j⟩ trivial
 case g0=>exact⟨wH (wB w.heap.size w) 1,(fun h=>by cases h),(fun h=>by cases h),(fun h=>by cases h),(fun h=>by cases h),(fun h=>by cases h)⟩
 case gx=>exact fun D D' y W h ⟨r,x,h3,h7,h8,h6⟩=>⟨r,fun q q'=>x ((h 10 (by decide)).trans q) ((h 12 (by decide)).trans q'),fun q=>h3 ((h 12 (by decide)).trans q),fun q q'=>h7 ((h 11 (by decide)).trans q) ((h 13 (by decide)).trans q'),fun q=>h8 ((h 13 (by decide)).trans q),fun q q'=>h6 ((h 10 (by decide)).trans q) ((h 11 (by decide)).trans q')⟩
 case fin=>
  intro y W d s;try dsimp only
  rw[(AG s 0:y 0=_),(AG s 1:y 1=_),(AG s 2:y 2=_),(AG s 3:y 3=_),(AG s 4:y 4=_),(AG s 5:y 5=_),(AG s 6:y 6=_),(AG s 7:y 7=_),(AG s 8:y 8=_),(AG s 9:y 9=_)];exact h' (y 10) (y 11) (y 12) (y 13) W d (AG s 10) (AG s 11) (AG s 12) (AG s 13)
theorem cM {w:World}{u v:Value}{xs ys:Jb}(c:BM w u xs) (d:BM w v ys) :
  Calls Tryz.prog 244 #[u,v] w fun e w'=>e = .returned (.bool (decide (xs=ys)))/\Below w.heap.size w w':=by
 have N : Tryz.prog.follows .mixedOrders=true:=by kernel_rfl
 obtain⟨xa,xc,xb,xo,rfl,F,o,X⟩:=c;obtain⟨ya,yc,yb,yo,rfl,G,r,_⟩:=d;obtain⟨B,f⟩:∃B,decide (xs=ys)=B:=⟨_,rfl⟩;rw[f];replace o:=qH o;replace r:=qH r;by_cases l:xs.length=ys.length
 ·rw[<-l];replace f:=qH f;replace l:=qH l;have A:Hid (xs.take 0=ys.take 0):=rfl;go_enter Tryz.func244, Tryz.ntmps244
  go_wp2_with fail
  go_loopw [5] (fun s wr=>∃i:Nat,s = .int .i64 (i:Int)/\i<=xs.length/\Hid (xs.take i=ys.take i)/\Hid (Below w.heap.size w wr)) (fun s _=>xs.length - (intOf s).toNat)
  case atStart=>exact⟨0,rfl,by omega,A,wB _ w⟩
  case round=>
   clear A;obtain⟨i,rfl,T,t,b⟩:=hrel;by_cases n:i < xs.length
   ·have U:(i:Int) < (xs.length:Int):=(by omega);obtain rfl:=F (by omega);obtain rfl:=G (by rw[<-l.out];omega);have E:i < ys.length:=(by rw[<-l.out];exact n);obtain⟨u0,I,j⟩:=o.out i n;obtain⟨v0,J,k⟩:=r.out i E;obtain⟨x,c⟩:=AB (xs.getD i []);obtain⟨y,d⟩:=AB (ys.getD i []);rw[c] at j;rw[d] at k;have S:=qH (fun W (h:Below wr.heap.size wr W)=>And.intro (AC (btt b.out h) I) (AC (btt b.out h) J));have H:=fun W (h:Below wr.heap.size wr W)=>NK (j.keep (btt b.out h)) (k.keep (btt b.out h));obtain⟨Z,g⟩:=AB (AH x y);simp only[g] at H;replace H:=qH H;obtain⟨xu,xv,rfl⟩:=j.shape;obtain⟨yu,yv,rfl⟩:=k.shape;clear I J j k;go_upto_region 6 with fail
    refine CW N (by kernel_rfl) ?_
    (refine WQ.step fun K a=>?_;go_simp;first|(refine a _ ?_;clear a K)|(apply Exists.intro;refine⟨fun q C=>?_,a _ ?_⟩;(·(with_reducible rfl));clear a K))
    (refine WQ.step fun K a=>?_;go_simp;first|(refine a _ ?_;clear a K)|(apply Exists.intro;refine⟨fun q C=>?_,a _ ?_⟩;(·(with_reducible rfl));clear a K))
    (refine WQ.step fun K a=>?_;go_simp;first|(refine a _ ?_;clear a K)|(apply Exists.intro;refine⟨fun q C=>?_,a _ ?_⟩;(·(go_simp;first|done|with_reducible rfl|with_reducible exact⟨rfl,rfl⟩));clear a K))
    (refine WQ.step fun K a=>?_;go_simp;first|(refine a _ ?_;clear a K)|(apply Exists.intro;refine⟨fun q C=>?_,a _ ?_⟩;(·(obtain⟨Q,R⟩:=S.out q C;go_simp;first|done|with_reducible rfl|with_reducible exact⟨rfl,rfl⟩));clear a K))
    (refine WQ.step fun K a=>?_;go_simp;first|(refine a _ ?_;clear a K)|(apply Exists.intro;refine⟨fun q C=>?_,a _ ?_⟩;(·(with_reducible rfl));clear a K))
    (refine WQ.step fun K a=>?_;go_simp;first|(refine a _ ?_;clear a K)|(apply Exists.intro;refine⟨fun q C=>?_,a _ ?_⟩;(·(with_reducible rfl));clear a K))
    (refine WQ.step fun K a=>?_;go_simp;first|(refine a _ ?_;clear a K)|(apply Exists.intro;refine⟨fun q C=>?_,a _ ?_⟩;(·(go_simp;first|done|with_reducible rfl|with_reducible exact⟨rfl,rfl⟩));clear a K))
    (refine WQ.step fun K a=>?_;go_simp;first|(refine a _ ?_;clear a K)|(apply Exists.intro;refine⟨fun q C=>?_,a _ ?_⟩;(·(obtain⟨Q,R⟩:=S.out q C;go_simp;first|done|with_reducible rfl|with_reducible exact⟨rfl,rfl⟩));clear a K))
    (refine WQ.step fun K a=>?_;go_simp;first|(refine a _ ?_;clear a K)|(apply Exists.intro;refine⟨fun q C=>?_,a _ ?_⟩;(·(refine(H.out q C).mono ?_;rintro e w' ⟨rfl,b⟩;exact⟨rfl,bt C b.below C.size⟩));clear a K))
    (refine WQ.step fun K a=>?_;go_simp;first|(refine a _ ?_;clear a K)|(apply Exists.intro;refine⟨fun q C=>?_,a _ ?_⟩;(·(go_simp;first|done|with_reducible rfl|with_reducible exact⟨rfl,rfl⟩));clear a K))
    refine WQ.nil ?_;intro P M;have D:Hid (Below w.heap.size w P):=btt b.out M;clear S H;by_cases z:Z=0
    ·subst z;have p:=cmpL_zero.1 g
     have O:Hid (xs.take (i+1)=ys.take (i+1)):=by
      show _=_;rw[BY n [],BY E [],t.out,c,d,p]
     replace c:=qH c;replace d:=qH d;replace p:=qH p;clear g t;go_wp2_with fail
     go_roundw
     case rel=>exact⟨i+1,by go_num,by omega,O,D⟩
     case measure=>simp[intOf];omega
    ·have Y:(Z != 0)=true:=by simp[z]
     have m:B=false:=by
      rw[<-f.out];refine vY fun e=>z ?_;rw[<-g,<-c,<-d,e,NZ]
     subst m;clear c d g t;go_wp2;go_ret;exact⟨rfl,D.out⟩
   ·obtain rfl:i=xs.length:=by omega
    have L:B=true:=by
     rw[<-f.out];refine vZ ?_;have:=t.out
     rwa [List.take_length,l.out,List.take_length] at this
    subst L;clear t;go_wp2;go_ret;exact⟨rfl,b.out⟩
 ·have m:B=false:=by
   rw[<-f];exact vY fun e=>l (by rw[e])
  subst m;have V:((xs.length:Int) != (ys.length:Int))=true:=by simp;omega
  clear f F G;go_enter Tryz.func244, Tryz.ntmps244
  go_wp2;go_ret;exact⟨rfl,wB _ w⟩
theorem qY {w:World}{u v:Value}{n i o:Int}{xs ys:List Cs}(m:IZ w u n i o xs) (p:IZ w v n i o ys) :
  Calls Tryz.prog 212 #[u,v] w fun e w'=>e = .returned (.bool (decide (xs=ys)))/\Below w.heap.size w w':=by
 obtain⟨su,rfl,O⟩:=m;obtain⟨sv,rfl,hv⟩:=p;have g6:xs.length<=1954687338268:=by obtain⟨_,_,_,_,_,_,_,h⟩:=O;exact h
 obtain⟨ua,uc,f3⟩:=O.shape;obtain⟨va,vc,f4⟩:=hv.shape;subst f3 f4;obtain⟨a,c⟩:=AF ((w.alloc (.cells #[.int .i64 n,.int .i64 i,.int .i64 o,.slice ua xs.length uc] 24)).alloc (.cells #[.int .i64 n,.int .i64 i,.int .i64 o,.slice va ys.length vc] 24));have b:Below w.heap.size w a:=by rw[c];exact((wB _ w).alloc (wC _) _).alloc (by simp) _
 have m2:a.heap[w.heap.size]? = some (.cells #[.int .i64 n,.int .i64 i,.int .i64 o,.slice ua xs.length uc] 24):=by rw[c];exact(Below.heap_alloc _ _ _ (by simp)).trans (wE _ _)
 have m3:a.heap[w.heap.size+1]? = some (.cells #[.int .i64 n,.int .i64 i,.int .i64 o,.slice va ys.length vc] 24):=by
  have h:=wE (w.alloc (.cells #[.int .i64 n,.int .i64 i,.int .i64 o,.slice ua xs.length uc] 24)) (.cells #[.int .i64 n,.int .i64 i,.int .i64 o,.slice va ys.length vc] 24);rw[World.size_alloc] at h;rw[c];exact h
 have L:=qH (fun W (j:Below a.heap.size a W)=>And.intro (keep4 j (box4' m2)) (keep4 j (box4' m3)));have d9:=qH (fun W (j:Below a.heap.size a W)=>(O.keep b).keep j);have d':=qH (fun W (j:Below a.heap.size a W)=>(hv.keep b).keep j);obtain⟨⟨Y,Z,p2,t⟩,q0,q1,q2,q⟩:=L.out a (wB _ _);have en:(n != n)=false:=by simp
 have ei:(i != i)=false:=by simp
 have eo:(o != o)=false:=by simp
 obtain⟨B,d⟩:∃B,decide (xs=ys)=B:=⟨_,rfl⟩;rw[d];clear O hv m2 m3;by_cases l:xs.length=ys.length
 ·rw[<-l] at q;have g4:((xs.length:Int) != (xs.length:Int))=false:=by simp
  replace d:=qH d;rw[<-l] at c L|-;replace l:=qH l;have h0:Hid (xs.take 0=ys.take 0):=rfl;go_enter Tryz.func212, Tryz.ntmps212
  go_wp2_with fail
  rw[<-c];replace c:=qH c;go_loopw [5] (fun iv wr=>∃k:Nat,iv = .int .i64 (k:Int)/\k<=xs.length/\Hid (xs.take k=ys.take k)/\Hid (Below a.heap.size a wr)) (fun iv _=>xs.length - (intOf iv).toNat)
  case atStart=>exact⟨0,rfl,Nat.zero_le _,h0,wB _ _⟩
  case round=>
   clear h0 Y Z p2 t q0 q1 q2 q;obtain⟨k,rfl,hk,N,r⟩:=hrel;obtain⟨⟨Y,Z,p2,t⟩,q0,q1,q2,q⟩:=L.out wr r.out;clear Y Z p2 q0 q1 q2;by_cases a':k < xs.length
   ·have d7:(k:Int) < (xs.length:Int):=(by omega);have d6:k < ys.length:=(by rw[<-l.out];exact a');obtain⟨xb,xo,rfl,e0⟩:=(d9.out wr r.out).at (by omega);obtain⟨yb,yo,rfl,e1⟩:=(d'.out wr r.out).at (by omega);obtain⟨u0,u1,u2,c0,c1,c2,R,S,T⟩:=e0 k a';obtain⟨v0,v1,v2,d0,d1,d2,U,V,X⟩:=e1 k d6;obtain⟨x,m⟩:=AB (xs.getD k BE);obtain⟨y,p⟩:=AB (ys.getD k BE);rw[m] at R S T;rw[p] at U V X;have f5:Hid (x=y->xs.take (k+1)=ys.take (k+1)):=fun e=>by rw[BY a' BE,BY d6 BE,N.out,m,p,e]
    have K:Hid (x ≠ y->B=false):=fun e=>by
     rw[<-d.out];refine vY fun h=>e ?_;rw[<-m,<-p,h]
    have H:=fun W (h:Below wr.heap.size wr W)=>NK (R.keep h) (U.keep h);have G:=fun W (h:Below wr.heap.size wr W)=>cM (S.keep h) (V.keep h);have I:=fun W (h:Below wr.heap.size wr W)=>cM (T.keep h) (X.keep h);obtain⟨a4,hZ⟩:=AB (AH x.1 y.1);obtain⟨P,hP⟩:∃P,decide (x.2.1=y.2.1)=P:=⟨_,rfl⟩;obtain⟨Q,hQ⟩:∃Q,decide (x.2.2=y.2.2)=Q:=⟨_,rfl⟩;simp only[hZ] at H;simp only[hP] at G;simp only[hQ] at I
    have s:x=y↔a4=0/\P=true/\Q=true:=by
     rw[<-hP,<-hQ,<-hZ,decide_eq_true_eq,decide_eq_true_eq];constructor
     ·rintro rfl;exact⟨NZ _,rfl,rfl⟩
     ·rintro⟨e5,e2,e3⟩;exact Prod.ext (cmpL_zero.1 e5) (Prod.ext e2 e3)
    replace H:=qH H;replace G:=qH G;replace I:=qH I;obtain⟨h3,h7,rfl⟩:=R.shape;obtain⟨h4,h8,rfl⟩:=S.shape;obtain⟨h5,h9,rfl⟩:=T.shape;obtain⟨i2,i6,rfl⟩:=U.shape;obtain⟨i3,i7,rfl⟩:=V.shape;obtain⟨i4,i8,rfl⟩:=X.shape;replace s:=qH s;clear m p hZ hP hQ R S T U V X e0 e1 N;go_upto_region 6 with fail
    refine rU t q d7 d7 c0 c1 c2 d0 d1 d2 ?_;intro i0 i1 _ _ J e9 _ _ _ _;obtain⟨a9,-,c8,-,c9,-⟩:=e9;obtain⟨b6,rfl,g1,k6⟩:=c8 rfl;obtain⟨b7,rfl,g2,k7⟩:=c9 rfl;have hS:=qH (fun W (h:Below J.heap.size J W)=>And.intro (boxL3 ((h.block _ (wD.1 k6).1).trans k6)) (boxL3 ((h.block _ (wD.1 k7).1).trans k7)));obtain⟨⟨z,A,C⟩,D,E,F⟩:=hS.out J (wB _ _);have f0:=btt r.out a9;clear t q c0 c1 c2 d0 d1 d2 c8 c9 k6 k7;go_wp2_with fail
    refine(H.out J a9).mono ?_;rintro e W6 ⟨rfl,d8⟩;have M:=d8.below;have d5:=btt a9 M;have c':=btt f0 M;clear z A C D E F d8;obtain⟨⟨z,A,C⟩,D,E,F⟩:=hS.out W6 M;by_cases hz:a4=0
    ·subst hz;go_wp2_with fail
     refine(G.out W6 d5).mono ?_;rintro e W7 ⟨rfl,b0⟩;have f1:=btt d5 b0;have d3:=btt c' b0;have e':=btt M b0;clear z A C D E F;obtain⟨⟨z,A,C⟩,D,E,F⟩:=hS.out W7 e';cases P with
     | true=>
      go_wp2_with fail
      refine(I.out W7 f1).mono ?_;rintro e W8 ⟨rfl,f2⟩;have d4:Hid (Below a.heap.size a W8):=btt d3 f2;clear z A C D E F;cases Q with
      | true=>
       have f6:Hid (xs.take (k+1)=ys.take (k+1)):=f5.out (s.out.2 (by simp));clear K;go_wp2_with fail
       go_roundw
       case rel=>exact⟨k+1,by go_num,by omega,f6,d4⟩
       case measure=>simp[intOf];omega
      | false=>
       have f:=K.out (fun e=>by have:=(s.out.1 e).2.2;cases this);subst f;have g:=bt b d4.out b.size;go_wp2;go_ret;exact⟨rfl,g⟩
     | false=>
      have f:=K.out (fun e=>by have:=(s.out.1 e).2.1;cases this);subst f;have g:=bt b d3 b.size;go_wp2;go_ret;exact⟨rfl,g⟩
    ·have g7:(a4 != 0)=true:=(by simp[hz]);have f:=K.out (fun e=>hz (s.out.1 e).1);subst f;have g:=bt b c' b.size;go_wp2;go_ret;exact⟨rfl,g⟩
   ·obtain rfl:k=xs.length:=by omega
    have e8:B=true:=by
     rw[<-d.out];refine vZ ?_;have:=N.out
     rwa [List.take_length,l.out,List.take_length] at this
    subst e8;have g:=bt b r.out b.size;clear N;go_wp2;go_ret;exact⟨rfl,g⟩
 ·have f:B=false:=by
   rw[<-d];exact vY fun e=>l (by rw[e])
  subst f;have g5:((xs.length:Int) != (ys.length:Int))=true:=by simp;omega
  clear d L d9 d';rw[c] at Y Z p2 t q0 q1 q2 q;go_enter Tryz.func212, Tryz.ntmps212
  go_wp2_with fail
  rw[<-c];go_ret;exact⟨rfl,b⟩
end Go.Proofs.YtcnedkkcgdkioaaGreat
