/- Texts of this claim, put together: SZ SN. -/
import Derived.Test.YtmikofeildnpdaaGreatKYza
import Derived.Test.YtmikofeildnpdaaGreatKYz

set_option maxRecDepth 100000
set_option maxHeartbeats 12800000
/- inclusion.search: the end of a round. -/
namespace Go.Proofs.YtmikofeildnpdaaGreat
open Go.RowKit Go.ChangeMaps Go.MapKept Go.WideMaps
theorem snNext {u0 u1 u2 u3 u4 u5 u6 u7 u8 u9 u11 u12 u13 u14 u15 u16 u17 u18 u19 u20 u21 u22 u23 u24 u25 u26 u27 u28 u29 u30 u31 u32 u33 u34 u35 u36 u37 u38 u39 u40 u41 u42 u43 u44 u45 u46 u47 u48 u49 u50 u51 u52 u53 u54 u55 u56 u57 u58 u59 u60 u61 u62 u63 u64 u65 u66 u67 u68 u69 u70 u71 u72 u73 u74 u75 u76 u77 u78 u79 u80 u81 u82:Value} {bi i:Nat} {W:World} {df:List Deferred} {Q:Exit→Act→World→Prop} (ki:W.heap[bi]? = some (.cells #[.int .i64 (i:Int)] 3)) (hi:i < 10000)
  (h:∀ W8,W8=W.alloc (.cells #[.int .i64 ((i:Int)+1)] 3)→Q .normal { tmps:=(List.toArray (u0::u1::u2::u3::u4::u5::u6::u7::u8::u9::(.pointer (some ⟨W.heap.size,0,none⟩))::u11::u12::u13::u14::u15::u16::u17::u18::u19::u20::u21::(.int .i64 (i:Int))::(.int .i64 ((i:Int)+1))::u24::u25::u26::u27::u28::u29::u30::u31::u32::u33::u34::u35::u36::u37::u38::u39::u40::u41::u42::u43::u44::u45::u46::u47::u48::u49::u50::u51::u52::u53::u54::u55::u56::u57::u58::u59::u60::u61::u62::u63::u64::u65::u66::u67::u68::u69::u70::u71::u72::u73::u74::u75::u76::u77::u78::u79::u80::(.int .i64 (i:Int))::u82::[])),defers:=df } W8) :
  (((Code.region 14 #[{ dst:=some 81,op:=Op.load 3 (Operand.tmp 10),type:=3,pos:= "inclusion.go:81",after:=#[],guard:=none }] false).seq (Code.region 15 #[{ dst:=some 10,op:=Op.alloc 3,type:=0,pos:= "inclusion.go:81",after:=#[],guard:=none },{ dst:=none,op:=Op.store 3 (Operand.tmp 10) (Operand.tmp 81),type:=0,pos:= "inclusion.go:81",after:=#[{ on:=0,ground:=Ground.data },{ on:=0,ground:=Ground.phase }],guard:=none }] false)).seq (Code.region 5 #[{ dst:=some 22,op:=Op.load 3 (Operand.tmp 10),type:=3,pos:= "inclusion.go:81",after:=#[],guard:=none },{ dst:=some 23,op:=Op.binOp BinOp.add 3 (Operand.tmp 22) (Operand.const (Value.int IntKind.i64 1)) 3,type:=3,pos:= "inclusion.go:81",after:=#[{ on:=0,ground:=Ground.data }],guard:=none },{ dst:=none,op:=Op.store 3 (Operand.tmp 10) (Operand.tmp 23),type:=0,pos:= "inclusion.go:81",after:=#[{ on:=1,ground:=Ground.data },{ on:=0,ground:=Ground.phase },{ on:=1,ground:=Ground.phase }],guard:=none }] false)).wp Tryz.prog Q { tmps:=(List.toArray (u0::u1::u2::u3::u4::u5::u6::u7::u8::u9::(.pointer (some ⟨bi,0,none⟩))::u11::u12::u13::u14::u15::u16::u17::u18::u19::u20::u21::u22::u23::u24::u25::u26::u27::u28::u29::u30::u31::u32::u33::u34::u35::u36::u37::u38::u39::u40::u41::u42::u43::u44::u45::u46::u47::u48::u49::u50::u51::u52::u53::u54::u55::u56::u57::u58::u59::u60::u61::u62::u63::u64::u65::u66::u67::u68::u69::u70::u71::u72::u73::u74::u75::u76::u77::u78::u79::u80::u81::u82::[])),defers:=df } W:=by
 have ci:=cell_of_one ki
 have hw:=snWrap hi
 have h8:=Lib.hid (h _ rfl)
 clear h
 have hc7:=heap_alloc_new W (.cells #[.int .i64 (i:Int)] 3)
 have cc7:=cell_of_one hc7
 have fc7:=free_of_one hc7
 go_wp2
 exact h8.out
theorem snLeave {u0 u1 u2 u3 u4 u5 u8 u9 u10 u11 u12 u13 u14 u15 u16 u17 u18 u19 u20 u21 u22 u23 u24 u25 u26 u27 u28 u29 u30 u31 u32 u33 u34 u35 u36 u37 u38 u39 u40 u41 u42 u43 u44 u45 u46 u47 u48 u49 u50 u51 u52 u53 u54 u55 u56 u57 u58 u59 u60 u61 u62 u63 u64 u65 u66 u67 u68 u69 u70 u71 u72 u73 u74 u75 u76 u77 u78 u79 u80 u81 u82:Value} {b6 b7 B:Nat} {W:World} {rs:List Nat} {lv wd:Value} {R:Ending→World→Prop} (hrs:∀ r∈rs,W.heap[r]? = some (.deferred (some []))∧B≤r) (hnd:rs.Nodup)
  (c6:W.heap[b6]? = some (.cells #[lv] 130)) (c7:W.heap[b7]? = some (.cells #[wd] 78)) (h:∀ w',Below B W w'→R (.returned (.tuple #[lv,wd])) w') :
  LeavesInM Fence.wide 0 Tryz.prog Tryz.f86 (List.toArray (u0::u1::u2::u3::u4::u5::(.pointer (some ⟨b6,0,none⟩))::(.pointer (some ⟨b7,0,none⟩))::u8::u9::u10::u11::u12::u13::u14::u15::u16::u17::u18::u19::u20::u21::u22::u23::u24::u25::u26::u27::u28::u29::u30::u31::u32::u33::u34::u35::u36::u37::u38::u39::u40::u41::u42::u43::u44::u45::u46::u47::u48::u49::u50::u51::u52::u53::u54::u55::u56::u57::u58::u59::u60::u61::u62::u63::u64::u65::u66::u67::u68::u69::u70::u71::u72::u73::u74::u75::u76::u77::u78::u79::u80::u81::u82::[])) R (rs.map colD) .returning W:=by
 refine leavesC (B:=B) rs W hrs hnd fun w' _ hk hb=>?_
 have n6:b6 ∉ rs:=fun hm=>by rw [(hrs b6 hm).1] at c6; cases c6
 have n7:b7 ∉ rs:=fun hm=>by rw [(hrs b7 hm).1] at c7; cases c7
 have e6:=cell_of_one ((hk b6 n6).trans c6)
 have e7:=cell_of_one ((hk b7 n7).trans c7)
 exact ⟨.tuple #[lv,wd],by simp [results,Tryz.results86,go_sem,e6,e7],h w' hb⟩
theorem snMarks {w wr W4 W:World} {b6 b7 b8 mbk b9 g d:Nat} {cs:Array Value} {rs:List Nat} {D0:Nat→Prop}
  (i6:w.heap.size+3≤b6∧b6≤w.heap.size+3) (i7:w.heap.size+4≤b7∧b7≤w.heap.size+4) (i8:w.heap.size+6≤b8∧b8≤w.heap.size+6) (im:w.heap.size+7≤mbk∧mbk≤w.heap.size+7) (i9:w.heap.size+8≤b9∧b9≤w.heap.size+8)
  (hcg:wr.heap[g]? = some (.cells cs 174)) (hgB:w.heap.size≤g) (hbw:Below w.heap.size w wr) (hbr4:Below wr.heap.size wr W4) (hl9:b9 < wr.heap.size)
  (hrs:∀ r∈rs,wr.heap[r]? = some (.deferred (some []))∧b9≤r) (hnd:rs.Nodup) (hD0:∀ k,D0 k↔k=b8∨k=mbk∨k=b6∨k=b7∨k=g)
  (hOn:Only (fun k=>D0 k∨k=wr.heap.size+1∨k=wr.heap.size+1+1) W4 W) (hd:W4.heap.size≤d) (hdef:W.heap[d]? = some (.deferred (some []))) :
  (∀ r∈d::rs,W.heap[r]? = some (.deferred (some []))∧b9≤r)∧(d::rs).Nodup∧Below w.heap.size w W:=by
 have z4:=hbr4.size
 have zw:=hbw.size
 have lg:=(Array.getElem?_eq_some_iff.1 hcg).1
 refine ⟨fun r hr=>?_,?_,?_⟩
 ·rcases List.mem_cons.1 hr with rfl | hr
  ·exact ⟨hdef,by omega⟩
  ·obtain ⟨h1,h2⟩:=hrs r hr
   have hrg:r ≠ g:=fun e=>by rw [e,hcg] at h1; cases h1
   have hlr:=(Array.getElem?_eq_some_iff.1 h1).1
   refine ⟨(hOn.same r (by omega) fun h=>?_).trans ((hbr4.block r hlr).trans h1),h2⟩
   rcases h with h | h | h
   ·rcases (hD0 r).1 h with h | h | h | h | h <;> omega
   ·omega
   ·omega
 ·rw [List.nodup_cons]
  exact ⟨fun hr=>by have:=(Array.getElem?_eq_some_iff.1 (hrs d hr).1).1; omega,hnd⟩
 ·refine (hbw.trans (hbr4.mono zw)).trans (hOn.below (n:=w.heap.size) (by omega) ?_)
  intro k hk
  rcases hk with hk | hk | hk
  ·rcases (hD0 k).1 hk with h | h | h | h | h <;> omega
  ·omega
  ·omega
end Go.Proofs.YtmikofeildnpdaaGreat

/- inclusion.search. -/
namespace Go.Proofs.YtmikofeildnpdaaGreat
open Go.RowKit Go.ChangeMaps Go.MapKept Go.WideMaps
attribute [local go_sem] Oper.semAt_some
theorem searchC {w:World} {u v:Value} {m n:Int} {aa bb:List (List (List Int))} (ha:AdvC w u m aa) (hb:AdvC w v n bb) (wa:WfS aa) (wb:WfS bb) (la:aa.length≤100) (lb:bb.length≤100) (ma:∀ s∈aa,s.length≤50000) (mb:∀ s∈bb,s.length≤50000) :
  Calls Tryz.prog 86 #[u,v,.func (.func 87) #[] #[]] w fun e w'=>∃ l wd,e = .returned (.tuple #[l,wd])∧((eqW aa bb∧wd = .slice none 0 0)∨(¬ eqW aa bb∧∃ p m c,wd = .slice (some p) m c∧0 < m))∧Below w.heap.size w w':=by
 obtain ⟨R,hR⟩:=esGo_some wa wb (aa.length * bb.length+1) 0 [(0,0)] ⟨by simp,fun p hp=>by rw [List.mem_singleton] at hp; subst hp; exact ⟨wa.pos,wb.pos⟩⟩ (by omega) (by simp)
 have hRe:=es_iff wb wa hR
 obtain ⟨xa,xc,xb,xo,rfl,hxa,hxs,_⟩:=ha
 obtain ⟨ya,yc,yb,yo,rfl,hya,hys,_⟩:=hb
 obtain rfl:=hxa wa.pos
 obtain rfl:=hya wb.pos
 obtain ⟨KA,hKA⟩:=exE (aa.length)
 obtain ⟨KB,hKB⟩:=exE (bb.length)
 have hmm:=@run_makeMap Tryz.prog
 have hmx : Tryz.prog.follows .mixedOrders=true:=by kernel_rfl
 obtain ⟨A1,hA1⟩:=exF (w.alloc (.cells #[.int .i64 m,.slice (some ⟨xb,xo,none⟩) aa.length xc] 24))
 have s1:A1.heap.size=w.heap.size+1:=by rw [hA1]; simp
 have l1:∀ j,j < w.heap.size+0→A1.heap[j]? = w.heap[j]?:=fun j hj=>by rw [hA1]; exact Below.heap_alloc _ _ _ (by omega)
 have n1:A1.heap[w.heap.size+0]? = some (.cells #[.int .i64 m,.slice (some ⟨xb,xo,none⟩) aa.length xc] 24):=by rw [hA1]; have:=heap_alloc_new w (.cells #[.int .i64 m,.slice (some ⟨xb,xo,none⟩) aa.length xc] 24); exact this
 obtain ⟨A2,hA2⟩:=exF (A1.alloc (.cells #[.int .i64 n,.slice (some ⟨yb,yo,none⟩) bb.length yc] 24))
 have s2:A2.heap.size=w.heap.size+2:=by rw [hA2]; simp [s1]
 have l2:∀ j,j < w.heap.size+1→A2.heap[j]? = A1.heap[j]?:=fun j hj=>by rw [hA2]; exact Below.heap_alloc _ _ _ (by omega)
 have n2:A2.heap[w.heap.size+1]? = some (.cells #[.int .i64 n,.slice (some ⟨yb,yo,none⟩) bb.length yc] 24):=by rw [hA2]; have:=heap_alloc_new A1 (.cells #[.int .i64 n,.slice (some ⟨yb,yo,none⟩) bb.length yc] 24); rwa [s1] at this
 obtain ⟨A3,hA3⟩:=exF (A2.alloc (.cells #[.func (.func 87) #[] #[]] 135))
 have s3:A3.heap.size=w.heap.size+3:=by rw [hA3]; simp [s2]
 have l3:∀ j,j < w.heap.size+2→A3.heap[j]? = A2.heap[j]?:=fun j hj=>by rw [hA3]; exact Below.heap_alloc _ _ _ (by omega)
 have n3:A3.heap[w.heap.size+2]? = some (.cells #[.func (.func 87) #[] #[]] 135):=by rw [hA3]; have:=heap_alloc_new A2 (.cells #[.func (.func 87) #[] #[]] 135); rwa [s2] at this
 obtain ⟨A4,hA4⟩:=exF (A3.alloc (.cells #[.slice none 0 0] 130))
 have s4:A4.heap.size=w.heap.size+4:=by rw [hA4]; simp [s3]
 have l4:∀ j,j < w.heap.size+3→A4.heap[j]? = A3.heap[j]?:=fun j hj=>by rw [hA4]; exact Below.heap_alloc _ _ _ (by omega)
 have n4:A4.heap[w.heap.size+3]? = some (.cells #[.slice none 0 0] 130):=by rw [hA4]; have:=heap_alloc_new A3 (.cells #[.slice none 0 0] 130); rwa [s3] at this
 obtain ⟨A5,hA5⟩:=exF (A4.alloc (.cells #[.slice none 0 0] 78))
 have s5:A5.heap.size=w.heap.size+5:=by rw [hA5]; simp [s4]
 have l5:∀ j,j < w.heap.size+4→A5.heap[j]? = A4.heap[j]?:=fun j hj=>by rw [hA5]; exact Below.heap_alloc _ _ _ (by omega)
 have n5:A5.heap[w.heap.size+4]? = some (.cells #[.slice none 0 0] 78):=by rw [hA5]; have:=heap_alloc_new A4 (.cells #[.slice none 0 0] 78); rwa [s4] at this
 obtain ⟨A6,hA6⟩:=exF (A5.alloc (.cells #[.int .i64 0,.int .i64 0,.int .i64 0,.int .i64 0,.int .i64 0,.int .i64 0,.int .i64 0,.int .i64 0,.int .i64 0,.int .i64 0] 174))
 have s6:A6.heap.size=w.heap.size+6:=by rw [hA6]; simp [s5]
 have l6:∀ j,j < w.heap.size+5→A6.heap[j]? = A5.heap[j]?:=fun j hj=>by rw [hA6]; exact Below.heap_alloc _ _ _ (by omega)
 have n6:A6.heap[w.heap.size+5]? = some (.cells #[.int .i64 0,.int .i64 0,.int .i64 0,.int .i64 0,.int .i64 0,.int .i64 0,.int .i64 0,.int .i64 0,.int .i64 0,.int .i64 0] 174):=by rw [hA6]; have:=heap_alloc_new A5 (.cells #[.int .i64 0,.int .i64 0,.int .i64 0,.int .i64 0,.int .i64 0,.int .i64 0,.int .i64 0,.int .i64 0,.int .i64 0,.int .i64 0] 174); rwa [s5] at this
 obtain ⟨A7,hA7⟩:=exF (A6.alloc (.cells #[.slice (some ⟨w.heap.size+1+1+1+1+1,0,none⟩) 1 1] 130))
 have s7:A7.heap.size=w.heap.size+7:=by rw [hA7]; simp [s6]
 have l7:∀ j,j < w.heap.size+6→A7.heap[j]? = A6.heap[j]?:=fun j hj=>by rw [hA7]; exact Below.heap_alloc _ _ _ (by omega)
 have n7:A7.heap[w.heap.size+6]? = some (.cells #[.slice (some ⟨w.heap.size+1+1+1+1+1,0,none⟩) 1 1] 130):=by rw [hA7]; have:=heap_alloc_new A6 (.cells #[.slice (some ⟨w.heap.size+1+1+1+1+1,0,none⟩) 1 1] 130); rwa [s6] at this
 have f1:A7.heap[w.heap.size+0]? = some (.cells #[.int .i64 m,.slice (some ⟨xb,xo,none⟩) aa.length xc] 24):=(l7 _ (by omega)).trans ((l6 _ (by omega)).trans ((l5 _ (by omega)).trans ((l4 _ (by omega)).trans ((l3 _ (by omega)).trans ((l2 _ (by omega)).trans (n1))))))
 have f2:A7.heap[w.heap.size+1]? = some (.cells #[.int .i64 n,.slice (some ⟨yb,yo,none⟩) bb.length yc] 24):=(l7 _ (by omega)).trans ((l6 _ (by omega)).trans ((l5 _ (by omega)).trans ((l4 _ (by omega)).trans ((l3 _ (by omega)).trans (n2)))))
 have f3:A7.heap[w.heap.size+2]? = some (.cells #[.func (.func 87) #[] #[]] 135):=(l7 _ (by omega)).trans ((l6 _ (by omega)).trans ((l5 _ (by omega)).trans ((l4 _ (by omega)).trans (n3))))
 have f4:A7.heap[w.heap.size+3]? = some (.cells #[.slice none 0 0] 130):=(l7 _ (by omega)).trans ((l6 _ (by omega)).trans ((l5 _ (by omega)).trans (n4)))
 have f5:A7.heap[w.heap.size+4]? = some (.cells #[.slice none 0 0] 78):=(l7 _ (by omega)).trans ((l6 _ (by omega)).trans (n5))
 have f6:A7.heap[w.heap.size+5]? = some (.cells #[.int .i64 0,.int .i64 0,.int .i64 0,.int .i64 0,.int .i64 0,.int .i64 0,.int .i64 0,.int .i64 0,.int .i64 0,.int .i64 0] 174):=(l7 _ (by omega)).trans (n6)
 have f7:A7.heap[w.heap.size+6]? = some (.cells #[.slice (some ⟨w.heap.size+1+1+1+1+1,0,none⟩) 1 1] 130):=n7
 have hb7:Below w.heap.size w A7:=by rw [hA7,hA6,hA5,hA4,hA3,hA2,hA1]; exact (((((((Below.refl _ w).alloc (Nat.le_refl _) _).alloc (by simp) _).alloc (by simp; omega) _).alloc (by simp; omega) _).alloc (by simp; omega) _).alloc (by simp; omega) _).alloc (by simp; omega) _
 have hSN0:SN2 (A7.alloc (.map #[] 0)) A7.heap.size []:=SN2.made A7
 obtain ⟨ob,hput,hSN1⟩:=SN2.put hSN0 (by simp) (x:=(0,0)) ⟨by omega,by omega⟩ (by simp)
 obtain ⟨W3,hW3⟩:=exF (setBlock (A7.alloc (.map #[] 0)) A7.heap.size ob)
 rw [← hW3] at hput hSN1
 have sz3:W3.heap.size=w.heap.size+8:=by rw [hW3]; simp [setBlock,s7]
 have hk3:∀ j,j < w.heap.size+7→W3.heap[j]? = A7.heap[j]?:=fun j hj=>by rw [hW3]; exact (setBlock_keep ob (by omega)).trans (Below.heap_alloc _ _ _ (by omega))
 have hb3:Below w.heap.size w W3:=by rw [hW3]; exact setBlock_below (hb7.alloc hb7.size _) hb7.size ob
 have g1:=(hk3 _ (by omega)).trans f1
 have g2:=(hk3 _ (by omega)).trans f2
 have g3:=(hk3 _ (by omega)).trans f3
 have g4:=(hk3 _ (by omega)).trans f4
 have g5:=(hk3 _ (by omega)).trans f5
 have g6:=(hk3 _ (by omega)).trans f6
 have g7:=(hk3 _ (by omega)).trans f7
 rw [s7] at hSN1
 replace hput:(Instr.mapUpdate 175 (.map (some A7.heap.size)) (.agg #[.int .i64 0,.int .i64 0]) (.bool true)).run Tryz.prog (A7.alloc (.map #[] 0)) = .ok () W3:=hput
 rw [hA7,hA6,hA5,hA4,hA3,hA2,hA1] at hput
 simp only [World.size_alloc] at hput
 clear hA1 hA2 hA3 hA4 hA5 hA6 hA7 l1 l2 l3 l4 l5 l6 l7 n1 n2 n3 n4 n5 n6 n7 f1 f2 f3 f4 f5 f6 f7 hW3 hk3 hSN0 hb7 s1 s2 s3 s4 s5 s6 s7
 refine callsIn_wide.1 (callsIn_of_wp_marks (n:=0) Tryz.func86 rfl trivial ?_)
 simp only [Tryz.ntmps86,List.size_toArray,List.length_cons,List.length_nil,Nat.reduceAdd,Nat.reduceSub,Array.replicate_succ,Array.replicate_zero,List.push_toArray,List.append_toArray,List.nil_append,List.cons_append]
 refine wpIn_wide.2 ?_
 replace hxs:=Lib.hid hxs
 replace hys:=Lib.hid hys
 replace hRe:=Lib.hid hRe
 replace hR:=Lib.hid hR
 replace hKA:=Lib.hid hKA
 replace hKB:=Lib.hid hKB
 replace sz3:=Lib.hid sz3
 go_wp2_with fail
 obtain ⟨mbk,embk⟩:=exF (w.heap.size+1+1+1+1+1+1+1)
 obtain ⟨b8,eb8⟩:=exF (w.heap.size+1+1+1+1+1+1)
 obtain ⟨br,ebr⟩:=exF (w.heap.size+1+1+1+1+1)
 obtain ⟨b7,eb7⟩:=exF (w.heap.size+1+1+1+1)
 obtain ⟨b6,eb6⟩:=exF (w.heap.size+1+1+1)
 obtain ⟨b5,eb5⟩:=exF (w.heap.size+1+1)
 obtain ⟨b4,eb4⟩:=exF (w.heap.size+1)
 obtain ⟨b9,eb9⟩:=exF (W3.heap.size)
 obtain ⟨W5,hW5⟩:=exF ((W3.alloc (.cells #[.map (some (w.heap.size+1+1+1+1+1+1+1))] 175)).alloc (.cells #[.int .i64 0] 3))
 rw [← hW5,← eb9]
 rw [← embk] at hW5 hSN1
 rw [← embk,← eb8,← ebr,← eb7,← eb6,← eb5,← eb4]
 have hs5:W5.heap.size=b9+2:=by rw [hW5,eb9]; simp
 have hk5:∀ j,j < W3.heap.size→W5.heap[j]? = W3.heap[j]?:=fun j hj=>by rw [hW5]; exact (Below.heap_alloc _ _ _ (by simp; omega)).trans (Below.heap_alloc _ _ _ hj)
 have hb5w:Below w.heap.size w W5:=by rw [hW5]; exact (hb3.alloc hb3.size _).alloc (by simp; have:=hb3.size; omega) _
 have hs3:=sz3.out
 have hb3:=(hk5 (w.heap.size+0) (by omega)).trans g1
 have hb4:=(hk5 (w.heap.size+1) (by omega)).trans g2
 rw [show w.heap.size+1=b4 by omega] at hb4
 have hb5:=(hk5 (w.heap.size+2) (by omega)).trans g3
 rw [show w.heap.size+2=b5 by omega] at hb5
 have hb6:=(hk5 (w.heap.size+3) (by omega)).trans g4
 rw [show w.heap.size+3=b6 by omega] at hb6
 have hb7:=(hk5 (w.heap.size+4) (by omega)).trans g5
 rw [show w.heap.size+4=b7 by omega] at hb7
 have hbr:=(hk5 (w.heap.size+5) (by omega)).trans g6
 rw [show w.heap.size+5=br by omega] at hbr
 have hb8:=(hk5 (w.heap.size+6) (by omega)).trans g7
 rw [show w.heap.size+6=b8 by omega] at hb8
 have hmb5:SN2 W5 mbk [(0,0)]:=hSN1.keep (hk5 mbk (by omega))
 have hb9c:W5.heap[b9]? = some (.cells #[.map (some mbk)] 175):=by rw [hW5,eb9]; exact (Below.heap_alloc _ _ _ (by simp)).trans (heap_alloc_new _ _)
 have hbi:W5.heap[b9+1]? = some (.cells #[.int .i64 ((0:Nat):Int)] 3):=by rw [hW5,eb9]; have:=heap_alloc_new (W3.alloc (.cells #[.map (some mbk)] 175)) (.cells #[.int .i64 0] 3); rwa [World.size_alloc] at this
 have hrow:OwX 174 10 EI W5 w.heap.size (.slice (some ⟨br,0,none⟩) 1 1) 1 [[0,0,0,0,0,0,0,0,0,0]]:=OwX.ofFlat ⟨rfl,.inr ⟨br,1,_,rfl,by omega,hbr,Nat.le_refl _,by decide,rfl,rfl⟩⟩ (fun x hx=>by rw [List.mem_singleton] at hx; subst hx; rfl) rfl
 have hb8:W5.heap[b8]? = some (.cells #[.slice (some ⟨br,0,none⟩) 1 1] 130):=by rw [hb8,ebr]
 obtain ⟨dOf,hdOf⟩:∃ d:Value→Nat→Prop,d=fun lv k=>k=b8∨k=mbk∨k=b6∨k=b7∨lv.ownBlock=some k:=⟨_,rfl⟩
 have hS0:SrI w.heap.size b6 b7 b8 mbk KA KB [[0,0,0,0,0,0,0,0,0,0]] [(0,0)] (.slice (some ⟨br,0,none⟩) 1 1) (dOf (.slice (some ⟨br,0,none⟩) 1 1)) W5:=⟨hb8,hrow,rfl,fun k hk h0=>by simp at hk; omega,hmb5,⟨by simp,fun p hp=>by rw [List.mem_singleton] at hp; subst hp; exact ⟨by rw [← hKA.out]; exact wa.pos,by rw [← hKB.out]; exact wb.pos⟩⟩,hb6,hb7,fun k=>by rw [hdOf]⟩
 replace hS0:=Lib.hid hS0
 have hCo:Hid (W5.heap[w.heap.size]? = some (.cells #[.int .i64 m,.slice (some ⟨xb,xo,none⟩) aa.length xc] 24)∧W5.heap[b4]? = some (.cells #[.int .i64 n,.slice (some ⟨yb,yo,none⟩) bb.length yc] 24)∧W5.heap[b5]? = some (.cells #[.func (.func 87) #[] #[]] 135)∧W5.heap[b9]? = some (.cells #[.map (some mbk)] 175)∧Below w.heap.size w W5):=⟨hb3,hb4,hb5,hb9c,hb5w⟩
 have hKK:Hid (KA * KB≤10000):=snKK (by rw [← hKA.out]; exact la) (by rw [← hKB.out]; exact lb)
 obtain ⟨K0,hK0⟩:=exE (aa.length * bb.length+1)
 rw [hK0] at hR
 have imbk:w.heap.size+7≤mbk∧mbk≤w.heap.size+7:=by omega
 have ib8:w.heap.size+6≤b8∧b8≤w.heap.size+6:=by omega
 have ibr:w.heap.size+5≤br∧br≤w.heap.size+5:=by omega
 have ib7:w.heap.size+4≤b7∧b7≤w.heap.size+4:=by omega
 have ib6:w.heap.size+3≤b6∧b6≤w.heap.size+3:=by omega
 have ib5:w.heap.size+2≤b5∧b5≤w.heap.size+2:=by omega
 have ib4:w.heap.size+1≤b4∧b4≤w.heap.size+1:=by omega
 have ib9:w.heap.size+8≤b9∧b9≤w.heap.size+8:=by omega
 replace hdOf:=Lib.hid hdOf
 clear embk eb8 ebr eb7 eb6 eb5 eb4 eb9 hs5 hs3 hk5 hb5w hb3 hb4 hb5 hb6 hb7 hb8 hbr hb9c hrow hmb5 hSN1 hput hW5 sz3 g1 g2 g3 g4 g5 g6 g7
 replace hK0:=Lib.hid hK0
 refine wp_loop (fun a W=>∃ (u11 u12 u13 u14 u15 u16 u17 u18 u19 u20 u21 u22 u23 u24 u25 u26 u27 u28 u29 u30 u31 u32 u33 u34 u35 u36 u37 u38 u39 u40 u41 u42 u43 u44 u45 u46 u47 u48 u49 u50 u51 u52 u53 u54 u55 u56 u57 u58 u59 u60 u61 u62 u63 u64 u65 u66 u67 u68 u69 u70 u71 u72 u73 u74 u75 u76 u77 u78 u79 u80 u81 u82:Value) (i bi:Nat) (rs:List Nat) (vis:List (List Int)) (Q:Pq) (lv:Value) (f:Nat),i≤vis.length∧Hid (SrI w.heap.size b6 b7 b8 mbk KA KB vis Q lv (dOf lv) W)∧Hid (esGo aa bb f i Q=some R)∧W.heap[bi]? = some (.cells #[.int .i64 (i:Int)] 3)∧b9 < bi∧Hid (∀ r∈rs,W.heap[r]? = some (.deferred (some []))∧b9≤r)∧Hid rs.Nodup∧Hid (W.heap[w.heap.size]? = some (.cells #[.int .i64 m,.slice (some ⟨xb,xo,none⟩) aa.length xc] 24)∧W.heap[b4]? = some (.cells #[.int .i64 n,.slice (some ⟨yb,yo,none⟩) bb.length yc] 24)∧W.heap[b5]? = some (.cells #[.func (.func 87) #[] #[]] 135)∧W.heap[b9]? = some (.cells #[.map (some mbk)] 175)∧Below w.heap.size w W)∧a = { tmps:=(List.toArray ((.agg #[.int .i64 m,.slice (some ⟨xb,xo,none⟩) aa.length xc])::(.agg #[.int .i64 n,.slice (some ⟨yb,yo,none⟩) bb.length yc])::(.func (.func 87) #[] #[])::(.pointer (some ⟨w.heap.size,0,none⟩))::(.pointer (some ⟨b4,0,none⟩))::(.pointer (some ⟨b5,0,none⟩))::(.pointer (some ⟨b6,0,none⟩))::(.pointer (some ⟨b7,0,none⟩))::(.pointer (some ⟨b8,0,none⟩))::(.pointer (some ⟨b9,0,none⟩))::(.pointer (some ⟨bi,0,none⟩))::u11::u12::u13::u14::u15::u16::u17::u18::u19::u20::u21::u22::u23::u24::u25::u26::u27::u28::u29::u30::u31::u32::u33::u34::u35::u36::u37::u38::u39::u40::u41::u42::u43::u44::u45::u46::u47::u48::u49::u50::u51::u52::u53::u54::u55::u56::u57::u58::u59::u60::u61::u62::u63::u64::u65::u66::u67::u68::u69::u70::u71::u72::u73::u74::u75::u76::u77::u78::u79::u80::u81::u82::[])),defers:=rs.map colD }) (fun a W=>10001 - boxN W (a.tmps.getD 10 undef)) ?_ ?_
 ·exact ⟨_,_,_,_,_,_,_,_,_,_,_,_,_,_,_,_,_,_,_,_,_,_,_,_,_,_,_,_,_,_,_,_,_,_,_,_,_,_,_,_,_,_,_,_,_,_,_,_,_,_,_,_,_,_,_,_,_,_,_,_,_,_,_,_,_,_,_,_,_,_,_,_,0,b9+1,[],_,_,_,K0,by simp,hS0,hR,hbi,by omega,fun r hr=>(by cases hr),List.nodup_nil,hCo,rfl⟩
 intro a wr hrel
 obtain ⟨u11,u12,u13,u14,u15,u16,u17,u18,u19,u20,u21,u22,hrel⟩:=hrel
 obtain ⟨u23,u24,u25,u26,u27,u28,u29,u30,u31,u32,u33,u34,hrel⟩:=hrel
 obtain ⟨u35,u36,u37,u38,u39,u40,u41,u42,u43,u44,u45,u46,hrel⟩:=hrel
 obtain ⟨u47,u48,u49,u50,u51,u52,u53,u54,u55,u56,u57,u58,hrel⟩:=hrel
 obtain ⟨u59,u60,u61,u62,u63,u64,u65,u66,u67,u68,u69,u70,hrel⟩:=hrel
 obtain ⟨u71,u72,u73,u74,u75,u76,u77,u78,u79,u80,u81,u82,hrel⟩:=hrel
 obtain ⟨i,bi,rs,vis,Q,lv,f,hi,hS,hes,hbi,hbi9,hrs,hnd,hCo,ha⟩:=hrel
 subst ha
 have hbiN:=Lib.hid (snBi ib6 ib7 ib8 imbk ib9 hbi9)
 obtain ⟨c3,c4,c5,c9,hbw⟩:=hCo.out
 obtain ⟨d30,d31⟩:=box2 c3
 obtain ⟨d40,d41⟩:=box2 c4
 have d5:=cell_of_one c5
 have d9:=cell_of_one c9
 have dbi:=cell_of_one hbi
 have hS1:=hS.out
 have d8:=cell_of_one hS1.bl
 obtain ⟨lva,lvc,hlv⟩:=hS1.row.shape
 subst hlv
 by_cases hil:i < vis.length
 ·have hili:(i:Int) < (vis.length:Int):=by omega
  obtain ⟨g,gc,hgs,hgb⟩:=hS1.row.form (by omega)
  injection hgs with hg1 hg2 hg3
  subst hg1 hg3
  have hQl:i < Q.length:=by rw [← hS1.vp.len]; exact hil
  obtain ⟨h10,hI⟩:=hS1.row.intCells hil
  obtain ⟨hv0,hv1⟩:=hS1.vp.at hQl
  obtain ⟨⟨s,t⟩,hst⟩:∃ p,Q.getD i (0,0)=p:=⟨_,rfl⟩
  rw [hst] at hv0 hv1
  have hpm:(s,t)∈Q:=by rw [← hst,getD_eq hQl]; exact List.getElem_mem hQl
  obtain ⟨hsK,htK⟩:=hS1.ok.2 _ hpm
  obtain ⟨x0,x1,x2,x3,x4,x5,x6,x7,x8,x9,hx⟩:=ten h10
  rw [hx] at hI hv0 hv1
  obtain ⟨⟨q0,q1,_⟩,_⟩:=hI.all10
  obtain rfl:x0=(s:Int):=hv0
  obtain rfl:x1=(t:Int):=hv1
  have hsA:s < aa.length:=by rw [hKA.out]; exact hsK
  have htB:t < bb.length:=by rw [hKB.out]; exact htK
  have hsAi:(s:Int) < (aa.length:Int):=by omega
  have htBi:(t:Int) < (bb.length:Int):=by omega
  obtain ⟨ux,hux,hkx⟩:=hxs.out s hsA
  obtain ⟨uy,huy,hky⟩:=hys.out t htB
  obtain ⟨f0,rfl⟩:∃ f0,f=f0+1:=by cases f with | zero=>have:=hes.out; rw [esGo] at this; cases this | succ f0=>exact ⟨f0,rfl⟩
  have hes2:=hes.out
  rw [esGo,if_pos hQl,hst] at hes2
  obtain ⟨xs,hxs2⟩:=exE (aa.getD s [])
  obtain ⟨ys,hys2⟩:=exE (bb.getD t [])
  have hxm:xs∈aa:=by rw [← hxs2,getD_eq hsA]; exact List.getElem_mem hsA
  have hym:ys∈bb:=by rw [← hys2,getD_eq htB]; exact List.getElem_mem htB
  simp only [hxs2,hys2] at hes2 hkx hky
  rw [← esSt_stp _ _ _ _ (fun m hm=>(wa.lead _ hxm m hm).1) (fun m hm=>(wb.lead _ hym m hm).1)] at hes2
  obtain ⟨kf,hkf⟩:=exE (esGo aa bb f0 (i+1))
  rw [hkf] at hes2
  replace hux:=cell_kept hbw hux
  replace huy:=cell_kept hbw huy
  obtain ⟨uxa,uxc,_,_,e1,_⟩:=id hkx
  obtain ⟨uya,uyc,_,_,e2,_⟩:=id hky
  subst e1 e2
  obtain ⟨Wp,hWp⟩:=exF (wr.alloc (.cells #[.int .i64 (s:Int),.int .i64 (t:Int)] 93))
  have hbp:Below wr.heap.size wr Wp:=by rw [hWp]; exact (Below.refl _ _).alloc (Nat.le_refl _) _
  have hcp:Wp.heap[wr.heap.size]? = some (.cells #[.int .i64 (s:Int),.int .i64 (t:Int)] 93):=by rw [hWp]; exact heap_alloc_new _ _
  have hsp:Wp.heap.size=wr.heap.size+1:=by rw [hWp]; simp
  obtain ⟨r0,r1⟩:=box2 hcp
  have p31:=cell_kept hbp d31
  have p41:=cell_kept hbp d41
  have pux:=cell_kept hbp hux
  have puy:=cell_kept hbp huy
  have hs0:(0:Int)≤(s:Int):=by omega
  have ht0:(0:Int)≤(t:Int):=by omega
  have hbih:=Lib.hid hbi
  clear hI hx h10 hes hbi
  go_wp2_with fail
  rw [← hWp]
  replace hWp:=Lib.hid hWp
  refine wp_region_qtail 12 hmx (by kernel_rfl) (by kernel_rfl) ?_ ?_
  ·rintro ⟨a,wx,h⟩
   first | exact h | (obtain ⟨_,h,_⟩:=h; cases h; done) | (obtain ⟨_,_,h,_⟩:=h; cases h; done)
  ·intro ops'
   simp only [List.take_succ_cons,List.take_zero,List.drop_succ_cons,List.drop_zero]
   repeat (quiet_step (fail))
   refine wpQuiet_nil ?_
   intro k
   obtain ⟨Wk,hWk⟩:=exF (Wp.drewN k)
   have hbk:Below wr.heap.size wr Wk:=by rw [hWk]; exact below_drewN hbp k
   have hsk:Wk.heap.size=wr.heap.size+1:=by rw [hWk]; exact hsp
   have hpk:Below Wp.heap.size Wp Wk:=by rw [hWk]; exact below_drewN (Below.refl _ _) k
   rw [← hWk]
   clear r0 r1 p31 p41 pux puy hux huy
   replace hWk:=Lib.hid hWk
   go_wp2_with fail
   refine stepsC.mono ?_
   rintro e W4 ⟨rfl,hW4⟩
   have hb4:Below Wk.heap.size Wk W4:=by rw [hW4]; exact ((Below.refl _ _).alloc (Nat.le_refl _) _).alloc (by simp) _
   have m1:W4.heap[Wk.heap.size]? = some (.cells #[.slice uxa xs.length uxc] 98):=by rw [hW4]; exact (Below.heap_alloc _ _ _ (by simp)).trans (heap_alloc_new _ _)
   have m2:W4.heap[Wk.heap.size+1]? = some (.cells #[.slice uya ys.length uyc] 98):=by rw [hW4]; have:=heap_alloc_new (Wk.alloc (.cells #[.slice uxa xs.length uxc] 98)) (.cells #[.slice uya ys.length uyc] 98); rwa [World.size_alloc] at this
   have hs4:W4.heap.size=wr.heap.size+3:=by rw [hW4]; simp [hsk]
   replace hW4:=Lib.hid hW4
   rw [hsk] at m1 m2
   rw [hsk]
   have hbr4:Below wr.heap.size wr W4:=hbk.trans (hb4.mono (by omega))
   have hw4:Below w.heap.size w W4:=hbw.trans (hbr4.mono hbw.size)
   have hbS:=hS1.bl
   have hl8:=(Array.getElem?_eq_some_iff.1 hS1.bl).1
   have hl6:=(Array.getElem?_eq_some_iff.1 hS1.r6).1
   have hl7:=(Array.getElem?_eq_some_iff.1 hS1.r7).1
   have hlm:=hS1.mp.lt
   have hlg:g < wr.heap.size:=by obtain ⟨vs,k1,_⟩:=hS1.row; exact (k1.lt g rfl).2
   have hl9:=(Array.getElem?_eq_some_iff.1 c9).1
   have hl4:=(Array.getElem?_eq_some_iff.1 c4).1
   have hl5:=(Array.getElem?_eq_some_iff.1 c5).1
   have hlbi:=(Array.getElem?_eq_some_iff.1 hbih.out).1
   have hgt:∃ cs,wr.heap[g]? = some (.cells cs 174):=by obtain ⟨vs,k1,_⟩:=hS1.row; exact ownsRow_ty k1 g rfl
   have hgb3:g ≠ w.heap.size:=fun e=>by obtain ⟨cs,h⟩:=hgt; rw [e,c3] at h; injection h with h; injection h with _ h; exact absurd h (by decide)
   have hgb4:g ≠ b4:=fun e=>by obtain ⟨cs,h⟩:=hgt; rw [e,c4] at h; injection h with h; injection h with _ h; exact absurd h (by decide)
   have hgb5:g ≠ b5:=fun e=>by obtain ⟨cs,h⟩:=hgt; rw [e,c5] at h; injection h with h; injection h with _ h; exact absurd h (by decide)
   have hgb9:g ≠ b9:=fun e=>by obtain ⟨cs,h⟩:=hgt; rw [e,c9] at h; injection h with h; injection h with _ h; exact absurd h (by decide)
   have hgbi:g ≠ bi:=fun e=>by obtain ⟨cs,h⟩:=hgt; rw [e,hbih.out] at h; injection h with h; injection h with _ h; exact absurd h (by decide)
   have hdk:∀ k,dOf (.slice (some ⟨g,0,none⟩) vis.length lvc) k↔k=b8∨k=mbk∨k=b6∨k=b7∨k=g:=fun k=>by rw [hdOf.out]; simp only [Value.ownBlock,Option.some.injEq]; constructor <;> (rintro (h | h | h | h | h) <;> simp [h])
   have hnD:Hid (∀ k,k < wr.heap.size→k ≠ b8→k ≠ mbk→k ≠ b6→k ≠ b7→k ≠ g→¬ (dOf (.slice (some ⟨g,0,none⟩) vis.length lvc) k∨k=wr.heap.size+1∨k=wr.heap.size+1+1)):=fun k h1 h2 h3 h4 h5 h6 h=>snNo (fun k=>(hdk k).1) h1 h2 h3 h4 h5 h6 h
   obtain ⟨csg,hcg⟩:=hgt
   have hgB:Hid (w.heap.size≤g):=by obtain ⟨vs,k1,_⟩:=hS1.row; exact (k1.lt g rfl).1
   go_wp2_with fail
   obtain ⟨L,hL⟩:=exE (stp xs ys)
   have hx8:∀ m∈xs,m.length=8:=fun m hm=>by obtain ⟨_,_,_,_,_,_,hc,_⟩:=hkx; obtain ⟨j,hj,rfl⟩:=List.mem_iff_getElem.1 hm; have:=(hc j hj).1; rwa [getD_eq hj] at this
   have hy8:∀ m∈ys,m.length=8:=fun m hm=>by obtain ⟨_,_,_,_,_,_,hc,_⟩:=hky; obtain ⟨j,hj,rfl⟩:=List.mem_iff_getElem.1 hm; have:=(hc j hj).1; rwa [getD_eq hj] at this
   have hL7:∀ x∈L,x.1.length=7:=fun x hx=>by rw [← hL] at hx; exact stp_len hx8 hy8 hx
   have hLb:∀ x∈L,x.2.1 < 100∧x.2.2 < 100:=fun x hx=>by rw [← hL] at hx; exact stp_lead (fun m hm=>by have:=(wa.lead _ hxm m hm).2; omega) (fun m hm=>by have:=(wb.lead _ hym m hm).2; omega) (by decide) hx
   have hLK:∀ x∈L,0≤x.2.1→0≤x.2.2→x.2.1.toNat < KA∧x.2.2.toNat < KB:=fun x hx h1 h2=>by rw [← hL] at hx; have:=stp_lead2 (fun m hm=>(wa.lead _ hxm m hm).2) (fun m hm=>(wb.lead _ hym m hm).2) (by omega) (by omega) hx; rw [← hKA.out,← hKB.out]; omega
   have hseq:=stepsSeq (w0:=W4) hw4 hkx hky m1 m2 (by have:=hbw.size; omega) (by have:=hbw.size; omega) (by omega) (by have:=ma _ hxm; have:=mb _ hym; omega)
   rw [hL] at hseq hes2
   have hS4:SrI w.heap.size b6 b7 b8 mbk KA KB vis Q (.slice (some ⟨g,0,none⟩) vis.length lvc) (dOf (.slice (some ⟨g,0,none⟩) vis.length lvc)) W4:=hS1.stable (W':=W4) fun k hk=>hbr4.block k (by rcases (hdk k).1 hk with h | h | h | h | h <;> omega)
   replace hS4:=Lib.hid hS4
   replace hes2:=Lib.hid hes2
   replace hL:=Lib.hid hL
   have hbdD:Bd (dOf (.slice (some ⟨g,0,none⟩) vis.length lvc)) W4:=fun k hk=>by rcases (hdk k).1 hk with h | h | h | h | h <;> omega
   have dn:∀ k,k < wr.heap.size→¬ (k=wr.heap.size+1∨k=wr.heap.size+1+1):=fun k hk=>by omega
   refine snRange (C:=fun k=>k < w.heap.size) (e1:=wr.heap.size+1) (e2:=wr.heap.size+1+1) hseq hS4.out hil hes2.out hKK.out hbdD (by have:=hbr4.size; have:=hbw.size; omega) (fun k hk=>by have:=hbw.size; rcases (hdk k).1 hk with h | h | h | h | h <;> constructor <;> omega) (fun k hk=>by have:=hbw.size; have hk:k < w.heap.size:=hk; omega) (fun k hk=>by rcases hk with h | h <;> omega) ((hbr4.block b5 hl5).trans c5) ((hbr4.block b9 hl9).trans c9) ((hbr4.block bi hlbi).trans hbih.out) (hnD.out b5 hl5 ?_ ?_ ?_ ?_ hgb5.symm) (hnD.out b9 hl9 ?_ ?_ ?_ ?_ hgb9.symm) (hnD.out bi hlbi hbiN.out.1 hbiN.out.2.1 hbiN.out.2.2.1 hbiN.out.2.2.2 hgbi.symm) ?_ ?_ ?_ ?_ ?_ ?_ hL7 hLb hLK ?done ?stop
   case done=>
    intro d D W vis2 Q2 lv2 hSI hiv hes3 hOn hd hdef
    have hKt:=‹∀ (a:Act) (w:World),Code.wp Tryz.prog (((Code.region 14 #[{ dst:=some 81,op:=Op.load 3 (Operand.tmp 10),type:=3,pos:= "inclusion.go:81",after:=#[],guard:=none }] false).seq (Code.region 15 #[{ dst:=some 10,op:=Op.alloc 3,type:=0,pos:= "inclusion.go:81",after:=#[],guard:=none },{ dst:=none,op:=Op.store 3 (Operand.tmp 10) (Operand.tmp 81),type:=0,pos:= "inclusion.go:81",after:=#[{ on:=0,ground:=Ground.data },{ on:=0,ground:=Ground.phase }],guard:=none }] false)).seq (Code.region 5 #[{ dst:=some 22,op:=Op.load 3 (Operand.tmp 10),type:=3,pos:= "inclusion.go:81",after:=#[],guard:=none },{ dst:=some 23,op:=Op.binOp BinOp.add 3 (Operand.tmp 22) (Operand.const (Value.int IntKind.i64 1)) 3,type:=3,pos:= "inclusion.go:81",after:=#[{ on:=0,ground:=Ground.data }],guard:=none },{ dst:=none,op:=Op.store 3 (Operand.tmp 10) (Operand.tmp 23),type:=0,pos:= "inclusion.go:81",after:=#[{ on:=1,ground:=Ground.data },{ on:=0,ground:=Ground.phase },{ on:=1,ground:=Ground.phase }],guard:=none }] false)) _ a w→_›
    refine hKt _ _ ?_
    have ki2:W.heap[bi]? = some (.cells #[.int .i64 (i:Int)] 3):=(hOn.same bi (Nat.lt_of_lt_of_le hlbi hbr4.size) (hnD.out bi hlbi hbiN.out.1 hbiN.out.2.1 hbiN.out.2.2.1 hbiN.out.2.2.2 hgbi.symm)).trans ((hbr4.block bi hlbi).trans hbih.out)
    have hQb:vis2.length≤10000:=by rw [hSI.vp.len]; exact Nat.le_trans hSI.ok.len hKK.out
    have hin:i < 10000:=Nat.lt_of_lt_of_le hiv hQb
    refine snNext ki2 hin ?_
    intro W8 hW8
    have hb8:Below W.heap.size W W8:=by rw [hW8]; exact (Below.refl _ _).alloc (Nat.le_refl _) _
    have hc8:W8.heap[W.heap.size]? = some (.cells #[.int .i64 ((i+1:Nat):Int)] 3):=by rw [show ((i+1:Nat):Int)=(i:Int)+1 by omega,hW8]; exact heap_alloc_new _ _
    obtain ⟨hSI8,hrs8,hnd8,hCo8,_⟩:=snDone ib4 ib5 ib6 ib7 ib8 imbk ib9 hdOf.out hcg hgB.out hgb3 hgb4 hgb5 hgb9 hbw hbr4 c3 c4 c5 c9 hrs.out hnd.out hdk hOn hSI hd hdef hb8
    have hbox:boxN wr (.pointer (some ⟨bi,0,none⟩))=i:=boxN_eq dbi
    have hbox8:boxN W8 (.pointer (some ⟨W.heap.size,0,none⟩))=i+1:=boxN_eq (cell_of_one hc8)
    have hrk:10001 - boxN W8 (.pointer (some ⟨W.heap.size,0,none⟩)) < 10001 - boxN wr (.pointer (some ⟨bi,0,none⟩)):=by rw [hbox,hbox8]; exact snRank hin
    have hlt9:b9 < W.heap.size:=Nat.lt_of_lt_of_le hl9 (Nat.le_trans hbr4.size hOn.size)
    exact ⟨⟨_,_,_,_,_,_,_,_,_,_,_,_,_,_,_,_,_,_,_,_,_,_,_,_,_,_,_,_,_,_,_,_,_,_,_,_,_,_,_,_,_,_,_,_,_,_,_,_,_,_,_,_,_,_,_,_,_,_,_,_,_,_,_,_,_,_,_,_,_,_,_,_,i+1,W.heap.size,d::rs,vis2,Q2,lv2,f0,hiv,hSI8,(by rw [hkf]; exact hes3),hc8,hlt9,hrs8,hnd8,hCo8,rfl⟩,hrk⟩
   case stop=>
    intro d W hRt h6 h7 hOn hd hdef
    obtain ⟨l6,x6⟩:=h6
    obtain ⟨p7,m7,c7',x7,hm7⟩:=h7
    obtain ⟨hmk,hnd2,hbW⟩:=snMarks ib6 ib7 ib8 imbk ib9 hcg hgB.out hbw hbr4 hl9 hrs.out hnd.out hdk hOn hd hdef
    refine wp_ret ?_
    refine snLeave (B:=b9) (rs:=d::rs) hmk hnd2 x6 x7 fun w' hb=>⟨_,_,rfl,.inr ⟨fun he=>?_,_,_,_,rfl,hm7⟩,hbW.trans (hb.mono (by omega))⟩
    have:=hRe.out.2 he
    rw [hRt] at this
    cases this
   all_goals omega
 ·obtain rfl:i=vis.length:=by omega
  have hQl:vis.length=Q.length:=hS1.vp.len
  have hRf:R=false:=by
   have:=hes.out
   cases f with
   | zero=>rw [esGo] at this; cases this
   | succ f=>rw [esGo,if_neg (by omega)] at this; injection this with this; exact this.symm
  have hEq:=hRe.out.1 hRf
  have x6:=cell_of_one hS1.r6
  have x7:=cell_of_one hS1.r7
  have y6:=free_of_one hS1.r6
  have y7:=free_of_one hS1.r7
  have z6:=hS1.r6
  have z7:=hS1.r7
  have hrs2:=hrs
  replace z6:=Lib.hid z6
  replace z7:=Lib.hid z7
  have h67 : ¬ b6=b7:=by omega
  have h76 : ¬ b7=b6:=by omega
  clear hS1 hS hes hRf hQl hRe hil hi c3 c4 c5 c9 d30 d31 d40 d41 d5 d9 hCo hKK hK0 hdOf hbiN hxs hys hKA hKB
  go_wp2_with fail
  have q6:=(Below.heap_setCell (wr.setCell ⟨b6,0,none⟩ (.slice lva vis.length lvc)) ⟨b7,0,none⟩ (.slice none 0 0) b6 h67).trans (one_setCell (u:=.slice lva vis.length lvc) z6.out)
  have q7:=one_setCell (u:=.slice none 0 0) ((Below.heap_setCell wr ⟨b6,0,none⟩ (.slice lva vis.length lvc) b7 h76).trans z7.out)
  refine snLeave (B:=b9) (rs:=rs) (fun r hr=>⟨?_,(hrs2.out r hr).2⟩) hnd.out q6 q7 fun w' hb=>⟨_,_,rfl,.inl ⟨hEq,rfl⟩,?_⟩
  ·have hr9:=(hrs2.out r hr).2
   exact (Below.heap_setCell _ _ _ r (by show r ≠ b7; omega)).trans ((Below.heap_setCell _ _ _ r (by show r ≠ b6; omega)).trans (hrs2.out r hr).1)
  ·exact ((hbw.setCell (p:=⟨b6,0,none⟩) (by show _≤b6; omega) _).setCell (p:=⟨b7,0,none⟩) (by show _≤b7; omega) _).trans (hb.mono (by omega))
end Go.Proofs.YtmikofeildnpdaaGreat
