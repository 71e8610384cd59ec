/- Texts of this claim, put together: Sp Wa Wc Sh Mc. -/
import Derived.Test.YtmikofeildnpdaaGreatKZa
import Derived.Ground.SlsfProg
import Derived.Ground.SlgmProg
import Derived.Shelf.SlSortCmp.WholeK
import Derived.Shelf.SlSortCmp.Whole1
import Derived.Shelf.SortM.Plain

set_option maxRecDepth 100000
set_option maxHeartbeats 12800000
namespace Go.Proofs.YtmikofeildnpdaaGreat
open Go.RowKit
def chkGo (n:Nat):List Int→List Int→Int
 | _,[]=>0
 | seen,x::r=>if x < 0∨(n:Int)≤x then 2 else if x∈seen then 7 else chkGo n (seen ++ [x]) r
def chk (xs:List Int):Int:=if xs.length < 1∨5 < xs.length then 2 else chkGo xs.length [] xs
theorem chkGo_step {xs:List Int}{k:Nat}(h:k < xs.length) :
  chkGo xs.length (xs.take k) (xs.drop k) =
   if xs.getD k 0 < 0∨(xs.length:Int)≤xs.getD k 0 then 2 else if xs.getD k 0∈xs.take k then 7 else chkGo xs.length (xs.take (k+1)) (xs.drop (k+1)):=by
 rw[drop_cons h 0,take_snoc h 0,chkGo]
theorem chkGo_end {xs:List Int}{k:Nat}(h : ¬k < xs.length):chkGo xs.length (xs.take k) (xs.drop k)=0:=by
 rw[List.drop_eq_nil_of_le (by omega),chkGo]
def sameB (xs ys:List Int):Bool:=decide (xs=ys)
def sameAllB (xs ys:List (List Int)):Bool:=decide (xs=ys)
def hasB (xs:List Int) (x:Int):Bool:=decide (x∈xs)
def cmpI (a b:Int):Int:=if a < b then -1 else if b < a then 1 else 0
def cmpL:List Int→List Int→Int
 | [],[]=>0
 | [],_::_=>-1
 | _::_,[]=>1
 | a::xs,b::ys=>if cmpI a b=0 then cmpL xs ys else cmpI a b
def idxGo (x:Int):Nat→List Int→Int
 | _,[]=>-1
 | k,y::r=>if x=y then k else idxGo x (k+1) r
def idxI (xs:List Int) (x:Int):Int:=idxGo x 0 xs
def chkAll (n:Int):List (List Int)→Int
 | []=>0
 | a::r=>if chk a ≠ 0 then chk a else if (a.length:Int) ≠ n then 22 else chkAll n r
def chkList (n:Int) (l:List (List Int)):Int:=if n < 1∨5 < n then 2 else if 1024 < l.length then 5 else chkAll n l
theorem refCheck {w:World}{v:Value}{xs:List Int}(h:Ints w v xs) :
  Calls Tryz.prog 30 #[v] w fun e w'=>e = .returned (.int .i64 (chk xs))∧Qt w w':=by
 obtain⟨a,c,b,off,rfl,ha,hc,hl⟩:=h;by_cases h1:xs.length < 1
 ·have h1':decide ((xs.length:Int) < 1)=true:=by simp;omega
  clear ha hc;go_enter Tryz.func30,Tryz.ntmps30
  go_wp2;go_ret;exact⟨by simp[chk,h1],Qt.refl _⟩
 ·have h1':decide ((xs.length:Int) < 1)=false:=by simp;omega
  by_cases h2:5 < xs.length
  ·have h2':decide (5 < (xs.length:Int))=true:=(by simp;omega);clear ha hc;go_enter Tryz.func30,Tryz.ntmps30
   go_wp2;go_ret;exact⟨by simp[chk,h2],Qt.refl _⟩
  ·have h2':decide (5 < (xs.length:Int))=false:=(by simp;omega);obtain rfl:=ha (by omega);clear ha;go_enter Tryz.func30,Tryz.ntmps30
   go_wp2;go_loopw [3] (fun i wr=>∃k:Nat,k≤xs.length∧i = .int .i64 k∧Hid (chkGo xs.length (xs.take k) (xs.drop k)=chk xs)∧Hid (Qt w wr)) (fun i _=>xs.length - (intOf i).toNat)
   case atStart=>exact⟨0,by omega,rfl,by simp[Hid,chk,h1,h2],Qt.refl _⟩
   case round=>
    obtain⟨k,hk,rfl,hg,n,rfl⟩:=hrel;by_cases hlt:k < xs.length
    ·have hck:=hc k hlt;have hst:=qH (chkGo_step hlt);go_wp2
     ·go_ret;have h:=‹xs[k] < 0∨↑xs.length≤xs[k]›;exact⟨ret_int (by rw[←hg.out,hst.out,getD_eq hlt,if_pos h]),Qt.mk' _ _⟩
     ·have h:=‹0≤xs[k]∧xs[k] < ↑xs.length›;obtain⟨wo,rfl⟩:∃wo:World,wo=w.drewN n:=⟨_,rfl⟩;go_loopw [4] (fun j wr=>∃m:Nat,m≤k∧j = .int .i64 m∧Hid (xs.getD k 0 ∉ xs.take m)∧Hid (Qt w wr)) (fun j _=>k - (intOf j).toNat)
      case atStart=>exact⟨0,by omega,rfl,by simp[Hid],⟨n,rfl⟩⟩
      case round=>
       obtain⟨m,hm,rfl,hnm,n1,rfl⟩:=hrel;by_cases hmk:m < k
       ·have hcm:=hc m (by omega);go_wp2;go_quiet (fail)
        go_wp2
        ·go_ret;have he:=‹(xs[m]?.getD 0 == xs[k])=true›;refine⟨ret_int ?_,Qt.mk2 _ _ _⟩;rw[←hg.out,hst.out,if_neg (by rw[getD_eq hlt];omega),if_pos];exact mem_take_of hlt hmk (by simpa using he)
        ·have he:=‹(xs[m]?.getD 0 == xs[k])=false›;go_roundw
         case rel=>
          refine⟨m+1,by omega,by go_num,?_,⟨_,rfl⟩⟩;have hne:xs.getD m 0 ≠ xs.getD k 0:=(by rw[getD_eq hlt];simpa using he);show xs.getD k 0 ∉ xs.take (m+1);rw[take_snoc (by omega) 0,List.mem_append,not_or];exact⟨hnm.out,by simpa using fun e=>hne e.symm⟩
         case measure=>simp[intOf];omega
       ·obtain rfl:m=k:=(by omega);go_wp2;go_roundw
        case rel=>
         refine⟨m+1,by omega,by go_num,?_,⟨_,rfl⟩⟩;show chkGo xs.length (xs.take (m+1)) (xs.drop (m+1))=chk xs;rw[←hg.out,hst.out,if_neg (by rw[getD_eq hlt];omega),if_neg hnm.out]
        case measure=>simp[intOf];omega
     ·go_ret;have h:=‹xs[k] < 0›;exact⟨ret_int (by rw[←hg.out,hst.out,getD_eq hlt,if_pos (.inl h)]),Qt.mk' _ _⟩
    ·have hst:=qH (chkGo_end hlt);go_wp2;go_ret;exact⟨ret_int (by rw[←hg.out,hst.out]),Qt.mk' _ _⟩
theorem refHas02 {w:World}{v:Value}{xs:List Int}(x:Int) (h:Ints w v xs) :
  Calls Tryz.prog 143 #[v,.int .i64 x] w fun e w'=>e = .returned (.bool (hasB xs x))∧Qt w w':=by
 obtain⟨a,c,b,off,rfl,ha,hc,hl⟩:=h;go_enter Tryz.func143,Tryz.ntmps143
 go_wp2;go_loopw [5] (fun i wr=>∃k:Nat,k≤xs.length∧i = .int .i64 k∧Hid (x ∉ xs.take k)∧Hid (Qt w wr)) (fun i _=>xs.length - (intOf i).toNat)
 case atStart=>exact⟨0,by omega,rfl,by simp[Hid],Qt.refl _⟩
 case round=>
  obtain⟨k,hk,rfl,hg,n,rfl⟩:=hrel;by_cases hlt:k < xs.length
  ·obtain rfl:=ha (by omega);have hck:=hc k hlt;clear ha hc;go_wp2
   ·go_ret;have he:=‹(xs[k] == x)=true›;refine⟨ret_bool ?_,Qt.mk' _ _⟩;simp only[hasB,true_eq_decide_iff];exact List.mem_iff_getElem.2 ⟨k,hlt,by simpa using he⟩
   ·have he:=‹(xs[k] == x)=false›;go_roundw
    case rel=>
     refine⟨k+1,by omega,by go_num,?_,⟨_,rfl⟩⟩;show x ∉ xs.take (k+1);rw[take_snoc hlt 0,List.mem_append,not_or];refine⟨hg.out,?_⟩;rw[getD_eq hlt];simp at he⊢
     exact fun e=>he e.symm
    case measure=>simp[intOf];omega
  ·clear ha hc;go_wp2;go_ret;refine⟨ret_bool ?_,Qt.mk' _ _⟩;have:=hg.out
   rw[List.take_of_length_le (by omega)] at this;simp[hasB,this]
theorem refSame {w:World}{u v:Value}{xs ys:List Int}(h:Ints w u xs) (h':Ints w v ys) :
  Calls Tryz.prog 60 #[u,v] w fun e w'=>e = .returned (.bool (sameB xs ys))∧Qt w w':=by
 obtain⟨a,c,b,off,rfl,ha,hc,hl⟩:=h;obtain⟨a',c',b',off',rfl,ha',hc',hl'⟩:=h';by_cases h1:xs.length=ys.length
 ·have h1':((xs.length:Int) != (ys.length:Int))=false:=by simp;omega
  have h1:=qH h1;go_enter Tryz.func60,Tryz.ntmps60
  go_wp2;go_loopw [5] (fun i wr=>∃k:Nat,k≤xs.length∧i = .int .i64 k∧Hid (xs.take k=ys.take k)∧Hid (Qt w wr)) (fun i _=>xs.length - (intOf i).toNat)
  case atStart=>exact⟨0,by omega,rfl,by simp[Hid],Qt.refl _⟩
  case round=>
   obtain⟨k,hk,rfl,hg,n,rfl⟩:=hrel;by_cases hlt:k < xs.length
   ·have hlt':k < ys.length:=(by have:=h1.out;omega);obtain rfl:=ha (by omega);obtain rfl:=ha' (by omega);have hck:=hc k hlt;have hck':=hc' k hlt';clear ha ha' hc hc';go_wp2;go_quiet (fail)
    go_wp2
    ·go_ret;have he:=‹(xs[k] != ys[k])=true›;refine⟨ret_bool ?_,Qt.mk2 _ _ _⟩;have he':xs[k] ≠ ys[k]:=(by simpa using he);have:xs ≠ ys:=fun e=>he' (by subst e;rfl)
     simp[sameB,this]
    ·have he:=‹(xs[k] != ys[k])=false›;go_roundw
     case rel=>
      refine⟨k+1,by omega,by go_num,?_,⟨_,rfl⟩⟩;show xs.take (k+1)=ys.take (k+1);rw[take_snoc hlt 0,take_snoc hlt' 0,hg.out,getD_eq hlt,getD_eq hlt'];have he':xs[k]=ys[k]:=(by simpa using he);rw[he']
     case measure=>simp[intOf];omega
   ·clear ha hc ha' hc';go_wp2;go_ret;refine⟨ret_bool ?_,Qt.mk' _ _⟩;have:=hg.out
    have hh:=h1.out;rw[List.take_of_length_le (by omega),List.take_of_length_le (by omega)] at this;simp[sameB,this]
 ·have h1':((xs.length:Int) != (ys.length:Int))=true:=by simp;omega
  clear ha hc ha' hc';go_enter Tryz.func60,Tryz.ntmps60
  go_wp2;go_ret;refine⟨ret_bool ?_,Qt.refl _⟩;have:xs ≠ ys:=fun e=>h1 (by rw[e])
  simp[sameB,this]
theorem refSameAll {w:World}{u v:Value}{xs ys:List (List Int)}(h:Intss w u xs) (h':Intss w v ys) :
  Calls Tryz.prog 20 #[u,v] w fun e w'=>e = .returned (.bool (sameAllB xs ys))∧Qt w w':=by
 obtain⟨a,c,b,off,rfl,ha,hc,hl⟩:=h;obtain⟨a',c',b',off',rfl,ha',hc',hl'⟩:=h';by_cases h1:xs.length=ys.length
 ·have h1':((xs.length:Int) != (ys.length:Int))=false:=by simp;omega
  have h1:=qH h1;go_enter Tryz.func20,Tryz.ntmps20
  go_wp2;go_loopw [5] (fun i wr=>∃k:Nat,k≤xs.length∧i = .int .i64 k∧Hid (xs.take k=ys.take k)∧Hid (Qt w wr)) (fun i _=>xs.length - (intOf i).toNat)
  case atStart=>exact⟨0,by omega,rfl,by simp[Hid],Qt.refl _⟩
  case round=>
   obtain⟨k,hk,rfl,hg,hq⟩:=hrel;by_cases hlt:k < xs.length
   ·have hlt':k < ys.length:=(by have:=h1.out;omega);obtain rfl:=ha (by omega);obtain rfl:=ha' (by omega);obtain⟨u1,hck,hi⟩:=hc.qt hq.out k hlt;obtain⟨u2,hck',hi'⟩:=hc'.qt hq.out k hlt';clear ha ha' hc hc'
    have hb:sameB (xs.getD k []) (ys.getD k [])=true∨sameB (xs.getD k []) (ys.getD k [])=false:=by
     cases sameB (xs.getD k []) (ys.getD k [])<;>simp
    have hcall:∀m,Calls Tryz.prog 60 #[u1,u2] (wr.drewN m) fun e w'=>e = .returned (.bool (sameB (xs.getD k []) (ys.getD k [])))∧Qt (wr.drewN m) w':=
     fun m=>refSame (hi.drew m) (hi'.drew m)
    have H:=qH hcall;clear hcall hi hi';rcases hb with hb|hb
    ·rw[hb] at H;go_wp2;go_quiet ((go_at_call 60;exact Calls.quiet_of (H.out _)))
     go_wp2;go_roundw
     case rel=>
      refine⟨k+1,by omega,by go_num,?_,hq.out.trans (Qt.mk' _ _)⟩;show xs.take (k+1)=ys.take (k+1);rw[take_snoc hlt [],take_snoc hlt' [],hg.out,of_decide_eq_true hb]
     case measure=>simp[intOf];omega
    ·rw[hb] at H;go_wp2;go_quiet ((go_at_call 60;exact Calls.quiet_of (H.out _)))
     go_wp2;go_ret;refine⟨ret_bool ?_,hq.out.trans (Qt.mk' _ _)⟩;have:xs ≠ ys:=fun e=>of_decide_eq_false hb (by subst e;rfl)
     simp[sameAllB,this]
   ·clear ha hc ha' hc';go_wp2;go_ret;refine⟨ret_bool ?_,hq.out⟩;have:=hg.out
    have hh:=h1.out;rw[List.take_of_length_le (by omega),List.take_of_length_le (by omega)] at this;simp[sameAllB,this]
 ·have h1':((xs.length:Int) != (ys.length:Int))=true:=by simp;omega
  clear ha hc ha' hc';go_enter Tryz.func20,Tryz.ntmps20
  go_wp2;go_ret;refine⟨ret_bool ?_,Qt.refl _⟩;have:xs ≠ ys:=fun e=>h1 (by rw[e])
  simp[sameAllB,this]
theorem chkAll_step {n:Int}{l:List (List Int)}{k:Nat}(h:k < l.length) {x:List Int}(hx:l.getD k []=x) :
  chkAll n (l.drop k)=if chk x ≠ 0 then chk x else if (x.length:Int) ≠ n then 22 else chkAll n (l.drop (k+1)):=by
 rw[drop_cons h [],chkAll,hx]
theorem chkAll_end {n:Int}{l:List (List Int)}{k:Nat}(h : ¬k < l.length):chkAll n (l.drop k)=0:=by
 rw[List.drop_eq_nil_of_le (by omega),chkAll]
theorem chkAll_1 {n:Int}{l:List (List Int)}{k:Nat}(h:k < l.length) {x:List Int}(hx:l.getD k []=x) {m:Nat}(hm:x.length=m) (hz:chk x=0) (hn:(m:Int)=n) :
  chkAll n (l.drop k)=chkAll n (l.drop (k+1)):=by rw[chkAll_step h hx,if_neg (fun h=>h hz),if_neg (fun h=>h (by rw[hm];exact hn))]
theorem chkAll_2 {n:Int}{l:List (List Int)}{k:Nat}(h:k < l.length) {x:List Int}(hx:l.getD k []=x) {m:Nat}(hm:x.length=m) (hz:chk x=0) (hn : ¬(m:Int)=n) :
  chkAll n (l.drop k)=22:=by rw[chkAll_step h hx,if_neg (fun h=>h hz),if_pos (by rw[hm];exact hn)]
theorem chkAll_3 {n:Int}{l:List (List Int)}{k:Nat}(h:k < l.length) {x:List Int}(hx:l.getD k []=x) (hz : ¬chk x=0) :
  chkAll n (l.drop k)=chk x:=by rw[chkAll_step h hx,if_pos hz]
end Go.Proofs.YtmikofeildnpdaaGreat
namespace Go.Proofs
open Go.Shelf
def Tryz.sortMv_ren : Go.Shelf.Ren := ⟨fun | 6 => 99 | 15 => 108 | 14 => 134 | 28 => 153 | 29 => 154 | 20 => 182 | 21 => 183 | 22 => 184 | 23 => 185 | 24 => 186 | 25 => 187 | 26 => 188 | 27 => 189 | 46 => 211 | 47 => 192 | 48 => 193 | 49 => 212 | 50 => 213 | 57 => 224 | n => n, fun | 22 => 98 | 24 => 100 | 25 => 155 | 3 => 3 | 39 => 162 | 0 => 0 | 53 => 206 | 55 => 208 | 4 => 4 | 46 => 200 | 45 => 199 | 50 => 188 | 5 => 5 | 9 => 9 | 66 => 231 | 70 => 235 | 76 => 252 | 77 => 253 | n => n, fun | n => n⟩
theorem Tryz.sortMv : Go.Proofs.SlLaysF0.n6 Tryz.prog Tryz.sortMv_ren := {
  mixed := by kernel_rfl
  f6 := ⟨Tryz.f99.name, by decide, Tryz.func99.trans (congrArg some (by kernel_rfl))⟩
  f14 := ⟨Tryz.f134.name, by decide, Tryz.func134.trans (congrArg some (by kernel_rfl))⟩
  f15 := Tryz.func108.trans (congrArg some (by kernel_rfl))
  f20 := ⟨Tryz.f182.name, by decide, Tryz.func182.trans (congrArg some (by kernel_rfl))⟩
  f21 := ⟨Tryz.f183.name, by decide, Tryz.func183.trans (congrArg some (by kernel_rfl))⟩
  f22 := ⟨Tryz.f184.name, by decide, Tryz.func184.trans (congrArg some (by kernel_rfl))⟩
  f23 := ⟨Tryz.f185.name, by decide, Tryz.func185.trans (congrArg some (by kernel_rfl))⟩
  f24 := ⟨Tryz.f186.name, by decide, Tryz.func186.trans (congrArg some (by kernel_rfl))⟩
  f25 := ⟨Tryz.f187.name, by decide, Tryz.func187.trans (congrArg some (by kernel_rfl))⟩
  f26 := ⟨Tryz.f188.name, by decide, Tryz.func188.trans (congrArg some (by kernel_rfl))⟩
  f27 := ⟨Tryz.f189.name, by decide, Tryz.func189.trans (congrArg some (by kernel_rfl))⟩
  f28 := Tryz.func153.trans (congrArg some (by kernel_rfl))
  f29 := Tryz.func154.trans (congrArg some (by kernel_rfl))
  f46 := ⟨Tryz.f211.name, by decide, Tryz.func211.trans (congrArg some (by kernel_rfl))⟩
  f47 := Tryz.func192.trans (congrArg some (by kernel_rfl))
  f48 := Tryz.func193.trans (congrArg some (by kernel_rfl))
  f49 := ⟨Tryz.f212.name, by decide, Tryz.func212.trans (congrArg some (by kernel_rfl))⟩
  f50 := ⟨Tryz.f213.name, by decide, Tryz.func213.trans (congrArg some (by kernel_rfl))⟩
  f57 := ⟨Tryz.f224.name, by decide, Tryz.func224.trans (congrArg some (by kernel_rfl))⟩
  t0 := Tryz.underlying0
  a0 := Tryz.isAgg0
  z0 := Tryz.sizeOf0
  v0 := Tryz.zeroValue0
  t3 := Tryz.underlying3
  a3 := Tryz.isAgg3
  z3 := Tryz.sizeOf3
  v3 := Tryz.zeroValue3
  t4 := Tryz.underlying4
  a4 := Tryz.isAgg4
  z4 := Tryz.sizeOf4
  v4 := Tryz.zeroValue4
  t5 := Tryz.underlying5
  a5 := Tryz.isAgg5
  z5 := Tryz.sizeOf5
  v5 := Tryz.zeroValue5
  t9 := Tryz.underlying9
  a9 := Tryz.isAgg9
  z9 := Tryz.sizeOf9
  v9 := Tryz.zeroValue9
  t22 := Tryz.underlying98
  a22 := Tryz.isAgg98
  z22 := Tryz.sizeOf98
  v22 := Tryz.zeroValue98
  t25 := Tryz.underlying155
  a25 := Tryz.isAgg155
  z25 := Tryz.sizeOf155
  v25 := Tryz.zeroValue155
  t39 := Tryz.underlying162
  a39 := Tryz.isAgg162
  z39 := Tryz.sizeOf162
  v39 := Tryz.zeroValue162
  t45 := Tryz.underlying199
  a45 := Tryz.isAgg199
  z45 := Tryz.sizeOf199
  v45 := Tryz.zeroValue199
  t46 := Tryz.underlying200
  a46 := Tryz.isAgg200
  z46 := Tryz.sizeOf200
  v46 := Tryz.zeroValue200
  t50 := Tryz.underlying188
  a50 := Tryz.isAgg188
  z50 := Tryz.sizeOf188
  v50 := Tryz.zeroValue188
  t53 := Tryz.underlying206
  a53 := Tryz.isAgg206
  z53 := Tryz.sizeOf206
  v53 := Tryz.zeroValue206
  t55 := Tryz.underlying208
  a55 := Tryz.isAgg208
  z55 := Tryz.sizeOf208
  v55 := Tryz.zeroValue208
  t66 := Tryz.underlying231
  a66 := Tryz.isAgg231
  z66 := Tryz.sizeOf231
  v66 := Tryz.zeroValue231
  t70 := Tryz.underlying235
  a70 := Tryz.isAgg235
  z70 := Tryz.sizeOf235
  v70 := Tryz.zeroValue235
  t76 := Tryz.underlying252
  a76 := Tryz.isAgg252
  z76 := Tryz.sizeOf252
  v76 := Tryz.zeroValue252
  t77 := Tryz.underlying253
  a77 := Tryz.isAgg253
  z77 := Tryz.sizeOf253
  v77 := Tryz.zeroValue253 }
def Tryz.sortCs_ren : Go.Shelf.Ren := ⟨fun | 6 => 115 | 15 => 108 | 14 => 167 | 28 => 153 | 29 => 154 | 20 => 203 | 21 => 204 | 22 => 205 | 23 => 206 | 24 => 207 | 25 => 208 | 26 => 209 | 27 => 210 | 46 => 221 | 47 => 192 | 48 => 193 | 49 => 222 | 50 => 223 | 57 => 225 | n => n, fun | 22 => 62 | 24 => 128 | 25 => 170 | 3 => 3 | 39 => 162 | 0 => 0 | 53 => 206 | 55 => 208 | 4 => 4 | 46 => 200 | 45 => 199 | 50 => 188 | 5 => 5 | 9 => 9 | 66 => 231 | 70 => 235 | 76 => 252 | 77 => 253 | n => n, fun | n => n⟩
theorem Tryz.sortCs : Go.Proofs.SlLaysF0.n6 Tryz.prog Tryz.sortCs_ren := {
  mixed := by kernel_rfl
  f6 := ⟨Tryz.f115.name, by decide, Tryz.func115.trans (congrArg some (by kernel_rfl))⟩
  f14 := ⟨Tryz.f167.name, by decide, Tryz.func167.trans (congrArg some (by kernel_rfl))⟩
  f15 := Tryz.func108.trans (congrArg some (by kernel_rfl))
  f20 := ⟨Tryz.f203.name, by decide, Tryz.func203.trans (congrArg some (by kernel_rfl))⟩
  f21 := ⟨Tryz.f204.name, by decide, Tryz.func204.trans (congrArg some (by kernel_rfl))⟩
  f22 := ⟨Tryz.f205.name, by decide, Tryz.func205.trans (congrArg some (by kernel_rfl))⟩
  f23 := ⟨Tryz.f206.name, by decide, Tryz.func206.trans (congrArg some (by kernel_rfl))⟩
  f24 := ⟨Tryz.f207.name, by decide, Tryz.func207.trans (congrArg some (by kernel_rfl))⟩
  f25 := ⟨Tryz.f208.name, by decide, Tryz.func208.trans (congrArg some (by kernel_rfl))⟩
  f26 := ⟨Tryz.f209.name, by decide, Tryz.func209.trans (congrArg some (by kernel_rfl))⟩
  f27 := ⟨Tryz.f210.name, by decide, Tryz.func210.trans (congrArg some (by kernel_rfl))⟩
  f28 := Tryz.func153.trans (congrArg some (by kernel_rfl))
  f29 := Tryz.func154.trans (congrArg some (by kernel_rfl))
  f46 := ⟨Tryz.f221.name, by decide, Tryz.func221.trans (congrArg some (by kernel_rfl))⟩
  f47 := Tryz.func192.trans (congrArg some (by kernel_rfl))
  f48 := Tryz.func193.trans (congrArg some (by kernel_rfl))
  f49 := ⟨Tryz.f222.name, by decide, Tryz.func222.trans (congrArg some (by kernel_rfl))⟩
  f50 := ⟨Tryz.f223.name, by decide, Tryz.func223.trans (congrArg some (by kernel_rfl))⟩
  f57 := ⟨Tryz.f225.name, by decide, Tryz.func225.trans (congrArg some (by kernel_rfl))⟩
  t0 := Tryz.underlying0
  a0 := Tryz.isAgg0
  z0 := Tryz.sizeOf0
  v0 := Tryz.zeroValue0
  t3 := Tryz.underlying3
  a3 := Tryz.isAgg3
  z3 := Tryz.sizeOf3
  v3 := Tryz.zeroValue3
  t4 := Tryz.underlying4
  a4 := Tryz.isAgg4
  z4 := Tryz.sizeOf4
  v4 := Tryz.zeroValue4
  t5 := Tryz.underlying5
  a5 := Tryz.isAgg5
  z5 := Tryz.sizeOf5
  v5 := Tryz.zeroValue5
  t9 := Tryz.underlying9
  a9 := Tryz.isAgg9
  z9 := Tryz.sizeOf9
  v9 := Tryz.zeroValue9
  t22 := Tryz.underlying62
  a22 := Tryz.isAgg62
  z22 := Tryz.sizeOf62
  v22 := Tryz.zeroValue62
  t25 := Tryz.underlying170
  a25 := Tryz.isAgg170
  z25 := Tryz.sizeOf170
  v25 := Tryz.zeroValue170
  t39 := Tryz.underlying162
  a39 := Tryz.isAgg162
  z39 := Tryz.sizeOf162
  v39 := Tryz.zeroValue162
  t45 := Tryz.underlying199
  a45 := Tryz.isAgg199
  z45 := Tryz.sizeOf199
  v45 := Tryz.zeroValue199
  t46 := Tryz.underlying200
  a46 := Tryz.isAgg200
  z46 := Tryz.sizeOf200
  v46 := Tryz.zeroValue200
  t50 := Tryz.underlying188
  a50 := Tryz.isAgg188
  z50 := Tryz.sizeOf188
  v50 := Tryz.zeroValue188
  t53 := Tryz.underlying206
  a53 := Tryz.isAgg206
  z53 := Tryz.sizeOf206
  v53 := Tryz.zeroValue206
  t55 := Tryz.underlying208
  a55 := Tryz.isAgg208
  z55 := Tryz.sizeOf208
  v55 := Tryz.zeroValue208
  t66 := Tryz.underlying231
  a66 := Tryz.isAgg231
  z66 := Tryz.sizeOf231
  v66 := Tryz.zeroValue231
  t70 := Tryz.underlying235
  a70 := Tryz.isAgg235
  z70 := Tryz.sizeOf235
  v70 := Tryz.zeroValue235
  t76 := Tryz.underlying252
  a76 := Tryz.isAgg252
  z76 := Tryz.sizeOf252
  v76 := Tryz.zeroValue252
  t77 := Tryz.underlying253
  a77 := Tryz.isAgg253
  z77 := Tryz.sizeOf253
  v77 := Tryz.zeroValue253 }
def Tryz.sortI_ren : Go.Shelf.Ren := ⟨fun | 5 => 61 | 8 => 108 | 7 => 107 | 19 => 153 | 20 => 154 | 10 => 144 | 11 => 145 | 12 => 146 | 13 => 147 | 14 => 148 | 15 => 149 | 16 => 150 | 17 => 151 | 18 => 152 | 30 => 191 | 31 => 192 | 32 => 193 | 33 => 194 | 34 => 195 | 35 => 163 | 40 => 217 | n => n, fun | 23 => 25 | 25 => 3 | 3 => 3 | 32 => 162 | 22 => 25 | 0 => 0 | 44 => 206 | 46 => 208 | 4 => 4 | 36 => 200 | 35 => 199 | 41 => 188 | 5 => 5 | 9 => 9 | 53 => 231 | 57 => 235 | 63 => 252 | 64 => 253 | n => n, fun | n => n⟩
theorem Tryz.sortI : Go.Proofs.SlLaysM.n5 Tryz.prog Tryz.sortI_ren := {
  mixed := by kernel_rfl
  f5 := ⟨Tryz.f61.name, by decide, Tryz.func61.trans (congrArg some (by kernel_rfl))⟩
  f7 := ⟨Tryz.f107.name, by decide, Tryz.func107.trans (congrArg some (by kernel_rfl))⟩
  f8 := Tryz.func108.trans (congrArg some (by kernel_rfl))
  f10 := ⟨Tryz.f144.name, by decide, Tryz.func144.trans (congrArg some (by kernel_rfl))⟩
  f11 := ⟨Tryz.f145.name, by decide, Tryz.func145.trans (congrArg some (by kernel_rfl))⟩
  f12 := ⟨Tryz.f146.name, by decide, Tryz.func146.trans (congrArg some (by kernel_rfl))⟩
  f13 := ⟨Tryz.f147.name, by decide, Tryz.func147.trans (congrArg some (by kernel_rfl))⟩
  f14 := ⟨Tryz.f148.name, by decide, Tryz.func148.trans (congrArg some (by kernel_rfl))⟩
  f15 := ⟨Tryz.f149.name, by decide, Tryz.func149.trans (congrArg some (by kernel_rfl))⟩
  f16 := ⟨Tryz.f150.name, by decide, Tryz.func150.trans (congrArg some (by kernel_rfl))⟩
  f17 := ⟨Tryz.f151.name, by decide, Tryz.func151.trans (congrArg some (by kernel_rfl))⟩
  f18 := ⟨Tryz.f152.name, by decide, Tryz.func152.trans (congrArg some (by kernel_rfl))⟩
  f19 := Tryz.func153.trans (congrArg some (by kernel_rfl))
  f20 := Tryz.func154.trans (congrArg some (by kernel_rfl))
  f30 := ⟨Tryz.f191.name, by decide, Tryz.func191.trans (congrArg some (by kernel_rfl))⟩
  f31 := Tryz.func192.trans (congrArg some (by kernel_rfl))
  f32 := Tryz.func193.trans (congrArg some (by kernel_rfl))
  f33 := ⟨Tryz.f194.name, by decide, Tryz.func194.trans (congrArg some (by kernel_rfl))⟩
  f34 := ⟨Tryz.f195.name, by decide, Tryz.func195.trans (congrArg some (by kernel_rfl))⟩
  f35 := ⟨Tryz.f163.name, by decide, Tryz.func163.trans (congrArg some (by kernel_rfl))⟩
  f40 := ⟨Tryz.f217.name, by decide, Tryz.func217.trans (congrArg some (by kernel_rfl))⟩
  t0 := Tryz.underlying0
  a0 := Tryz.isAgg0
  z0 := Tryz.sizeOf0
  v0 := Tryz.zeroValue0
  t3 := Tryz.underlying3
  a3 := Tryz.isAgg3
  z3 := Tryz.sizeOf3
  v3 := Tryz.zeroValue3
  t4 := Tryz.underlying4
  a4 := Tryz.isAgg4
  z4 := Tryz.sizeOf4
  v4 := Tryz.zeroValue4
  t5 := Tryz.underlying5
  a5 := Tryz.isAgg5
  z5 := Tryz.sizeOf5
  v5 := Tryz.zeroValue5
  t9 := Tryz.underlying9
  a9 := Tryz.isAgg9
  z9 := Tryz.sizeOf9
  v9 := Tryz.zeroValue9
  t22 := Tryz.underlying25
  a22 := Tryz.isAgg25
  z22 := Tryz.sizeOf25
  v22 := Tryz.zeroValue25
  t23 := Tryz.underlying25
  a23 := Tryz.isAgg25
  z23 := Tryz.sizeOf25
  v23 := Tryz.zeroValue25
  t25 := Tryz.underlying3
  a25 := Tryz.isAgg3
  z25 := Tryz.sizeOf3
  v25 := Tryz.zeroValue3
  t32 := Tryz.underlying162
  a32 := Tryz.isAgg162
  z32 := Tryz.sizeOf162
  v32 := Tryz.zeroValue162
  t35 := Tryz.underlying199
  a35 := Tryz.isAgg199
  z35 := Tryz.sizeOf199
  v35 := Tryz.zeroValue199
  t36 := Tryz.underlying200
  a36 := Tryz.isAgg200
  z36 := Tryz.sizeOf200
  v36 := Tryz.zeroValue200
  t41 := Tryz.underlying188
  a41 := Tryz.isAgg188
  z41 := Tryz.sizeOf188
  v41 := Tryz.zeroValue188
  t44 := Tryz.underlying206
  a44 := Tryz.isAgg206
  z44 := Tryz.sizeOf206
  v44 := Tryz.zeroValue206
  t46 := Tryz.underlying208
  a46 := Tryz.isAgg208
  z46 := Tryz.sizeOf208
  v46 := Tryz.zeroValue208
  t53 := Tryz.underlying231
  a53 := Tryz.isAgg231
  z53 := Tryz.sizeOf231
  v53 := Tryz.zeroValue231
  t57 := Tryz.underlying235
  a57 := Tryz.isAgg235
  z57 := Tryz.sizeOf235
  v57 := Tryz.zeroValue235
  t63 := Tryz.underlying252
  a63 := Tryz.isAgg252
  z63 := Tryz.sizeOf252
  v63 := Tryz.zeroValue252
  t64 := Tryz.underlying253
  a64 := Tryz.isAgg253
  z64 := Tryz.sizeOf253
  v64 := Tryz.zeroValue253 }
def Tryz.sortII_ren : Go.Shelf.Ren := ⟨fun | 6 => 69 | 15 => 108 | 14 => 110 | 28 => 153 | 29 => 154 | 20 => 155 | 21 => 156 | 22 => 157 | 23 => 158 | 24 => 159 | 25 => 160 | 26 => 161 | 27 => 162 | 46 => 196 | 47 => 192 | 48 => 193 | 49 => 197 | 50 => 198 | 57 => 218 | n => n, fun | 22 => 39 | 24 => 25 | 25 => 116 | 3 => 3 | 39 => 162 | 0 => 0 | 53 => 206 | 55 => 208 | 4 => 4 | 46 => 200 | 45 => 199 | 50 => 188 | 5 => 5 | 9 => 9 | 66 => 231 | 70 => 235 | 76 => 252 | 77 => 253 | n => n, fun | n => n⟩
theorem Tryz.sortII : Go.Proofs.SlLaysF.n6 Tryz.prog Tryz.sortII_ren := {
  mixed := by kernel_rfl
  f6 := ⟨Tryz.f69.name, by decide, Tryz.func69.trans (congrArg some (by kernel_rfl))⟩
  f14 := ⟨Tryz.f110.name, by decide, Tryz.func110.trans (congrArg some (by kernel_rfl))⟩
  f15 := Tryz.func108.trans (congrArg some (by kernel_rfl))
  f20 := ⟨Tryz.f155.name, by decide, Tryz.func155.trans (congrArg some (by kernel_rfl))⟩
  f21 := ⟨Tryz.f156.name, by decide, Tryz.func156.trans (congrArg some (by kernel_rfl))⟩
  f22 := ⟨Tryz.f157.name, by decide, Tryz.func157.trans (congrArg some (by kernel_rfl))⟩
  f23 := ⟨Tryz.f158.name, by decide, Tryz.func158.trans (congrArg some (by kernel_rfl))⟩
  f24 := ⟨Tryz.f159.name, by decide, Tryz.func159.trans (congrArg some (by kernel_rfl))⟩
  f25 := ⟨Tryz.f160.name, by decide, Tryz.func160.trans (congrArg some (by kernel_rfl))⟩
  f26 := ⟨Tryz.f161.name, by decide, Tryz.func161.trans (congrArg some (by kernel_rfl))⟩
  f27 := ⟨Tryz.f162.name, by decide, Tryz.func162.trans (congrArg some (by kernel_rfl))⟩
  f28 := Tryz.func153.trans (congrArg some (by kernel_rfl))
  f29 := Tryz.func154.trans (congrArg some (by kernel_rfl))
  f46 := ⟨Tryz.f196.name, by decide, Tryz.func196.trans (congrArg some (by kernel_rfl))⟩
  f47 := Tryz.func192.trans (congrArg some (by kernel_rfl))
  f48 := Tryz.func193.trans (congrArg some (by kernel_rfl))
  f49 := ⟨Tryz.f197.name, by decide, Tryz.func197.trans (congrArg some (by kernel_rfl))⟩
  f50 := ⟨Tryz.f198.name, by decide, Tryz.func198.trans (congrArg some (by kernel_rfl))⟩
  f57 := ⟨Tryz.f218.name, by decide, Tryz.func218.trans (congrArg some (by kernel_rfl))⟩
  t0 := Tryz.underlying0
  a0 := Tryz.isAgg0
  z0 := Tryz.sizeOf0
  v0 := Tryz.zeroValue0
  t3 := Tryz.underlying3
  a3 := Tryz.isAgg3
  z3 := Tryz.sizeOf3
  v3 := Tryz.zeroValue3
  t4 := Tryz.underlying4
  a4 := Tryz.isAgg4
  z4 := Tryz.sizeOf4
  v4 := Tryz.zeroValue4
  t5 := Tryz.underlying5
  a5 := Tryz.isAgg5
  z5 := Tryz.sizeOf5
  v5 := Tryz.zeroValue5
  t9 := Tryz.underlying9
  a9 := Tryz.isAgg9
  z9 := Tryz.sizeOf9
  v9 := Tryz.zeroValue9
  t22 := Tryz.underlying39
  a22 := Tryz.isAgg39
  z22 := Tryz.sizeOf39
  v22 := Tryz.zeroValue39
  a24 := Tryz.isAgg25
  z24 := Tryz.sizeOf25
  t25 := Tryz.underlying116
  a25 := Tryz.isAgg116
  z25 := Tryz.sizeOf116
  v25 := Tryz.zeroValue116
  t39 := Tryz.underlying162
  a39 := Tryz.isAgg162
  z39 := Tryz.sizeOf162
  v39 := Tryz.zeroValue162
  t45 := Tryz.underlying199
  a45 := Tryz.isAgg199
  z45 := Tryz.sizeOf199
  v45 := Tryz.zeroValue199
  t46 := Tryz.underlying200
  a46 := Tryz.isAgg200
  z46 := Tryz.sizeOf200
  v46 := Tryz.zeroValue200
  t50 := Tryz.underlying188
  a50 := Tryz.isAgg188
  z50 := Tryz.sizeOf188
  v50 := Tryz.zeroValue188
  t53 := Tryz.underlying206
  a53 := Tryz.isAgg206
  z53 := Tryz.sizeOf206
  v53 := Tryz.zeroValue206
  t55 := Tryz.underlying208
  a55 := Tryz.isAgg208
  z55 := Tryz.sizeOf208
  v55 := Tryz.zeroValue208
  t66 := Tryz.underlying231
  a66 := Tryz.isAgg231
  z66 := Tryz.sizeOf231
  v66 := Tryz.zeroValue231
  t70 := Tryz.underlying235
  a70 := Tryz.isAgg235
  z70 := Tryz.sizeOf235
  v70 := Tryz.zeroValue235
  t76 := Tryz.underlying252
  a76 := Tryz.isAgg252
  z76 := Tryz.sizeOf252
  v76 := Tryz.zeroValue252
  t77 := Tryz.underlying253
  a77 := Tryz.isAgg253
  z77 := Tryz.sizeOf253
  v77 := Tryz.zeroValue253 }
end Go.Proofs
namespace Go.Proofs.YtmikofeildnpdaaGreat
open Go.RowKit
def popI (x:Int):Int:=x % 2+x / 2 % 2+x / 4 % 2+x / 8 % 2+x / 16 % 2
end Go.Proofs.YtmikofeildnpdaaGreat
