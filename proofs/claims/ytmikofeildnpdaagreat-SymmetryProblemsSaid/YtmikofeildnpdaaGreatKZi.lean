/- Texts of this claim, put together: RK. -/
import Derived.Test.YtmikofeildnpdaaGreatKZf
import Derived.Test.YtmikofeildnpdaaGreatKZc
import Derived.StringKeys

set_option maxRecDepth 100000
set_option maxHeartbeats 12800000
namespace Go.Proofs.YtmikofeildnpdaaGreat
open Go.RowKit Go.ChangeMaps Go.MapKept Go.WideMaps
theorem und_int : Tryz.prog.underlying 3=some (.int .i64):=by kernel_rfl
theorem typesSize:∃m,Tryz.prog.types.size=m+3:=⟨Tryz.prog.types.size - 3,by
 have:decide (2 < Tryz.prog.types.size)=true:=by kernel_rfl
 have:=of_decide_eq_true this
 omega⟩
theorem litI {x:Int}(m:Nat) (h:0≤x∧x≤1000000) : Tryz.prog.keyLits (m+1) 3 [.int .i64 x]=some [.int .i64 x]:=by
 unfold Program.keyLits;simp only[und_int];rw[if_pos ⟨trivial,WalkArith.wf_i64 (by omega)⟩]
end Go.Proofs.YtmikofeildnpdaaGreat
