/- Generate. -/
import Derived.Test.YtpjlaaldepfnkaaDoorGc
import Derived.Test.YtpjlaaldepfnkaaDoorPd
namespace Go.Proofs.YtpjlaaldepfnkaaDoor
open Go.RowKit

theorem generate {w : World} {v : Value} {l : List (List Int)} (n : Int) (h : Intss w v l) : Calls Tryd.prog 27 #[.int .i64 n, v] w (RII w (genR n l) (chkList n l)) := by
  by_cases hz : chkList n l = 0
  · obtain ⟨hn, hl, hP⟩ := chkList_ok hz
    obtain ⟨k, rfl⟩ : ∃ k : Nat, n = k := ⟨n.toNat, by omega⟩
    obtain ⟨G, hG, hI⟩ := clGo_start (n := k) (by omega) (l := l) (by simpa using hP)
    have hL : genR k l = (everyL k).filter (fun x => decide (x ∈ G)) := by rw [genR, if_pos hz, closL, Int.toNat_natCast, hG]; rfl
    refine (generateOk k (by omega) (by omega) h hl (by simpa using hP) hG hI).mono ?_
    rintro e w' ⟨r, rfl, yss, h1, h2, h3, h4⟩
    have he : yss = genR k l := by
      rw [hL]
      exact group_sorted (by omega) hI.2 h2 (h1.symm.nodup hI.1) fun x => h1.mem_iff
    rw [he] at h3
    rw [hz]
    refine ⟨r, rfl, ?_, h4⟩
    have := h3.length
    rwa [← this] at h3
  · exact generateBad n h hz
end Go.Proofs.YtpjlaaldepfnkaaDoor
