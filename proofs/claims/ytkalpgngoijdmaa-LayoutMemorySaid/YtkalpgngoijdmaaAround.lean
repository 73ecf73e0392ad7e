/- Around -/
import Derived.Test.YtkalpgngoijdmaaBase
namespace Go.Proofs.Ytkalpgngoijdmaa
open Go.RowKit Go.Sl

variable {w : World} {L : List Asn}

def around (x m : Int) : Int := if x < 0 then (-(x + 1)) % m else x % m
theorem around_lo {x m : Int} (hm : 1 ≤ m) : 0 ≤ around x m := by unfold around; split <;> exact Int.emod_nonneg _ (by omega)
theorem around_hi {x m : Int} (hm : 1 ≤ m) : around x m < m := by unfold around; split <;> exact Int.emod_lt_of_pos _ (by omega)

set_option maxHeartbeats 400000 in
theorem Around_spec (x m : Int) (w : World) (hm : 1 ≤ m) (hm2 : m ≤ 9223372036854775807) (hx : inI64 x) :
    Calls Try.prog 16 #[i64 x, i64 m] w fun e w' => e = .returned (i64 (around x m)) ∧ w = w' := by
  obtain ⟨h0, h1⟩ := hx
  have ha : around x m = if x < 0 then (-(x + 1)) % m else x % m := rfl
  by_cases hneg : x < 0
  · rw [if_pos hneg] at ha
    have hq : -((x + 1).tmod m) = (-(x + 1)) % m := by rw [← Int.neg_tmod]; exact Int.tmod_eq_emod_of_nonneg (by omega)
    rw [ha]
    have HQ := Lib.hid hq
    clear ha hq
    go_enter Try.func16, Try.ntmps16
    go_wp2
    go_ret
    refine ⟨?_, rfl⟩
    rw [← HQ.out]; rfl
  · rw [if_neg hneg] at ha
    rw [ha]
    clear ha
    go_enter Try.func16, Try.ntmps16
    go_wp2
    go_ret
    exact ⟨rfl, rfl⟩


end Go.Proofs.Ytkalpgngoijdmaa
