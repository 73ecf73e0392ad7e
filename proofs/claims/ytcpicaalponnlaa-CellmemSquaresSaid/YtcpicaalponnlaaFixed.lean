/- Contracts of package fixed: floor, Mul. -/
import Derived.Test.YtcpicaalponnlaaRef1
namespace Go.Proofs.Ytcpicaalponnlaa
open Go.RowKit Go.Sl

theorem floor_eq (a b : Int) (hb : 0 < b) : a / b = if a.tmod b ≠ 0 ∧ a < 0 then a.tdiv b - 1 else a.tdiv b := by
  rw [Int.tdiv_eq_ediv]
  by_cases h : 0 ≤ a ∨ b ∣ a
  · rw [if_pos h, if_neg]
    · omega
    · rintro ⟨h1, h2⟩
      rcases h with h | h
      · omega
      · exact h1 (Int.tmod_eq_zero_of_dvd h)
  · rw [if_neg h, if_pos ⟨fun e => h (.inr (Int.dvd_of_tmod_eq_zero e)), by omega⟩, Int.sign_eq_one_of_pos hb]
    omega

theorem tdiv_neg_bounds (a b : Int) (hb : 0 < b) (h : inI64 a) (hneg : a < 0) : -9223372036854775808 ≤ a.tdiv b ∧ a.tdiv b ≤ 0 ∧ (a.tmod b ≠ 0 → -9223372036854775807 ≤ a.tdiv b) := by
  obtain ⟨h1, _⟩ := h
  have h3 : a.tdiv b = -((-a).tdiv b) := by rw [Int.neg_tdiv]; omega
  have h4 : (-a).tdiv b = (-a) / b := Int.tdiv_eq_ediv_of_nonneg (by omega)
  have h5 : 0 ≤ (-a) / b := Int.ediv_nonneg (by omega) (by omega)
  have h6 : (-a) / b ≤ -a := Int.ediv_le_self _ (by omega)
  refine ⟨by omega, by omega, fun hz => ?_⟩
  by_cases hb1 : b = 1
  · subst hb1; simp at hz
  · have h7 := Int.ediv_mul_le (-a) (b := b) (by omega)
    have h8 : (-a) / b * 2 ≤ (-a) / b * b := Int.mul_le_mul_of_nonneg_left (by omega) h5
    omega

set_option maxHeartbeats 400000 in
theorem floor_spec (a b : Int) (w : World) (ha : inI64 a) (hb : 0 < b) (hb2 : b ≤ 9223372036854775807) :
    Calls Try.prog 43 #[i64 a, i64 b] w fun e w' => e = .returned (i64 (a / b)) ∧ w = w' := by
  have hf := floor_eq a b hb
  have ha' := ha
  obtain ⟨ha1, ha2⟩ := ha
  have hbd : decide (b < 0) = false := by simp; omega
  by_cases h0 : 0 ≤ a
  · have had : decide (a < 0) = false := by simpa using h0
    clear hf ha'
    by_cases hz : a % b = 0
    · have hzb : (a % b != 0) = false := by simpa using hz
      have HZ := Lib.hid hz
      clear hz
      go_enter Try.func43, Try.ntmps43
      go_wp2
      go_ret
      exact ⟨rfl, rfl⟩
    · have hzb : (a % b != 0) = true := by simpa using hz
      have HZ := Lib.hid hz
      clear hz
      go_enter Try.func43, Try.ntmps43
      go_wp2
      go_ret
      exact ⟨rfl, rfl⟩
  · have hneg : a < 0 := by omega
    have had : decide (a < 0) = true := by simpa using hneg
    obtain ⟨q1, q2, q3⟩ := tdiv_neg_bounds a b hb ha' hneg
    by_cases hz : a.tmod b = 0
    · rw [if_neg (by simp [hz])] at hf
      have hzb : (a.tmod b != 0) = false := by simpa using hz
      rw [hf]
      clear hf hz q3
      go_enter Try.func43, Try.ntmps43
      go_wp2
      go_ret
      exact ⟨rfl, rfl⟩
    · rw [if_pos ⟨hz, hneg⟩] at hf
      have hzb : (a.tmod b != 0) = true := by simpa using hz
      have q4 := q3 hz
      rw [hf]
      clear hf hz q3
      go_enter Try.func43, Try.ntmps43
      go_wp2
      go_ret
      exact ⟨rfl, rfl⟩

set_option maxHeartbeats 400000 in
theorem Mul_spec (a b : Int) (w : World) (hab : inI64 (a * b)) :
    Calls Try.prog 29 #[i64 a, i64 b] w fun e w' => e = .returned (i64 (a * b / 1024)) ∧ w = w' := by
  have hm : wrap64 (a * b) = a * b := IntWalk.wrap64_in _ ⟨hab.1, hab.2⟩
  have hc := floor_spec (a * b) 1024 w hab (by omega) (by omega)
  have HC := Lib.hid hc
  clear hc
  go_enter Try.func29, Try.ntmps29
  go_wp2_with fail
  refine HC.out.mono ?_
  rintro e w' ⟨rfl, rfl⟩
  go_wp2_with fail
  go_ret
  exact ⟨rfl, rfl⟩

end Go.Proofs.Ytcpicaalponnlaa
