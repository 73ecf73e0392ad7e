/- Contracts: integer square roots, the program's (Newton) and the reference's (bisection). -/
import Derived.Test.YtjmlpjaahankcaaSet
import Derived.WalkMore
import Derived.Deep.LoopGhost
namespace Go.Proofs.Ytjmlpjaahankcaa
open Go.RowKit Go.Sl

variable {w : World} {L : List Asn}

/-- r is the root of n, rounded down. -/
def IsRoot (n r : Int) : Prop := 0 ≤ r ∧ r * r ≤ n ∧ n < (r + 1) * (r + 1)
theorem isRoot_lt {n r b : Int} (h : IsRoot n r) (hb : 0 ≤ b) (hn : n < b * b) : r < b := by
  obtain ⟨h0, h1, _⟩ := h
  rcases Int.lt_or_le r b with h | h
  · exact h
  · have := Int.mul_le_mul h h hb h0; omega
theorem isRoot_le {n r b : Int} (h : IsRoot n r) (hb : 0 ≤ b) (hn : b * b ≤ n) : b ≤ r := by
  obtain ⟨h0, _, h2⟩ := h
  rcases Int.lt_or_le r b with h | h
  · have : (r + 1) * (r + 1) ≤ b * b := Int.mul_le_mul (by omega) (by omega) (by omega) hb
    omega
  · exact h
theorem isRoot_unique {n r s : Int} (h : IsRoot n r) (k : IsRoot n s) : r = s := by
  have a := isRoot_lt h (b := s + 1) (by have := k.1; omega) k.2.2
  have b := isRoot_lt k (b := r + 1) (by have := h.1; omega) h.2.2
  omega
theorem exists_root_nat : ∀ n : Nat, ∃ r : Int, IsRoot n r
  | 0 => ⟨0, by unfold IsRoot; decide⟩
  | n + 1 => by
    obtain ⟨r, h0, h1, h2⟩ := exists_root_nat n
    by_cases h : ((n + 1 : Nat) : Int) < (r + 1) * (r + 1)
    · exact ⟨r, h0, by omega, h⟩
    · refine ⟨r + 1, by omega, by omega, ?_⟩
      have e : (r + 1 + 1) * (r + 1 + 1) = (r + 1) * (r + 1) + 2 * r + 3 := by
        simp only [Int.add_mul, Int.mul_add]; omega
      omega
theorem exists_root {n : Int} (h : 0 ≤ n) : ∃ r, IsRoot n r := by
  obtain ⟨k, rfl⟩ : ∃ k : Nat, n = k := ⟨n.toNat, by omega⟩
  exact exists_root_nat k

/-- One step of Newton's iteration stays above the root. -/
theorem newton_ge {n r s : Int} (hs : IsRoot n s) (hr : 0 < r) : s ≤ (r + n / r) / 2 := by
  obtain ⟨s0, s1, _⟩ := hs
  have hq : n < (n / r + 1) * r := Int.lt_ediv_add_one_mul_self n hr
  generalize n / r = q at *
  rcases Int.lt_or_le ((r + q) / 2) s with h | h
  · exfalso
    have hlt : r + q + 1 ≤ 2 * s := by omega
    -- (q + 1) * r ≤ s * s
    have hd : ∃ d : Int, r = s + d := ⟨r - s, by omega⟩
    obtain ⟨d, rfl⟩ := hd
    have hq1 : q + 1 ≤ s - d := by omega
    have h3 : (q + 1) * (s + d) ≤ (s - d) * (s + d) := Int.mul_le_mul_of_nonneg_right hq1 (by omega)
    have h4 : (s - d) * (s + d) = s * s - d * d := by
      simp only [Int.sub_mul, Int.mul_add]; rw [Int.mul_comm d s]; omega
    have h5 : 0 ≤ d * d := by rcases Int.le_total 0 d with h | h; exact Int.mul_nonneg h h; exact Int.mul_nonneg_of_nonpos_of_nonpos h h
    omega
  · exact h
theorem newton_end {n r s : Int} (hs : IsRoot n s) (hr : 0 < r) (hsr : s ≤ r) (h : r ≤ (r + n / r) / 2) : r = s := by
  have hq : n / r * r ≤ n := Int.ediv_mul_le n (by omega)
  have hge : r ≤ n / r := by omega
  have : r * r ≤ n / r * r := Int.mul_le_mul_of_nonneg_right hge (by omega)
  have := isRoot_le hs (b := r) (by omega) (by omega)
  omega

theorem quot_bd {n r : Int} (hn : 0 ≤ n) (hr : 0 < r) : 0 ≤ n / r ∧ n / r ≤ n := ⟨Int.ediv_nonneg hn (by omega), by
  have h1 : n / r * 1 ≤ n / r * r := Int.mul_le_mul_of_nonneg_left (by omega) (Int.ediv_nonneg hn (by omega))
  have h2 : n / r * r ≤ n := Int.ediv_mul_le n (by omega)
  omega⟩

set_option maxHeartbeats 1000000 in
theorem Isqrt_spec (n r : Int) (h : IsRoot n r) (hn : n ≤ 4611686018427387904) (w : World) :
    Calls Try.prog 51 #[i64 n] w fun e w' => e = .returned (i64 r) ∧ w = w' := by
  have hn0 : 0 ≤ n := by have h1 := Int.mul_nonneg h.1 h.1; have := h.2.1; omega
  by_cases h0 : n ≤ 0
  · obtain rfl : n = 0 := by omega
    obtain rfl : r = 0 := isRoot_unique h (by unfold IsRoot; decide)
    clear h
    go_enter Try.func51, Try.ntmps51
    go_wp2
    go_step3
    go_wp2
    try rw [Exit.noGoto_ret]
    go_ret
    exact ⟨rfl, rfl⟩
  · have hr1 : r ≤ 2147483648 := by
      have := isRoot_lt h (b := 2147483649) (by omega) (by omega); omega
    have hrp : 1 ≤ r := isRoot_le h (by omega) (by omega)
    have H := Lib.hid h
    clear h
    go_enter Try.func51, Try.ntmps51
    go_wp2_with fail
    go_step3
    go_wp2_with fail
    go_step3
    go_wp2_with fail
    go_loop [3, 4] (fun x y => ∃ k : Int, r ≤ k ∧ k ≤ 2147483648 ∧ x = i64 k) (fun x _ => (intOf x).toNat)
    case atStart => exact ⟨_, hr1, by omega, rfl⟩
    case round =>
      obtain ⟨k, hk, hk2, rfl⟩ := hrel
      have h1 := newton_ge H.out (r := k) (by omega)
      have h2 := newton_end H.out (r := k) (by omega) hk
      obtain ⟨h3, h4⟩ := quot_bd (n := n) (r := k) hn0 (by omega)
      have e1 : n.tdiv k = n / k := Int.tdiv_eq_ediv_of_nonneg hn0
      have hkz : (k == 0) = false := by simp; omega
      have hkz2 : k ≠ 0 := by omega
      by_cases hs : k ≤ (k + n / k) / 2
      · have hkr := h2 hs
        have HK := Lib.hid hkr
        have HH := Lib.hid (And.intro h1 h2)
        clear hkr h1 h2
        go_wp2_with fail
        try rw [Exit.noGoto_ret]
        go_ret
        exact ⟨by rw [HK.out]; rfl, rfl⟩
      · have HH := Lib.hid (And.intro h1 h2)
        have hs' : (k + n / k) / 2 < k := by omega
        clear h1 h2 hs
        go_wp2_with fail
        go_round
        case rel => exact ⟨_, HH.out.1, by omega, rfl⟩
        case measure => have := HH.out.1; simp [intOf]; omega

theorem IsqrtR_spec (n r : Int) (h : IsRoot n r) (hn : n ≤ 4611686018427387904) (w : World) :
    Calls Try.prog 52 #[i64 n] w fun e w' => e = .returned (i64 r) ∧ w = w' := by
  have hn0 : 0 ≤ n := by have h1 := Int.mul_nonneg h.1 h.1; have := h.2.1; omega
  have H := Lib.hid h
  have hr1 : r ≤ 2147483648 := by
    have := isRoot_lt h (b := 2147483649) (by omega) (by omega); omega
  have hr0 := h.1
  clear h
  go_enter Try.func52, Try.ntmps52
  go_wp2_with fail
  go_loop [3, 4, 5] (fun lo hi mid => ∃ a b : Int, 0 ≤ a ∧ a ≤ r ∧ r < b ∧ b ≤ 2147483649 ∧ lo = i64 a ∧ hi = i64 b) (fun lo hi _ => (intOf hi - intOf lo).toNat)
  case atStart => exact ⟨0, 2147483649, by omega, by omega, by omega, by omega, rfl, rfl⟩
  case round =>
    obtain ⟨a, b, ha0, har, hrb, hb, rfl, rfl⟩ := hrel
    by_cases hlt : 1 < b - a
    · have hm : 0 ≤ (b - a) / 2 ∧ 1 ≤ (b - a) / 2 ∧ (b - a) / 2 < b - a := by omega
      have hmm : 0 ≤ (a + (b - a) / 2) * (a + (b - a) / 2) ∧ (a + (b - a) / 2) * (a + (b - a) / 2) ≤ 4611686022722355201 := by
        refine ⟨Int.mul_nonneg (by omega) (by omega), ?_⟩
        exact Int.le_trans (Int.mul_le_mul (a := a + (b - a) / 2) (b := a + (b - a) / 2) (c := 2147483649) (d := 2147483649) (by omega) (by omega) (by omega) (by omega)) (by decide)
      have hge : (a + (b - a) / 2) * (a + (b - a) / 2) ≤ n → a + (b - a) / 2 ≤ r := fun h => isRoot_le H.out (by omega) h
      have hl : n < (a + (b - a) / 2) * (a + (b - a) / 2) → r < a + (b - a) / 2 := fun h => isRoot_lt H.out (by omega) h
      have HGE := Lib.hid (And.intro hge hl)
      clear hge hl
      by_cases hc : (a + (b - a) / 2) * (a + (b - a) / 2) ≤ n
      · have hx := HGE.out.1 hc
        go_wp2_with fail
        go_round
        case rel => exact ⟨_, b, by omega, hx, hrb, hb, rfl, rfl⟩
        case measure => simp [intOf]; omega
      · have hc' : n < (a + (b - a) / 2) * (a + (b - a) / 2) := by omega
        have hx := HGE.out.2 hc'
        go_wp2_with fail
        go_round
        case rel => exact ⟨a, _, by omega, har, hx, by omega, rfl, rfl⟩
        case measure => simp [intOf]; omega
    · obtain rfl : r = a := by omega
      go_wp2_with fail
      go_ret
      exact ⟨rfl, rfl⟩

end Go.Proofs.Ytjmlpjaahankcaa
