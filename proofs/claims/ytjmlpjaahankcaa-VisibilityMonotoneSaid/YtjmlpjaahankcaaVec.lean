/- Contracts: within, Body, Player, Sub, Len. -/
import Derived.Test.YtjmlpjaahankcaaIsq
import Derived.Deep.RegionWith
namespace Go.Proofs.Ytjmlpjaahankcaa
open Go.RowKit Go.Sl

variable {w : World} {L : List Asn}

def inR (n lo hi : Int) : Bool := decide (lo ≤ n) && decide (n ≤ hi)

theorem within_spec (n lo hi : Int) (w : World) :
    Calls Try.prog 47 #[i64 n, i64 lo, i64 hi] w fun e w' => e = .returned (.bool (inR n lo hi)) ∧ w = w' := by
  by_cases h : lo ≤ n
  · have e : inR n lo hi = decide (n ≤ hi) := by simp [inR, h]
    rw [e]; clear e
    go_enter Try.func47, Try.ntmps47
    go_wp2
    go_ret
    exact ⟨rfl, rfl⟩
  · have e : inR n lo hi = false := by simp [inR, h]
    rw [e]; clear e
    go_enter Try.func47, Try.ntmps47
    go_wp2
    go_ret
    exact ⟨rfl, rfl⟩
theorem within_eq {n lo hi : Int} {b : Bool} (h : inR n lo hi = b) (w : World) :
    Calls Try.prog 47 #[i64 n, i64 lo, i64 hi] w fun e w' => e = .returned (.bool b) ∧ w = w' := h ▸ within_spec n lo hi w

/-- Where a body's cells begin; a player's. -/
def bodyAt (s : St) (i : Int) : Int := if 0 ≤ i ∧ i < s.nb then 48 + 4 * s.players + 8 * i else -1
def playerAt (s : St) (p : Int) : Int := if 0 ≤ p ∧ p < s.players then 48 + 4 * p else -1

theorem Body_spec (s : St) (i : Int) (hp : 0 ≤ s.players ∧ s.players ≤ 1000) (hn : s.nb ≤ 1000) (w : World) :
    Calls Try.prog 25 #[s.val, i64 i] w fun e w' => e = .returned (i64 (bodyAt s i)) ∧ Sep w' [old w] ∧ Stable w w' := by
  unfold bodyAt
  obtain ⟨players, nb, ba, bc, x0, y0, x1, y1, rooms, ra, rc, doors, da, dc, fog, gx, gy, push, drag, rest, rounds, fuel⟩ := s
  dsimp only [St.val, St.doorsV] at *
  have hS0 := (Sep.start w).allocBeside (.cells #[i64 players, .slice ba nb bc, i64 x0, i64 y0, i64 x1, i64 y1, .slice ra rooms.length rc, .slice da doors.length dc, i64 fog, i64 gx, i64 gy, i64 push, i64 drag, i64 rest, i64 rounds, i64 fuel] 31)
  have hst0 := (Stable.refl w).alloc (.cells #[i64 players, .slice ba nb bc, i64 x0, i64 y0, i64 x1, i64 y1, .slice ra rooms.length rc, .slice da doors.length dc, i64 fog, i64 gx, i64 gy, i64 push, i64 drag, i64 rest, i64 rounds, i64 fuel] 31)
  by_cases h : 0 ≤ i ∧ i < nb
  · rw [if_pos h]
    obtain ⟨h1, h2⟩ := h
    have hw : ∀ w, _ := fun w => within_eq (n := i) (lo := 0) (hi := (nb : Int) - 1) (b := true) (by simp [inR]; omega) w
    have HW := Lib.hid hw
    clear hw
    go_enter Try.func25, Try.ntmps25
    go_wp2_with fail
    refine (HW.out _).mono ?_
    rintro e w1 ⟨rfl, rfl⟩
    go_wp2_with fail
    go_ret
    exact ⟨rfl, hS0, hst0⟩
  · rw [if_neg h]
    have hw : ∀ w, _ := fun w => within_eq (n := i) (lo := 0) (hi := (nb : Int) - 1) (b := false) (by simp [inR]; omega) w
    have HW := Lib.hid hw
    clear hw h
    go_enter Try.func25, Try.ntmps25
    go_wp2_with fail
    refine (HW.out _).mono ?_
    rintro e w1 ⟨rfl, rfl⟩
    go_wp2_with fail
    go_ret
    exact ⟨rfl, hS0, hst0⟩

theorem Player_spec (s : St) (i : Int) (hp : 0 ≤ s.players ∧ s.players ≤ 1000) (w : World) :
    Calls Try.prog 41 #[s.val, i64 i] w fun e w' => e = .returned (i64 (playerAt s i)) ∧ Sep w' [old w] ∧ Stable w w' := by
  unfold playerAt
  obtain ⟨players, nb, ba, bc, x0, y0, x1, y1, rooms, ra, rc, doors, da, dc, fog, gx, gy, push, drag, rest, rounds, fuel⟩ := s
  dsimp only [St.val, St.doorsV] at *
  have hS0 := (Sep.start w).allocBeside (.cells #[i64 players, .slice ba nb bc, i64 x0, i64 y0, i64 x1, i64 y1, .slice ra rooms.length rc, .slice da doors.length dc, i64 fog, i64 gx, i64 gy, i64 push, i64 drag, i64 rest, i64 rounds, i64 fuel] 31)
  have hst0 := (Stable.refl w).alloc (.cells #[i64 players, .slice ba nb bc, i64 x0, i64 y0, i64 x1, i64 y1, .slice ra rooms.length rc, .slice da doors.length dc, i64 fog, i64 gx, i64 gy, i64 push, i64 drag, i64 rest, i64 rounds, i64 fuel] 31)
  by_cases h : 0 ≤ i ∧ i < players
  · rw [if_pos h]
    obtain ⟨h1, h2⟩ := h
    have hw : ∀ w, _ := fun w => within_eq (n := i) (lo := 0) (hi := players - 1) (b := true) (by simp [inR]; omega) w
    have HW := Lib.hid hw
    clear hw
    go_enter Try.func41, Try.ntmps41
    go_wp2_with fail
    refine (HW.out _).mono ?_
    rintro e w1 ⟨rfl, rfl⟩
    go_wp2_with fail
    go_ret
    exact ⟨rfl, hS0, hst0⟩
  · rw [if_neg h]
    have hw : ∀ w, _ := fun w => within_eq (n := i) (lo := 0) (hi := players - 1) (b := false) (by simp [inR]; omega) w
    have HW := Lib.hid hw
    clear hw h
    go_enter Try.func41, Try.ntmps41
    go_wp2_with fail
    refine (HW.out _).mono ?_
    rintro e w1 ⟨rfl, rfl⟩
    go_wp2_with fail
    go_ret
    exact ⟨rfl, hS0, hst0⟩

def mid (x : Int) : Prop := -4000000 ≤ x ∧ x ≤ 4000000

theorem Sub_spec (a b c d : Int) (ha : mid a) (hb : mid b) (hc : mid c) (hd : mid d) (w : World) :
    Calls Try.prog 29 #[.agg #[i64 a, i64 b], .agg #[i64 c, i64 d]] w fun e w' => e = .returned (.agg #[i64 (a - c), i64 (b - d)]) ∧ Sep w' [old w] ∧ Stable w w' := by
  unfold mid at *
  have hS := fun x => (((Sep.start w).allocBeside (.cells #[i64 a, i64 b] 29)).allocBeside (.cells #[i64 c, i64 d] 29)).allocBeside (.cells x 29)
  have hst := fun x => (((Stable.refl w).alloc (.cells #[i64 a, i64 b] 29)).alloc (.cells #[i64 c, i64 d] 29)).alloc (.cells x 29)
  have HS := Lib.hid (And.intro hS hst)
  clear hS hst
  go_enter Try.func29, Try.ntmps29
  go_wp2_with fail
  refine bodyPost_ret (v := .agg #[i64 (a - c), i64 (b - d)]) (by simp [results, Try.results29, go_sem]) rfl ?_
  exact ⟨rfl, HS.out.1 _, HS.out.2 _⟩

theorem SubR_spec (a b c d : Int) (ha : mid a) (hb : mid b) (hc : mid c) (hd : mid d) (w : World) :
    Calls Try.prog 46 #[.agg #[i64 a, i64 b], .agg #[i64 c, i64 d]] w fun e w' => e = .returned (.agg #[i64 (a - c), i64 (b - d)]) ∧ Sep w' [old w] ∧ Stable w w' := by
  unfold mid at *
  have hS := fun x => (((Sep.start w).allocBeside (.cells #[i64 a, i64 b] 29)).allocBeside (.cells #[i64 c, i64 d] 29)).allocBeside (.cells x 29)
  have hst := fun x => (((Stable.refl w).alloc (.cells #[i64 a, i64 b] 29)).alloc (.cells #[i64 c, i64 d] 29)).alloc (.cells x 29)
  have HS := Lib.hid (And.intro hS hst)
  clear hS hst
  go_enter Try.func46, Try.ntmps46
  go_wp2_with fail
  refine bodyPost_ret (v := .agg #[i64 (a - c), i64 (b - d)]) (by simp [results, Try.results46, go_sem]) rfl ?_
  exact ⟨rfl, HS.out.1 _, HS.out.2 _⟩

theorem sq_bd {x : Int} (h : -2100000 ≤ x ∧ x ≤ 2100000) : 0 ≤ x * x ∧ x * x ≤ 4410000000000 := by
  refine ⟨by rcases Int.le_total 0 x with h | h; exact Int.mul_nonneg h h; exact Int.mul_nonneg_of_nonpos_of_nonpos h h, ?_⟩
  rcases Int.le_total 0 x with h0 | h0
  · exact Int.le_trans (Int.mul_le_mul h.2 h.2 h0 (by omega)) (by decide : (2100000 : Int) * 2100000 ≤ 4410000000000)
  · have : (-x) * (-x) ≤ 2100000 * 2100000 := Int.mul_le_mul (by omega) (by omega) (by omega) (by omega)
    rw [Int.neg_mul_neg] at this
    exact Int.le_trans this (by decide)

theorem Len_spec (a b r : Int) (ha : -2100000 ≤ a ∧ a ≤ 2100000) (hb : -2100000 ≤ b ∧ b ≤ 2100000) (hr : IsRoot (a * a + b * b) r) (w : World) :
    Calls Try.prog 43 #[.agg #[i64 a, i64 b]] w fun e w' => e = .returned (i64 r) ∧ Sep w' [old w] ∧ Stable w w' := by
  have hS := (Sep.start w).allocBeside (.cells #[i64 a, i64 b] 29)
  have hst := (Stable.refl w).alloc (.cells #[i64 a, i64 b] 29)
  have h1 := sq_bd ha
  have h2 := sq_bd hb
  have hi := fun w => Isqrt_spec _ _ hr (by omega) w
  have HI := Lib.hid hi
  clear hi hr
  go_enter Try.func43, Try.ntmps43
  go_wp2_with fail
  try go_quiet ((go_at_call 51; exact Calls.quiet_of_same (HI.out _)))
  try (refine (HI.out _).mono ?_; rintro e w1 ⟨rfl, rfl⟩)
  go_wp2_with fail
  go_ret
  exact ⟨rfl, hS, hst⟩

theorem LenR_spec (a b r : Int) (ha : -2100000 ≤ a ∧ a ≤ 2100000) (hb : -2100000 ≤ b ∧ b ≤ 2100000) (hr : IsRoot (a * a + b * b) r) (w : World) :
    Calls Try.prog 45 #[.agg #[i64 a, i64 b]] w fun e w' => e = .returned (i64 r) ∧ Sep w' [old w] ∧ Stable w w' := by
  have hS := (Sep.start w).allocBeside (.cells #[i64 a, i64 b] 29)
  have hst := (Stable.refl w).alloc (.cells #[i64 a, i64 b] 29)
  have h1 := sq_bd ha
  have h2 := sq_bd hb
  have hi := fun w => IsqrtR_spec _ _ hr (by omega) w
  have HI := Lib.hid hi
  clear hi hr
  go_enter Try.func45, Try.ntmps45
  go_wp2_with fail
  try go_quiet ((go_at_call 52; exact Calls.quiet_of_same (HI.out _)))
  try (refine (HI.out _).mono ?_; rintro e w1 ⟨rfl, rfl⟩)
  go_wp2_with fail
  go_ret
  exact ⟨rfl, hS, hst⟩

end Go.Proofs.Ytjmlpjaahankcaa
