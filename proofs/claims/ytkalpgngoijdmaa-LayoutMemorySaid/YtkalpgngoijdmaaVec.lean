/- Contracts: within, Body, Player. -/
import Derived.Test.YtkalpgngoijdmaaSet
namespace Go.Proofs.Ytkalpgngoijdmaa
open Go.RowKit Go.Sl

variable {w : World} {L : List Asn}

def inR (n lo hi : Int) : Bool := decide (lo ≤ n) && decide (n ≤ hi)

theorem within_spec (n lo hi : Int) (w : World) :
    Calls Try.prog 46 #[i64 n, i64 lo, i64 hi] w fun e w' => e = .returned (.bool (inR n lo hi)) ∧ w = w' := by
  by_cases h : lo ≤ n
  · have e : inR n lo hi = decide (n ≤ hi) := by simp [inR, h]
    rw [e]; clear e
    go_enter Try.func46, Try.ntmps46
    go_wp2
    go_ret
    exact ⟨rfl, rfl⟩
  · have e : inR n lo hi = false := by simp [inR, h]
    rw [e]; clear e
    go_enter Try.func46, Try.ntmps46
    go_wp2
    go_ret
    exact ⟨rfl, rfl⟩
theorem within_eq {n lo hi : Int} {b : Bool} (h : inR n lo hi = b) (w : World) :
    Calls Try.prog 46 #[i64 n, i64 lo, i64 hi] w fun e w' => e = .returned (.bool b) ∧ w = w' := h ▸ within_spec n lo hi w

/-- Where a body's cells begin; a player's. -/
def bodyAt (s : St) (i : Int) : Int := if 0 ≤ i ∧ i < s.nb then 48 + 4 * s.players + 8 * i else -1
def playerAt (s : St) (p : Int) : Int := if 0 ≤ p ∧ p < s.players then 48 + 4 * p else -1

theorem Body_spec (s : St) (i : Int) (hp : 0 ≤ s.players ∧ s.players ≤ 1000) (hn : s.nb ≤ 1000) (w : World) :
    Calls Try.prog 19 #[s.val, i64 i] w fun e w' => e = .returned (i64 (bodyAt s i)) ∧ Sep w' [old w] ∧ Stable w w' := by
  unfold bodyAt
  obtain ⟨players, nb, ba, bc, x0, y0, x1, y1, rooms, ra, rc, doors, da, dc, fog, gx, gy, push, drag, rest, rounds, fuel⟩ := s
  dsimp only [St.val, St.doorsV] at *
  have hS0 := (Sep.start w).allocBeside (.cells #[i64 players, .slice ba nb bc, i64 x0, i64 y0, i64 x1, i64 y1, .slice ra rooms.length rc, .slice da doors.length dc, i64 fog, i64 gx, i64 gy, i64 push, i64 drag, i64 rest, i64 rounds, i64 fuel] 31)
  have hst0 := (Stable.refl w).alloc (.cells #[i64 players, .slice ba nb bc, i64 x0, i64 y0, i64 x1, i64 y1, .slice ra rooms.length rc, .slice da doors.length dc, i64 fog, i64 gx, i64 gy, i64 push, i64 drag, i64 rest, i64 rounds, i64 fuel] 31)
  by_cases h : 0 ≤ i ∧ i < nb
  · rw [if_pos h]
    obtain ⟨h1, h2⟩ := h
    have hw : ∀ w, _ := fun w => within_eq (n := i) (lo := 0) (hi := (nb : Int) - 1) (b := true) (by simp [inR]; omega) w
    have HW := Lib.hid hw
    clear hw
    go_enter Try.func19, Try.ntmps19
    go_wp2_with fail
    refine (HW.out _).mono ?_
    rintro e w1 ⟨rfl, rfl⟩
    go_wp2_with fail
    go_ret
    exact ⟨rfl, hS0, hst0⟩
  · rw [if_neg h]
    have hw : ∀ w, _ := fun w => within_eq (n := i) (lo := 0) (hi := (nb : Int) - 1) (b := false) (by simp [inR]; omega) w
    have HW := Lib.hid hw
    clear hw h
    go_enter Try.func19, Try.ntmps19
    go_wp2_with fail
    refine (HW.out _).mono ?_
    rintro e w1 ⟨rfl, rfl⟩
    go_wp2_with fail
    go_ret
    exact ⟨rfl, hS0, hst0⟩

theorem Player_spec (s : St) (i : Int) (hp : 0 ≤ s.players ∧ s.players ≤ 1000) (w : World) :
    Calls Try.prog 17 #[s.val, i64 i] w fun e w' => e = .returned (i64 (playerAt s i)) ∧ Sep w' [old w] ∧ Stable w w' := by
  unfold playerAt
  obtain ⟨players, nb, ba, bc, x0, y0, x1, y1, rooms, ra, rc, doors, da, dc, fog, gx, gy, push, drag, rest, rounds, fuel⟩ := s
  dsimp only [St.val, St.doorsV] at *
  have hS0 := (Sep.start w).allocBeside (.cells #[i64 players, .slice ba nb bc, i64 x0, i64 y0, i64 x1, i64 y1, .slice ra rooms.length rc, .slice da doors.length dc, i64 fog, i64 gx, i64 gy, i64 push, i64 drag, i64 rest, i64 rounds, i64 fuel] 31)
  have hst0 := (Stable.refl w).alloc (.cells #[i64 players, .slice ba nb bc, i64 x0, i64 y0, i64 x1, i64 y1, .slice ra rooms.length rc, .slice da doors.length dc, i64 fog, i64 gx, i64 gy, i64 push, i64 drag, i64 rest, i64 rounds, i64 fuel] 31)
  by_cases h : 0 ≤ i ∧ i < players
  · rw [if_pos h]
    obtain ⟨h1, h2⟩ := h
    have hw : ∀ w, _ := fun w => within_eq (n := i) (lo := 0) (hi := players - 1) (b := true) (by simp [inR]; omega) w
    have HW := Lib.hid hw
    clear hw
    go_enter Try.func17, Try.ntmps17
    go_wp2_with fail
    refine (HW.out _).mono ?_
    rintro e w1 ⟨rfl, rfl⟩
    go_wp2_with fail
    go_ret
    exact ⟨rfl, hS0, hst0⟩
  · rw [if_neg h]
    have hw : ∀ w, _ := fun w => within_eq (n := i) (lo := 0) (hi := players - 1) (b := false) (by simp [inR]; omega) w
    have HW := Lib.hid hw
    clear hw h
    go_enter Try.func17, Try.ntmps17
    go_wp2_with fail
    refine (HW.out _).mono ?_
    rintro e w1 ⟨rfl, rfl⟩
    go_wp2_with fail
    go_ret
    exact ⟨rfl, hS0, hst0⟩


end Go.Proofs.Ytkalpgngoijdmaa
