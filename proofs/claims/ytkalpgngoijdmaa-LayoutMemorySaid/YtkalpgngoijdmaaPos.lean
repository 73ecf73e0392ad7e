/- Contracts: the reference's Body, Player. -/
import Derived.Test.YtkalpgngoijdmaaVec
import Derived.Test.YtkalpgngoijdmaaHeld
namespace Go.Proofs.Ytkalpgngoijdmaa
open Go.RowKit Go.Sl

variable {w : World} {L : List Asn}

theorem BodyR_spec (s : St) (i : Int) (hp : 0 ≤ s.players ∧ s.players ≤ 1000) (hn : s.nb ≤ 1000) (w : World) :
    Calls Try.prog 20 #[s.val, i64 i] w fun e w' => e = .returned (i64 (bodyAt s i)) ∧ Sep w' [old w] ∧ Stable w w' := by
  unfold bodyAt
  obtain ⟨players, nb, ba, bc, x0, y0, x1, y1, rooms, ra, rc, doors, da, dc, fog, gx, gy, push, drag, rest, rounds, fuel⟩ := s
  dsimp only [St.val, St.doorsV] at *
  have hS0 := (Sep.start w).allocBeside (.cells #[i64 players, .slice ba nb bc, i64 x0, i64 y0, i64 x1, i64 y1, .slice ra rooms.length rc, .slice da doors.length dc, i64 fog, i64 gx, i64 gy, i64 push, i64 drag, i64 rest, i64 rounds, i64 fuel] 31)
  have hst0 := (Stable.refl w).alloc (.cells #[i64 players, .slice ba nb bc, i64 x0, i64 y0, i64 x1, i64 y1, .slice ra rooms.length rc, .slice da doors.length dc, i64 fog, i64 gx, i64 gy, i64 push, i64 drag, i64 rest, i64 rounds, i64 fuel] 31)
  by_cases h : i < 0
  · rw [if_neg (by omega)]
    go_enter Try.func20, Try.ntmps20
    go_wp2_with fail
    go_ret
    exact ⟨rfl, hS0, hst0⟩
  · by_cases h2 : (nb : Int) ≤ i
    · rw [if_neg (by omega)]
      go_enter Try.func20, Try.ntmps20
      go_wp2_with fail
      go_ret
      exact ⟨rfl, hS0, hst0⟩
    · rw [if_pos (by omega)]
      go_enter Try.func20, Try.ntmps20
      go_wp2_with fail
      go_ret
      exact ⟨rfl, hS0, hst0⟩


theorem PlayerR_spec (s : St) (i : Int) (hp : 0 ≤ s.players ∧ s.players ≤ 1000) (w : World) :
    Calls Try.prog 18 #[s.val, i64 i] w fun e w' => e = .returned (i64 (playerAt s i)) ∧ Sep w' [old w] ∧ Stable w w' := by
  unfold playerAt
  obtain ⟨players, nb, ba, bc, x0, y0, x1, y1, rooms, ra, rc, doors, da, dc, fog, gx, gy, push, drag, rest, rounds, fuel⟩ := s
  dsimp only [St.val, St.doorsV] at *
  have hS0 := (Sep.start w).allocBeside (.cells #[i64 players, .slice ba nb bc, i64 x0, i64 y0, i64 x1, i64 y1, .slice ra rooms.length rc, .slice da doors.length dc, i64 fog, i64 gx, i64 gy, i64 push, i64 drag, i64 rest, i64 rounds, i64 fuel] 31)
  have hst0 := (Stable.refl w).alloc (.cells #[i64 players, .slice ba nb bc, i64 x0, i64 y0, i64 x1, i64 y1, .slice ra rooms.length rc, .slice da doors.length dc, i64 fog, i64 gx, i64 gy, i64 push, i64 drag, i64 rest, i64 rounds, i64 fuel] 31)
  by_cases h : i < 0
  · rw [if_neg (by omega)]
    go_enter Try.func18, Try.ntmps18
    go_wp2_with fail
    go_ret
    exact ⟨rfl, hS0, hst0⟩
  · by_cases h2 : players ≤ i
    · rw [if_neg (by omega)]
      go_enter Try.func18, Try.ntmps18
      go_wp2_with fail
      go_ret
      exact ⟨rfl, hS0, hst0⟩
    · rw [if_pos (by omega)]
      go_enter Try.func18, Try.ntmps18
      go_wp2_with fail
      go_ret
      exact ⟨rfl, hS0, hst0⟩


end Go.Proofs.Ytkalpgngoijdmaa
