/- Contracts: Size, both. -/
import Derived.Test.YtkalpgngoijdmaaVec
namespace Go.Proofs.Ytkalpgngoijdmaa
open Go.RowKit Go.Sl

variable {w : World} {L : List Asn}

theorem SizeR_spec (s : St) (hp : 0 ≤ s.players ∧ s.players ≤ 1000) (hn : s.nb ≤ 1000) (w : World) :
    Calls Try.prog 22 #[s.val] w fun e w' => e = .returned (i64 (48 + 4 * s.players + 8 * s.nb)) ∧ Sep w' [old w] ∧ Stable w w' := by
  obtain ⟨players, nb, ba, bc, x0, y0, x1, y1, rooms, ra, rc, doors, da, dc, fog, gx, gy, push, drag, rest, rounds, fuel⟩ := s
  dsimp only [St.val, St.doorsV] at *
  have H0 := Lib.hid (And.intro ((Sep.start w).allocBeside (.cells #[i64 players, .slice ba nb bc, i64 x0, i64 y0, i64 x1, i64 y1, .slice ra rooms.length rc, .slice da doors.length dc, i64 fog, i64 gx, i64 gy, i64 push, i64 drag, i64 rest, i64 rounds, i64 fuel] 31)) ((Stable.refl w).alloc (.cells #[i64 players, .slice ba nb bc, i64 x0, i64 y0, i64 x1, i64 y1, .slice ra rooms.length rc, .slice da doors.length dc, i64 fog, i64 gx, i64 gy, i64 push, i64 drag, i64 rest, i64 rounds, i64 fuel] 31)))
  go_enter Try.func22, Try.ntmps22
  go_wp2_with fail
  go_ret
  exact ⟨rfl, H0.out.1, H0.out.2⟩


theorem Size_spec (s : St) (hp : 0 ≤ s.players ∧ s.players ≤ 1000) (hn : s.nb ≤ 1000) (w : World) :
    Calls Try.prog 21 #[s.val] w fun e w' => e = .returned (i64 (48 + 4 * s.players + 8 * s.nb)) ∧ Sep w' [old w] ∧ Stable w w' := by
  obtain ⟨players, nb, ba, bc, x0, y0, x1, y1, rooms, ra, rc, doors, da, dc, fog, gx, gy, push, drag, rest, rounds, fuel⟩ := s
  dsimp only [St.val, St.doorsV] at *
  have H0 := Lib.hid (And.intro ((Sep.start w).allocBeside (.cells #[i64 players, .slice ba nb bc, i64 x0, i64 y0, i64 x1, i64 y1, .slice ra rooms.length rc, .slice da doors.length dc, i64 fog, i64 gx, i64 gy, i64 push, i64 drag, i64 rest, i64 rounds, i64 fuel] 31)) ((Stable.refl w).alloc (.cells #[i64 players, .slice ba nb bc, i64 x0, i64 y0, i64 x1, i64 y1, .slice ra rooms.length rc, .slice da doors.length dc, i64 fog, i64 gx, i64 gy, i64 push, i64 drag, i64 rest, i64 rounds, i64 fuel] 31)))
  go_enter Try.func21, Try.ntmps21
  go_wp2_with fail
  go_ret
  exact ⟨rfl, H0.out.1, H0.out.2⟩


end Go.Proofs.Ytkalpgngoijdmaa
