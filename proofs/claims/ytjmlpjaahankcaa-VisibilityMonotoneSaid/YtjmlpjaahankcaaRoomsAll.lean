/- Contracts: Rooms for a room that does not exist, and for any number. -/
import Derived.Test.YtjmlpjaahankcaaRoomsR
namespace Go.Proofs.Ytjmlpjaahankcaa
open Go.RowKit Go.Sl

variable {w : World} {L : List Asn}

def roomsI (s : St) (r : Int) : List Int := if 0 ≤ r ∧ r < s.rooms.length then roomsL s r.toNat else []
theorem keepL_none (n : Nat) : keepL (Nat.testBit 0) n = [] := by
  unfold keepL
  have : (List.range n).filter (Nat.testBit 0) = [] := by rw [List.filter_eq_nil_iff]; intro a _; simp
  rw [this]; rfl

theorem mask_out {s : St} (r : Int) (hr : r < 0 ∨ (s.rooms.length : Int) ≤ r) (w : World) :
    Calls Try.prog 33 #[s.val, i64 r] w fun e w' => e = .returned (.int .u64 0) ∧ Sep w' [old w] ∧ Stable w w' := by
  obtain ⟨players, nb, ba, bc, x0, y0, x1, y1, rooms, ra, rc, doors, da, dc, fog, gx, gy, push, drag, rest, rounds, fuel⟩ := s
  dsimp only [St.val, St.doorsV] at *
  have hS0 := (Sep.start w).allocBeside (.cells #[i64 players, .slice ba nb bc, i64 x0, i64 y0, i64 x1, i64 y1, .slice ra rooms.length rc, .slice da doors.length dc, i64 fog, i64 gx, i64 gy, i64 push, i64 drag, i64 rest, i64 rounds, i64 fuel] 31)
  have hst0 := (Stable.refl w).alloc (.cells #[i64 players, .slice ba nb bc, i64 x0, i64 y0, i64 x1, i64 y1, .slice ra rooms.length rc, .slice da doors.length dc, i64 fog, i64 gx, i64 gy, i64 push, i64 drag, i64 rest, i64 rounds, i64 fuel] 31)
  have hcase : r < 0 ∨ (¬ r < 0 ∧ (rooms.length : Int) ≤ r) := by omega
  clear hr
  rcases hcase with h | ⟨h, h2⟩
  all_goals
    go_enter Try.func33, Try.ntmps33
    go_wp2
    go_ret
    exact ⟨rfl, hS0, hst0⟩

set_option maxHeartbeats 4000000 in
theorem Rooms_out {s : St} (h8 : s.rooms.length ≤ 8) (r : Int) (hr : r < 0 ∨ (s.rooms.length : Int) ≤ r) (w : World) :
    Calls Try.prog 15 #[s.val, i64 r] w fun e w' => ∃ v, e = .returned v ∧ Sep w' [rowI v [], old w] ∧ Stable w w' := by
  have hmk := mask_out (s := s) r hr
  clear hr
  obtain ⟨players, nb, ba, bc, x0, y0, x1, y1, rooms, ra, rc, doors, da, dc, fog, gx, gy, push, drag, rest, rounds, fuel⟩ := s
  dsimp only [St.val, St.doorsV] at *
  have hS0 := (Sep.start w).alloc (.cells #[i64 players, .slice ba nb bc, i64 x0, i64 y0, i64 x1, i64 y1, .slice ra rooms.length rc, .slice da doors.length dc, i64 fog, i64 gx, i64 gy, i64 push, i64 drag, i64 rest, i64 rounds, i64 fuel] 31)
  have hst0 := (Stable.refl w).alloc (.cells #[i64 players, .slice ba nb bc, i64 x0, i64 y0, i64 x1, i64 y1, .slice ra rooms.length rc, .slice da doors.length dc, i64 fog, i64 gx, i64 gy, i64 push, i64 drag, i64 rest, i64 rounds, i64 fuel] 31)
  have HMK := Lib.hid hmk
  clear hmk
  go_enter Try.func15, Try.ntmps15
  go_wp2_with fail
  go_region_with (first
    | (go_at_call 33; refine (HMK.out _).mono ?_; rintro e w2 ⟨rfl, hS2, hst2⟩; have hS2' := hS0.drew.mount hS2; have c6 := cell_of_blk hS2'.get 6)
    | (go_at_call 32; refine (filterU_spec 0 rooms.length (by omega) h8 w2).mono ?_; rintro e w3 ⟨v3, rfl, hS3, hst3⟩))
  all_goals
    go_wp2_with fail
    go_ret
    rw [keepL_none] at hS3
    exact ⟨_, rfl, ((hS2'.mount (hS3.pick 1)).pick 1).drop.pick 0, (hst0.drew.trans hst2).trans hst3⟩

theorem RoomsR_out {s : St} (r : Int) (hr : r < 0 ∨ (s.rooms.length : Int) ≤ r) (w : World) :
    Calls Try.prog 16 #[s.val, i64 r] w fun e w' => ∃ v, e = .returned v ∧ Sep w' [rowI v [], old w] ∧ Stable w w' := by
  obtain ⟨players, nb, ba, bc, x0, y0, x1, y1, rooms, ra, rc, doors, da, dc, fog, gx, gy, push, drag, rest, rounds, fuel⟩ := s
  dsimp only [St.val, St.doorsV] at *
  have hS0 := (Sep.start w).allocBeside (.cells #[i64 players, .slice ba nb bc, i64 x0, i64 y0, i64 x1, i64 y1, .slice ra rooms.length rc, .slice da doors.length dc, i64 fog, i64 gx, i64 gy, i64 push, i64 drag, i64 rest, i64 rounds, i64 fuel] 31)
  have hst0 := (Stable.refl w).alloc (.cells #[i64 players, .slice ba nb bc, i64 x0, i64 y0, i64 x1, i64 y1, .slice ra rooms.length rc, .slice da doors.length dc, i64 fog, i64 gx, i64 gy, i64 push, i64 drag, i64 rest, i64 rounds, i64 fuel] 31)
  have hcase : r < 0 ∨ (¬ r < 0 ∧ (rooms.length : Int) ≤ r) := by omega
  clear hr
  rcases hcase with h | ⟨h, h2⟩
  all_goals
    go_enter Try.func16, Try.ntmps16
    go_wp2
    go_ret
    exact ⟨_, rfl, hS0.addNil _ _, hst0⟩

/-- Rooms, for any number. -/
theorem Rooms_all {s : St} (hs : s.Reads w) (hf : s.Fine) (r : Int) :
    Calls Try.prog 15 #[s.val, i64 r] w fun e w' => ∃ v, e = .returned v ∧ Sep w' [rowI v (roomsI s r), old w] ∧ Stable w w' := by
  unfold roomsI
  by_cases h : 0 ≤ r ∧ r < s.rooms.length
  · rw [if_pos h]
    obtain ⟨k, rfl⟩ : ∃ k : Nat, r = k := ⟨r.toNat, by omega⟩
    exact Rooms_spec hs hf k (by omega)
  · rw [if_neg h]
    exact Rooms_out hf.rooms r (by omega) w
theorem RoomsR_all {s : St} (hs : s.Reads w) (hf : s.Fine) (r : Int) :
    Calls Try.prog 16 #[s.val, i64 r] w fun e w' => ∃ v, e = .returned v ∧ Sep w' [rowI v (roomsI s r), old w] ∧ Stable w w' := by
  unfold roomsI
  by_cases h : 0 ≤ r ∧ r < s.rooms.length
  · rw [if_pos h]
    obtain ⟨k, rfl⟩ : ∃ k : Nat, r = k := ⟨r.toNat, by omega⟩
    exact RoomsR_spec hs hf k (by omega)
  · rw [if_neg h]
    exact RoomsR_out r (by omega) w

end Go.Proofs.Ytjmlpjaahankcaa
