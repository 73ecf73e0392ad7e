/- Contracts: the reference's Sees, for any numbers. -/
import Derived.Test.YtjmlpjaahankcaaSeesR
namespace Go.Proofs.Ytjmlpjaahankcaa
open Go.RowKit Go.Sl

variable {w : World} {L : List Asn}

set_option maxRecDepth 100000 in
set_option maxHeartbeats 1000000 in
theorem SeesR_out {s : St} {cv : Value} {cs : List Int} (h : Seeing w s cv cs) (p i : Int) (ho : ¬ (0 ≤ p ∧ p < s.players ∧ 0 ≤ i ∧ i < s.nb)) :
    Calls Try.prog 22 #[s.val, cv, i64 p, i64 i] w fun e w' => e = .returned (.bool false) ∧ Sep w' [old w] ∧ Stable w w' := by
  have b2 := h.nb
  clear h
  obtain ⟨players, nb, ba, bc, x0, y0, x1, y1, rooms, ra, rc, doors, da, dc, fog, gx, gy, push, drag, rest, rounds, fuel⟩ := s
  dsimp only [St.val, St.doorsV] at *
  have H0 := Lib.hid (And.intro ((Sep.start w).alloc (.cells #[i64 players, .slice ba nb bc, i64 x0, i64 y0, i64 x1, i64 y1, .slice ra rooms.length rc, .slice da doors.length dc, i64 fog, i64 gx, i64 gy, i64 push, i64 drag, i64 rest, i64 rounds, i64 fuel] 31)) ((Stable.refl w).alloc (.cells #[i64 players, .slice ba nb bc, i64 x0, i64 y0, i64 x1, i64 y1, .slice ra rooms.length rc, .slice da doors.length dc, i64 fog, i64 gx, i64 gy, i64 push, i64 drag, i64 rest, i64 rounds, i64 fuel] 31)))
  by_cases h1 : p < 0
  · clear ho
    go_enter Try.func22, Try.ntmps22
    go_wp2_with fail
    go_ret
    exact ⟨rfl, H0.out.1.drop, H0.out.2⟩
  · by_cases h2 : players ≤ p
    · clear ho
      go_enter Try.func22, Try.ntmps22
      go_wp2_with fail
      go_ret
      exact ⟨rfl, H0.out.1.drop, H0.out.2⟩
    · by_cases h3 : i < 0
      · clear ho
        go_enter Try.func22, Try.ntmps22
        go_wp2_with fail
        go_ret
        exact ⟨rfl, H0.out.1.drop, H0.out.2⟩
      · have h4 : (nb : Int) ≤ i := by omega
        clear ho
        go_enter Try.func22, Try.ntmps22
        go_wp2_with fail
        go_ret
        exact ⟨rfl, H0.out.1.drop, H0.out.2⟩

set_option maxRecDepth 100000 in
set_option maxHeartbeats 1000000 in
theorem SeesR_self {s : St} {cv : Value} {cs : List Int} (h : Seeing w s cv cs) (p : Int) (hp : 0 ≤ p ∧ p < s.players) (hi : 0 ≤ p ∧ p < s.nb) :
    Calls Try.prog 22 #[s.val, cv, i64 p, i64 p] w fun e w' => e = .returned (.bool true) ∧ Sep w' [old w] ∧ Stable w w' := by
  have b2 := h.nb
  obtain ⟨hp0, hp1⟩ := hp
  obtain ⟨hi0, hi1⟩ := hi
  clear h
  obtain ⟨players, nb, ba, bc, x0, y0, x1, y1, rooms, ra, rc, doors, da, dc, fog, gx, gy, push, drag, rest, rounds, fuel⟩ := s
  dsimp only [St.val, St.doorsV] at *
  have H0 := Lib.hid (And.intro ((Sep.start w).alloc (.cells #[i64 players, .slice ba nb bc, i64 x0, i64 y0, i64 x1, i64 y1, .slice ra rooms.length rc, .slice da doors.length dc, i64 fog, i64 gx, i64 gy, i64 push, i64 drag, i64 rest, i64 rounds, i64 fuel] 31)) ((Stable.refl w).alloc (.cells #[i64 players, .slice ba nb bc, i64 x0, i64 y0, i64 x1, i64 y1, .slice ra rooms.length rc, .slice da doors.length dc, i64 fog, i64 gx, i64 gy, i64 push, i64 drag, i64 rest, i64 rounds, i64 fuel] 31)))
  go_enter Try.func22, Try.ntmps22
  go_wp2_with fail
  go_ret
  exact ⟨rfl, H0.out.1.drop, H0.out.2⟩

/-- The reference's Sees, for any numbers. -/
theorem SeesR_spec {s : St} {cv : Value} {cs : List Int} (h : Seeing w s cv cs) (p i : Int) :
    Calls Try.prog 22 #[s.val, cv, i64 p, i64 i] w fun e w' => e = .returned (.bool (seesB s cs p i)) ∧ Sep w' [old w] ∧ Stable w w' := by
  by_cases hin : 0 ≤ p ∧ p < s.players ∧ 0 ≤ i ∧ i < s.nb
  · rw [seesB_in hin]
    by_cases e : p = i
    · subst e
      rw [show (p == p) = true by simp, Bool.true_or]
      exact SeesR_self h p ⟨hin.1, hin.2.1⟩ ⟨hin.2.2.1, hin.2.2.2⟩
    · have e' : (p == i) = false := by simpa using e
      rw [e', Bool.false_or]
      exact SeesR_in h p i ⟨hin.1, hin.2.1⟩ ⟨hin.2.2.1, hin.2.2.2⟩ e'
  · rw [seesB_out hin]
    exact SeesR_out h p i hin

end Go.Proofs.Ytjmlpjaahankcaa
