/- Contracts: Sees, for any numbers. -/
import Derived.Test.YtjmlpjaahankcaaSees
namespace Go.Proofs.Ytjmlpjaahankcaa
open Go.RowKit Go.Sl

variable {w : World} {L : List Asn}

set_option maxRecDepth 100000 in
set_option maxHeartbeats 1000000 in
theorem Sees_out {s : St} {cv : Value} {cs : List Int} (h : Seeing w s cv cs) (p i : Int) (ho : ¬ (0 ≤ p ∧ p < s.players ∧ 0 ≤ i ∧ i < s.nb)) :
    Calls Try.prog 21 #[s.val, cv, i64 p, i64 i] w fun e w' => e = .returned (.bool false) ∧ Sep w' [old w] ∧ Stable w w' := by
  have b1 := h.players
  have hB := h.nb
  by_cases hp : 0 ≤ p ∧ p < s.players
  · have hPl : ∀ W : World, Calls Try.prog 41 #[s.val, i64 p] W (fun e w' => e = .returned (i64 (48 + 4 * p)) ∧ Sep w' [old W] ∧ Stable W w') := fun W => by
      have := Player_spec s p h.players W
      rw [show playerAt s p = 48 + 4 * p by unfold playerAt; rw [if_pos hp]] at this
      exact this
    have hBo : ∀ W : World, Calls Try.prog 25 #[s.val, i64 i] W (fun e w' => e = .returned (i64 (-1)) ∧ Sep w' [old W] ∧ Stable W w') := fun W => by
      have := Body_spec s i h.players h.nb W
      rw [show bodyAt s i = -1 by unfold bodyAt; rw [if_neg (fun hh => ho ⟨hp.1, hp.2, hh.1, hh.2⟩)]] at this
      exact this
    have HC := Lib.hid (And.intro hPl hBo)
    obtain ⟨hp0, hp1⟩ := hp
    clear hPl hBo h ho
    obtain ⟨players, nb, ba, bc, x0, y0, x1, y1, rooms, ra, rc, doors, da, dc, fog, gx, gy, push, drag, rest, rounds, fuel⟩ := s
    dsimp only [St.val, St.doorsV] at *
    have H0 := Lib.hid (And.intro ((Sep.start w).alloc (.cells #[i64 players, .slice ba nb bc, i64 x0, i64 y0, i64 x1, i64 y1, .slice ra rooms.length rc, .slice da doors.length dc, i64 fog, i64 gx, i64 gy, i64 push, i64 drag, i64 rest, i64 rounds, i64 fuel] 31)) ((Stable.refl w).alloc (.cells #[i64 players, .slice ba nb bc, i64 x0, i64 y0, i64 x1, i64 y1, .slice ra rooms.length rc, .slice da doors.length dc, i64 fog, i64 gx, i64 gy, i64 push, i64 drag, i64 rest, i64 rounds, i64 fuel] 31)))
    go_enter Try.func21, Try.ntmps21
    go_wp2_with (refine wpList_load_g 31 _ rfl _ rfl _ _ _ _ (Sep.get H0.out.1) Try.underlying31 rfl (by kernel_rfl) (by first | rfl | (go_simp; done) | (go_simp; omega)) ?_)
    refine (HC.out.1 _).mono ?_
    rintro e w1 ⟨rfl, hS1, hst1⟩
    have H1 := Lib.hid (And.intro (H0.out.1.mount hS1) (H0.out.2.trans hst1))
    clear hS1 hst1
    go_wp2_with (refine wpList_load_g 31 _ rfl _ rfl _ _ _ _ (Sep.get H1.out.1) Try.underlying31 rfl (by kernel_rfl) (by first | rfl | (go_simp; done) | (go_simp; omega)) ?_)
    refine (HC.out.2 _).mono ?_
    rintro e w2 ⟨rfl, hS2, hst2⟩
    have H2 := Lib.hid (And.intro (H1.out.1.mount hS2) (H1.out.2.trans hst2))
    clear hS2 hst2 H1
    go_wp2_with fail
    go_ret
    exact ⟨rfl, H2.out.1.drop, H2.out.2⟩
  · have hPl : ∀ W : World, Calls Try.prog 41 #[s.val, i64 p] W (fun e w' => e = .returned (i64 (-1)) ∧ Sep w' [old W] ∧ Stable W w') := fun W => by
      have := Player_spec s p h.players W
      rw [show playerAt s p = -1 by unfold playerAt; rw [if_neg hp]] at this
      exact this
    have HC := Lib.hid hPl
    clear hPl h ho hp
    obtain ⟨players, nb, ba, bc, x0, y0, x1, y1, rooms, ra, rc, doors, da, dc, fog, gx, gy, push, drag, rest, rounds, fuel⟩ := s
    dsimp only [St.val, St.doorsV] at *
    have H0 := Lib.hid (And.intro ((Sep.start w).alloc (.cells #[i64 players, .slice ba nb bc, i64 x0, i64 y0, i64 x1, i64 y1, .slice ra rooms.length rc, .slice da doors.length dc, i64 fog, i64 gx, i64 gy, i64 push, i64 drag, i64 rest, i64 rounds, i64 fuel] 31)) ((Stable.refl w).alloc (.cells #[i64 players, .slice ba nb bc, i64 x0, i64 y0, i64 x1, i64 y1, .slice ra rooms.length rc, .slice da doors.length dc, i64 fog, i64 gx, i64 gy, i64 push, i64 drag, i64 rest, i64 rounds, i64 fuel] 31)))
    go_enter Try.func21, Try.ntmps21
    go_wp2_with (refine wpList_load_g 31 _ rfl _ rfl _ _ _ _ (Sep.get H0.out.1) Try.underlying31 rfl (by kernel_rfl) (by first | rfl | (go_simp; done) | (go_simp; omega)) ?_)
    refine (HC.out _).mono ?_
    rintro e w1 ⟨rfl, hS1, hst1⟩
    have H1 := Lib.hid (And.intro (H0.out.1.mount hS1) (H0.out.2.trans hst1))
    clear hS1 hst1
    go_wp2_with fail
    go_ret
    exact ⟨rfl, H1.out.1.drop, H1.out.2⟩

set_option maxRecDepth 100000 in
set_option maxHeartbeats 1000000 in
theorem Sees_self {s : St} {cv : Value} {cs : List Int} (h : Seeing w s cv cs) (p : Int) (hp : 0 ≤ p ∧ p < s.players) (hi : 0 ≤ p ∧ p < s.nb) :
    Calls Try.prog 21 #[s.val, cv, i64 p, i64 p] w fun e w' => e = .returned (.bool true) ∧ Sep w' [old w] ∧ Stable w w' := by
  have b1 := h.players
  have hB := h.nb
  have hPl : ∀ W : World, Calls Try.prog 41 #[s.val, i64 p] W (fun e w' => e = .returned (i64 (48 + 4 * p)) ∧ Sep w' [old W] ∧ Stable W w') := fun W => by
    have := Player_spec s p h.players W
    rw [show playerAt s p = 48 + 4 * p by unfold playerAt; rw [if_pos hp]] at this
    exact this
  have hBo : ∀ W : World, Calls Try.prog 25 #[s.val, i64 p] W (fun e w' => e = .returned (i64 (48 + 4 * s.players + 8 * p)) ∧ Sep w' [old W] ∧ Stable W w') := fun W => by
    have := Body_spec s p h.players h.nb W
    rw [show bodyAt s p = 48 + 4 * s.players + 8 * p by unfold bodyAt; rw [if_pos hi]] at this
    exact this
  have HC := Lib.hid (And.intro hPl hBo)
  obtain ⟨hp0, hp1⟩ := hp
  clear hPl hBo h
  obtain ⟨players, nb, ba, bc, x0, y0, x1, y1, rooms, ra, rc, doors, da, dc, fog, gx, gy, push, drag, rest, rounds, fuel⟩ := s
  dsimp only [St.val, St.doorsV] at *
  have H0 := Lib.hid (And.intro ((Sep.start w).alloc (.cells #[i64 players, .slice ba nb bc, i64 x0, i64 y0, i64 x1, i64 y1, .slice ra rooms.length rc, .slice da doors.length dc, i64 fog, i64 gx, i64 gy, i64 push, i64 drag, i64 rest, i64 rounds, i64 fuel] 31)) ((Stable.refl w).alloc (.cells #[i64 players, .slice ba nb bc, i64 x0, i64 y0, i64 x1, i64 y1, .slice ra rooms.length rc, .slice da doors.length dc, i64 fog, i64 gx, i64 gy, i64 push, i64 drag, i64 rest, i64 rounds, i64 fuel] 31)))
  go_enter Try.func21, Try.ntmps21
  go_wp2_with (refine wpList_load_g 31 _ rfl _ rfl _ _ _ _ (Sep.get H0.out.1) Try.underlying31 rfl (by kernel_rfl) (by first | rfl | (go_simp; done) | (go_simp; omega)) ?_)
  refine (HC.out.1 _).mono ?_
  rintro e w1 ⟨rfl, hS1, hst1⟩
  have H1 := Lib.hid (And.intro (H0.out.1.mount hS1) (H0.out.2.trans hst1))
  clear hS1 hst1
  go_wp2_with (refine wpList_load_g 31 _ rfl _ rfl _ _ _ _ (Sep.get H1.out.1) Try.underlying31 rfl (by kernel_rfl) (by first | rfl | (go_simp; done) | (go_simp; omega)) ?_)
  refine (HC.out.2 _).mono ?_
  rintro e w2 ⟨rfl, hS2, hst2⟩
  have H2 := Lib.hid (And.intro (H1.out.1.mount hS2) (H1.out.2.trans hst2))
  clear hS2 hst2 H1
  go_wp2_with fail
  go_ret
  exact ⟨rfl, H2.out.1.drop, H2.out.2⟩

/-- Sees, for any numbers. -/
theorem Sees_spec {s : St} {cv : Value} {cs : List Int} (h : Seeing w s cv cs) (p i : Int) :
    Calls Try.prog 21 #[s.val, cv, i64 p, i64 i] w fun e w' => e = .returned (.bool (seesB s cs p i)) ∧ Sep w' [old w] ∧ Stable w w' := by
  by_cases hin : 0 ≤ p ∧ p < s.players ∧ 0 ≤ i ∧ i < s.nb
  · rw [seesB_in hin]
    by_cases e : p = i
    · subst e
      rw [show (p == p) = true by simp, Bool.true_or]
      exact Sees_self h p ⟨hin.1, hin.2.1⟩ ⟨hin.2.2.1, hin.2.2.2⟩
    · have e' : (p == i) = false := by simpa using e
      rw [e', Bool.false_or]
      exact Sees_in h p i ⟨hin.1, hin.2.1⟩ ⟨hin.2.2.1, hin.2.2.2⟩ e'
  · rw [seesB_out hin]
    exact Sees_out h p i hin

end Go.Proofs.Ytjmlpjaahankcaa
