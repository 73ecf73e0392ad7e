/- Contracts: the position of a body. -/
import Derived.Test.YtjmlpjaahankcaaVec
import Derived.Test.YtjmlpjaahankcaaHeld
namespace Go.Proofs.Ytjmlpjaahankcaa
open Go.RowKit Go.Sl

variable {w : World} {L : List Asn}

theorem BodyR_spec (s : St) (i : Int) (hp : 0 ≤ s.players ∧ s.players ≤ 1000) (hn : s.nb ≤ 1000) (w : World) :
    Calls Try.prog 38 #[s.val, i64 i] w fun e w' => e = .returned (i64 (bodyAt s i)) ∧ Sep w' [old w] ∧ Stable w w' := by
  unfold bodyAt
  obtain ⟨players, nb, ba, bc, x0, y0, x1, y1, rooms, ra, rc, doors, da, dc, fog, gx, gy, push, drag, rest, rounds, fuel⟩ := s
  dsimp only [St.val, St.doorsV] at *
  have hS0 := (Sep.start w).allocBeside (.cells #[i64 players, .slice ba nb bc, i64 x0, i64 y0, i64 x1, i64 y1, .slice ra rooms.length rc, .slice da doors.length dc, i64 fog, i64 gx, i64 gy, i64 push, i64 drag, i64 rest, i64 rounds, i64 fuel] 31)
  have hst0 := (Stable.refl w).alloc (.cells #[i64 players, .slice ba nb bc, i64 x0, i64 y0, i64 x1, i64 y1, .slice ra rooms.length rc, .slice da doors.length dc, i64 fog, i64 gx, i64 gy, i64 push, i64 drag, i64 rest, i64 rounds, i64 fuel] 31)
  by_cases h : i < 0
  · rw [if_neg (by omega)]
    go_enter Try.func38, Try.ntmps38
    go_wp2_with fail
    go_ret
    exact ⟨rfl, hS0, hst0⟩
  · by_cases h2 : (nb : Int) ≤ i
    · rw [if_neg (by omega)]
      go_enter Try.func38, Try.ntmps38
      go_wp2_with fail
      go_ret
      exact ⟨rfl, hS0, hst0⟩
    · rw [if_pos (by omega)]
      go_enter Try.func38, Try.ntmps38
      go_wp2_with fail
      go_ret
      exact ⟨rfl, hS0, hst0⟩

/-- A body's coordinate, read from the cells. -/
def posX (s : St) (cs : List Int) (i : Int) : Int := cs.getD (bodyAt s i).toNat 0
def posY (s : St) (cs : List Int) (i : Int) : Int := cs.getD ((bodyAt s i).toNat + 1) 0

set_option maxHeartbeats 1000000 in
theorem position_spec {s : St} {cv : Value} {cs : List Int} {i : Int} (hr : readsI w cv cs) (hp : 0 ≤ s.players ∧ s.players ≤ 1000) (hn : s.nb ≤ 1000) (hlen : (cs.length : Int) = 48 + 4 * s.players + 8 * s.nb) (hi : 0 ≤ i ∧ i < s.nb) :
    Calls Try.prog 42 #[s.val, cv, i64 i] w fun e w' => e = .returned (.agg #[i64 (posX s cs i), i64 (posY s cs i)]) ∧ Sep w' [old w] ∧ Stable w w' := by
  have hB := fun W => Body_spec s i hp hn W
  have hat : bodyAt s i = 48 + 4 * s.players + 8 * i := by unfold bodyAt; rw [if_pos hi]
  have hx : posX s cs i = cs.getD (bodyAt s i).toNat 0 := rfl
  have hy : posY s cs i = cs.getD ((bodyAt s i).toNat + 1) 0 := rfl
  rw [hx, hy]
  obtain ⟨n, hn2⟩ : ∃ n : Nat, bodyAt s i = n := ⟨(bodyAt s i).toNat, by omega⟩
  rw [hn2] at hB hat ⊢
  have hnl : n + 1 < cs.length := by omega
  rw [Int.toNat_natCast]
  obtain ⟨b, off, cap, rfl, hc1, hc2, hc⟩ := readsI_at hr (by omega)
  have c0 := hc n (by omega)
  have c1 := hc (n + 1) hnl
  have hbl := World.block_lt_of_cell? w _ c0
  have hn3 : n ≤ 100000 := by omega
  generalize cs.getD n 0 = X at *
  generalize cs.getD (n + 1) 0 = Y at *
  clear hc hn2 hlen hat hx hy hr hi hp hn
  obtain ⟨players, nb, ba, bc, x0, y0, x1, y1, rooms, ra, rc, doors, da, dc, fog, gx, gy, push, drag, rest, rounds, fuel⟩ := s
  dsimp only [St.val, St.doorsV] at *
  have hS0 := ((Sep.start w).allocBeside (.cells #[i64 players, .slice ba nb bc, i64 x0, i64 y0, i64 x1, i64 y1, .slice ra rooms.length rc, .slice da doors.length dc, i64 fog, i64 gx, i64 gy, i64 push, i64 drag, i64 rest, i64 rounds, i64 fuel] 31)).alloc (.cells #[i64 0, i64 0] 29)
  have hst0 := ((Stable.refl w).alloc (.cells #[i64 players, .slice ba nb bc, i64 x0, i64 y0, i64 x1, i64 y1, .slice ra rooms.length rc, .slice da doors.length dc, i64 fog, i64 gx, i64 gy, i64 push, i64 drag, i64 rest, i64 rounds, i64 fuel] 31)).alloc (.cells #[i64 0, i64 0] 29)
  simp only [World.size_alloc] at hS0
  have H := Lib.hid (And.intro hB (And.intro hS0 hst0))
  clear hB hS0 hst0
  go_enter Try.func42, Try.ntmps42
  go_wp2_with fail
  refine (H.out.1 _).mono ?_
  rintro e w2 ⟨rfl, hS2, hst2⟩
  have hS3 := H.out.2.1.mount hS2
  have hst3 := H.out.2.2.trans hst2
  have d0 := (World.cell?_of_block (a := ⟨b, off + n, none⟩) (hS3.drop.oldGet b hbl)).trans c0
  have d1 := (World.cell?_of_block (a := ⟨b, off + (n + 1), none⟩) (hS3.drop.oldGet b hbl)).trans c1
  have e0 := cell_of_blk hS3.get 0
  have e1 := cell_of_blk hS3.get 1
  simp at e0 e1
  have fz := frozen_of_blk hS3.get
  have hne : b ≠ w.heap.size + 1 := by omega
  have H3 := Lib.hid (And.intro hS3 hst3)
  clear hS2 hst2 hS3 hst3 c0 c1
  go_wp2_with fail
  go_region
  all_goals
    have hS4 := (H3.out.1.setCell 0 (i64 X)).setCell 1 (i64 Y)
    simp only [List.setIfInBounds_toArray, List.set_cons_succ, List.set_cons_zero] at hS4
    have hst4 := ((H3.out.2.setCell ⟨w.heap.size + 1, 0, none⟩ (i64 X)).setCell ⟨w.heap.size + 1, 1, none⟩ (i64 Y)).drew
    go_wp2_with fail
    refine bodyPost_ret (v := .agg #[i64 X, i64 Y]) (by simp [results, Try.results42, go_sem, e0, e1]) rfl ?_
    exact ⟨rfl, hS4.drop, hst4⟩

set_option maxHeartbeats 1000000 in
theorem positionR_spec {s : St} {cv : Value} {cs : List Int} {i : Int} (hr : readsI w cv cs) (hp : 0 ≤ s.players ∧ s.players ≤ 1000) (hn : s.nb ≤ 1000) (hlen : (cs.length : Int) = 48 + 4 * s.players + 8 * s.nb) (hi : 0 ≤ i ∧ i < s.nb) :
    Calls Try.prog 44 #[s.val, cv, i64 i] w fun e w' => e = .returned (.agg #[i64 (posX s cs i), i64 (posY s cs i)]) ∧ Sep w' [old w] ∧ Stable w w' := by
  have hB := fun W => BodyR_spec s i hp hn W
  have hat : bodyAt s i = 48 + 4 * s.players + 8 * i := by unfold bodyAt; rw [if_pos hi]
  have hx : posX s cs i = cs.getD (bodyAt s i).toNat 0 := rfl
  have hy : posY s cs i = cs.getD ((bodyAt s i).toNat + 1) 0 := rfl
  rw [hx, hy]
  obtain ⟨n, hn2⟩ : ∃ n : Nat, bodyAt s i = n := ⟨(bodyAt s i).toNat, by omega⟩
  rw [hn2] at hB hat ⊢
  have hnl : n + 1 < cs.length := by omega
  rw [Int.toNat_natCast]
  obtain ⟨b, off, cap, rfl, hc1, hc2, hc⟩ := readsI_at hr (by omega)
  have c0 := hc n (by omega)
  have c1 := hc (n + 1) hnl
  have hbl := World.block_lt_of_cell? w _ c0
  have hn3 : n ≤ 100000 := by omega
  generalize cs.getD n 0 = X at *
  generalize cs.getD (n + 1) 0 = Y at *
  clear hc hn2 hlen hat hx hy hr hi hp hn
  obtain ⟨players, nb, ba, bc, x0, y0, x1, y1, rooms, ra, rc, doors, da, dc, fog, gx, gy, push, drag, rest, rounds, fuel⟩ := s
  dsimp only [St.val, St.doorsV] at *
  have hS0 := ((Sep.start w).allocBeside (.cells #[i64 players, .slice ba nb bc, i64 x0, i64 y0, i64 x1, i64 y1, .slice ra rooms.length rc, .slice da doors.length dc, i64 fog, i64 gx, i64 gy, i64 push, i64 drag, i64 rest, i64 rounds, i64 fuel] 31)).alloc (.cells #[i64 0, i64 0] 29)
  have hst0 := ((Stable.refl w).alloc (.cells #[i64 players, .slice ba nb bc, i64 x0, i64 y0, i64 x1, i64 y1, .slice ra rooms.length rc, .slice da doors.length dc, i64 fog, i64 gx, i64 gy, i64 push, i64 drag, i64 rest, i64 rounds, i64 fuel] 31)).alloc (.cells #[i64 0, i64 0] 29)
  simp only [World.size_alloc] at hS0
  have H := Lib.hid (And.intro hB (And.intro hS0 hst0))
  clear hB hS0 hst0
  go_enter Try.func44, Try.ntmps44
  go_wp2_with fail
  refine (H.out.1 _).mono ?_
  rintro e w2 ⟨rfl, hS2, hst2⟩
  have hS3 := H.out.2.1.mount hS2
  have hst3 := H.out.2.2.trans hst2
  have d0 := (World.cell?_of_block (a := ⟨b, off + n, none⟩) (hS3.drop.oldGet b hbl)).trans c0
  have d1 := (World.cell?_of_block (a := ⟨b, off + (n + 1), none⟩) (hS3.drop.oldGet b hbl)).trans c1
  have e0 := cell_of_blk hS3.get 0
  have e1 := cell_of_blk hS3.get 1
  simp at e0 e1
  have fz := frozen_of_blk hS3.get
  have hne : b ≠ w.heap.size + 1 := by omega
  have H3 := Lib.hid (And.intro hS3 hst3)
  clear hS2 hst2 hS3 hst3 c0 c1
  go_wp2_with fail
  go_region
  all_goals
    have hS4 := (H3.out.1.setCell 0 (i64 X)).setCell 1 (i64 Y)
    simp only [List.setIfInBounds_toArray, List.set_cons_succ, List.set_cons_zero] at hS4
    have hst4 := ((H3.out.2.setCell ⟨w.heap.size + 1, 0, none⟩ (i64 X)).setCell ⟨w.heap.size + 1, 1, none⟩ (i64 Y)).drew
    go_wp2_with fail
    refine bodyPost_ret (v := .agg #[i64 X, i64 Y]) (by simp [results, Try.results44, go_sem, e0, e1]) rfl ?_
    exact ⟨rfl, hS4.drop, hst4⟩

end Go.Proofs.Ytjmlpjaahankcaa
