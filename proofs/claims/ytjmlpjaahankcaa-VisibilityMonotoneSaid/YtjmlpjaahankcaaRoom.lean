/- Contracts: the room of a point. -/
import Derived.Test.YtjmlpjaahankcaaSet
namespace Go.Proofs.Ytjmlpjaahankcaa
open Go.RowKit Go.Sl

variable {w : World} {L : List Asn}

set_option maxHeartbeats 2000000 in
theorem Room_spec {s : St} (hs : s.Reads w) (hf : s.Fine) (x y : Int) :
    Calls Try.prog 12 #[s.val, .agg #[i64 x, i64 y]] w fun e w' => e = .returned (i64 (roomIx s.rooms x y)) ∧ Sep w' [old w] ∧ Stable w w' := by
  have hr := hs.rooms
  have hl := hf.rooms
  clear hs hf
  obtain ⟨players, nb, ba, bc, x0, y0, x1, y1, rooms, ra, rc, doors, da, dc, fog, gx, gy, push, drag, rest, rounds, fuel⟩ := s
  dsimp only [St.val, St.roomsV] at *
  have H := Lib.hid hr
  have hS0 := box2 (Sep.start w) (.cells #[i64 players, .slice ba nb bc, i64 x0, i64 y0, i64 x1, i64 y1, .slice ra rooms.length rc, .slice da doors.length dc, i64 fog, i64 gx, i64 gy, i64 push, i64 drag, i64 rest, i64 rounds, i64 fuel] 31) (.cells #[i64 x, i64 y] 29)
  have hst0 := ((Stable.refl w).alloc (.cells #[i64 players, .slice ba nb bc, i64 x0, i64 y0, i64 x1, i64 y1, .slice ra rooms.length rc, .slice da doors.length dc, i64 fog, i64 gx, i64 gy, i64 push, i64 drag, i64 rest, i64 rounds, i64 fuel] 31)).alloc (.cells #[i64 x, i64 y] 29)
  clear hr
  go_enter Try.func12, Try.ntmps12
  go_wp2_with fail
  go_loopw [10] (fun i wr => ∃ k : Nat, k ≤ rooms.length ∧ i = .int .i64 k ∧ (∀ j, j < k → inB (rooms.getD j (0, 0, 0, 0)) x y = false) ∧
    Sep wr [pts (w.heap.size + 1) (.cells #[i64 x, i64 y] 29), old w] ∧ Stable w wr) (fun i _ => rooms.length - (intOf i).toNat)
  case atStart => exact ⟨0, Nat.zero_le _, rfl, by simp, (hS0.pick 1).drop, hst0⟩
  case round =>
    obtain ⟨k, hk, rfl, hno, hSr, hst⟩ := hrel
    have v0 := cell_of_blk hSr.get 0
    have v1 := cell_of_blk hSr.get 1
    have hq := hl_lt hSr.get
    have HNO := Lib.hid hno
    clear hno
    by_cases hlt : k < rooms.length
    · obtain ⟨b, off, cap, hv, hc⟩ := readsB_at H.out (by omega)
      obtain ⟨rfl, rfl⟩ : ra = some ⟨b, off, none⟩ ∧ rc = cap := by simpa using hv
      have hck := hc k hlt
      have hbl := World.block_lt_of_cell? w _ hck.1
      have hold := (hSr.pick 1).oldGet b hbl
      have c0 : wr.cell? ⟨b, off + k * 4, none⟩ = _ := (World.cell?_of_block (a := ⟨b, off + k * 4, none⟩) hold).trans hck.1
      have c1 : wr.cell? ⟨b, off + k * 4 + 1, none⟩ = _ := (World.cell?_of_block (a := ⟨b, off + k * 4 + 1, none⟩) hold).trans hck.2.1
      have c2 : wr.cell? ⟨b, off + k * 4 + 2, none⟩ = _ := (World.cell?_of_block (a := ⟨b, off + k * 4 + 2, none⟩) hold).trans hck.2.2.1
      have c3 : wr.cell? ⟨b, off + k * 4 + 3, none⟩ = _ := (World.cell?_of_block (a := ⟨b, off + k * 4 + 3, none⟩) hold).trans hck.2.2.2
      have HLT := Lib.hid hlt
      have hat := roomIx_at hlt HNO.out
      have HAT := Lib.hid hat
      clear hv hc hck hold hat
      generalize hbx : rooms.getD k (0, 0, 0, 0) = bx at *
      have HBX := Lib.hid hbx
      clear hbx
      obtain ⟨b0, b1, b2, b3⟩ := bx
      dsimp only at c0 c1 c2 c3
      go_wp2_with fail
      refine (contains_spec b0 b1 b2 b3 x y _).mono ?_
      rintro e w2 ⟨rfl, rfl⟩
      have hS2 := ((hSr.allocBeside (.cells #[i64 b0, i64 b1, i64 b2, i64 b3] 25)).allocBeside (.cells #[i64 b0, i64 b1, i64 b2, i64 b3] 25)).allocBeside (.cells #[i64 x, i64 y] 29)
      have hst2 := ((hst.alloc (.cells #[i64 b0, i64 b1, i64 b2, i64 b3] 25)).alloc (.cells #[i64 b0, i64 b1, i64 b2, i64 b3] 25)).alloc (.cells #[i64 x, i64 y] 29)
      cases hin : inB (b0, b1, b2, b3) x y
      · have HIN := Lib.hid hin
        clear hin
        go_wp2_with fail
        refine ⟨⟨k + 1, by omega, by go_num, fun j hj => ?_, hS2, hst2⟩, by simp [intOf]; omega⟩
        rcases Nat.lt_or_ge j k with h | h
        · exact HNO.out j h
        · obtain rfl : j = k := by omega
          rw [HBX.out]; exact HIN.out
      · have HIN := Lib.hid hin
        clear hin
        go_wp2_with fail
        go_ret
        exact ⟨by rw [HAT.out HIN.out]; rfl, hS2.drop, hst2⟩
    · obtain rfl : k = rooms.length := by omega
      clear hlt
      go_wp2_with fail
      go_ret
      exact ⟨by rw [roomIx_none HNO.out]; rfl, hSr.drop, hst⟩

set_option maxHeartbeats 2000000 in
theorem RoomR_spec {s : St} (hs : s.Reads w) (hf : s.Fine) (x y : Int) :
    Calls Try.prog 13 #[s.val, .agg #[i64 x, i64 y]] w fun e w' => e = .returned (i64 (roomIx s.rooms x y)) ∧ Sep w' [old w] ∧ Stable w w' := by
  have hr := hs.rooms
  have hl := hf.rooms
  clear hs hf
  obtain ⟨players, nb, ba, bc, x0, y0, x1, y1, rooms, ra, rc, doors, da, dc, fog, gx, gy, push, drag, rest, rounds, fuel⟩ := s
  dsimp only [St.val, St.roomsV] at *
  have H := Lib.hid hr
  have hS0 := box2 (Sep.start w) (.cells #[i64 players, .slice ba nb bc, i64 x0, i64 y0, i64 x1, i64 y1, .slice ra rooms.length rc, .slice da doors.length dc, i64 fog, i64 gx, i64 gy, i64 push, i64 drag, i64 rest, i64 rounds, i64 fuel] 31) (.cells #[i64 x, i64 y] 29)
  have hst0 := ((Stable.refl w).alloc (.cells #[i64 players, .slice ba nb bc, i64 x0, i64 y0, i64 x1, i64 y1, .slice ra rooms.length rc, .slice da doors.length dc, i64 fog, i64 gx, i64 gy, i64 push, i64 drag, i64 rest, i64 rounds, i64 fuel] 31)).alloc (.cells #[i64 x, i64 y] 29)
  clear hr
  go_enter Try.func13, Try.ntmps13
  go_wp2_with fail
  go_loopw [5] (fun i wr => ∃ k : Nat, k ≤ rooms.length ∧ i = .int .i64 k ∧ (∀ j, j < k → inB (rooms.getD j (0, 0, 0, 0)) x y = false) ∧
    Sep wr [pts (w.heap.size + 1) (.cells #[i64 x, i64 y] 29), pts w.heap.size (.cells #[i64 players, .slice ba nb bc, i64 x0, i64 y0, i64 x1, i64 y1, .slice ra rooms.length rc, .slice da doors.length dc, i64 fog, i64 gx, i64 gy, i64 push, i64 drag, i64 rest, i64 rounds, i64 fuel] 31), old w] ∧ Stable w wr) (fun i _ => rooms.length - (intOf i).toNat)
  case atStart => exact ⟨0, Nat.zero_le _, rfl, by simp, hS0, hst0⟩
  case round =>
    obtain ⟨k, hk, rfl, hno, hSr, hst⟩ := hrel
    have v0 := cell_of_blk hSr.get 0
    have v1 := cell_of_blk hSr.get 1
    have hq := hl_lt hSr.get
    have s6 := cell_of_blk (hSr.pick 1).get 6
    have hq2 := hl_lt (hSr.pick 1).get
    have HNO := Lib.hid hno
    clear hno
    by_cases hlt : k < rooms.length
    · obtain ⟨b, off, cap, hv, hc⟩ := readsB_at H.out (by omega)
      obtain ⟨rfl, rfl⟩ : ra = some ⟨b, off, none⟩ ∧ rc = cap := by simpa using hv
      have hck := hc k hlt
      have hbl := World.block_lt_of_cell? w _ hck.1
      have hold := (hSr.pick 2).oldGet b hbl
      have c0 : wr.cell? ⟨b, off + k * 4, none⟩ = _ := (World.cell?_of_block (a := ⟨b, off + k * 4, none⟩) hold).trans hck.1
      have c1 : wr.cell? ⟨b, off + k * 4 + 1, none⟩ = _ := (World.cell?_of_block (a := ⟨b, off + k * 4 + 1, none⟩) hold).trans hck.2.1
      have c2 : wr.cell? ⟨b, off + k * 4 + 2, none⟩ = _ := (World.cell?_of_block (a := ⟨b, off + k * 4 + 2, none⟩) hold).trans hck.2.2.1
      have c3 : wr.cell? ⟨b, off + k * 4 + 3, none⟩ = _ := (World.cell?_of_block (a := ⟨b, off + k * 4 + 3, none⟩) hold).trans hck.2.2.2
      have HLT := Lib.hid hlt
      have hat := roomIx_at hlt HNO.out
      have HAT := Lib.hid hat
      clear hv hc hck hold hat
      generalize hbx : rooms.getD k (0, 0, 0, 0) = bx at *
      have HBX := Lib.hid hbx
      clear hbx
      obtain ⟨b0, b1, b2, b3⟩ := bx
      dsimp only at c0 c1 c2 c3
      have hS2 := hSr.allocBeside (.cells #[i64 b0, i64 b1, i64 b2, i64 b3] 25)
      have hst2 := hst.alloc (.cells #[i64 b0, i64 b1, i64 b2, i64 b3] 25)
      have hcase : (b0 ≤ x ∧ x ≤ b2 ∧ b1 ≤ y ∧ y ≤ b3) ∨ (¬ b0 ≤ x) ∨ (b0 ≤ x ∧ ¬ x ≤ b2) ∨ (b0 ≤ x ∧ x ≤ b2 ∧ ¬ b1 ≤ y) ∨ (b0 ≤ x ∧ x ≤ b2 ∧ b1 ≤ y ∧ ¬ y ≤ b3) := by omega
      rcases hcase with ⟨h1, h2, h3, h4⟩ | h1 | ⟨h1, h2⟩ | ⟨h1, h2, h3⟩ | ⟨h1, h2, h3, h4⟩
      · have hin : inB (b0, b1, b2, b3) x y = true := by simp [inB, h1, h2, h3, h4]
        have HIN := Lib.hid hin
        clear hin
        go_wp2_with fail
        go_ret
        exact ⟨by rw [HAT.out HIN.out]; rfl, hS2.drop.drop, hst2⟩
      · have hin : inB (b0, b1, b2, b3) x y = false := by simp [inB, h1]
        have HIN := Lib.hid hin
        clear hin
        go_wp2_with fail
        refine ⟨⟨k + 1, by omega, by go_num, fun j hj => ?_, hS2, hst2⟩, by simp [intOf]; omega⟩
        rcases Nat.lt_or_ge j k with h | h
        · exact HNO.out j h
        · obtain rfl : j = k := by omega
          rw [HBX.out]; exact HIN.out
      · have hin : inB (b0, b1, b2, b3) x y = false := by simp [inB, h2]
        have HIN := Lib.hid hin
        clear hin
        go_wp2_with fail
        refine ⟨⟨k + 1, by omega, by go_num, fun j hj => ?_, hS2, hst2⟩, by simp [intOf]; omega⟩
        rcases Nat.lt_or_ge j k with h | h
        · exact HNO.out j h
        · obtain rfl : j = k := by omega
          rw [HBX.out]; exact HIN.out
      · have hin : inB (b0, b1, b2, b3) x y = false := by simp [inB, h3]
        have HIN := Lib.hid hin
        clear hin
        go_wp2_with fail
        refine ⟨⟨k + 1, by omega, by go_num, fun j hj => ?_, hS2, hst2⟩, by simp [intOf]; omega⟩
        rcases Nat.lt_or_ge j k with h | h
        · exact HNO.out j h
        · obtain rfl : j = k := by omega
          rw [HBX.out]; exact HIN.out
      · have hin : inB (b0, b1, b2, b3) x y = false := by simp [inB, h4]
        have HIN := Lib.hid hin
        clear hin
        go_wp2_with fail
        refine ⟨⟨k + 1, by omega, by go_num, fun j hj => ?_, hS2, hst2⟩, by simp [intOf]; omega⟩
        rcases Nat.lt_or_ge j k with h | h
        · exact HNO.out j h
        · obtain rfl : j = k := by omega
          rw [HBX.out]; exact HIN.out
    · obtain rfl : k = rooms.length := by omega
      clear hlt
      go_wp2_with fail
      go_ret
      exact ⟨by rw [roomIx_none HNO.out]; rfl, hSr.drop.drop, hst⟩


end Go.Proofs.Ytjmlpjaahankcaa
