/- Contracts: the reference's Rooms; Rooms for any number. -/
import Derived.Test.YtjmlpjaahankcaaRooms
namespace Go.Proofs.Ytjmlpjaahankcaa
open Go.RowKit Go.Sl

variable {w : World} {L : List Asn}

set_option maxHeartbeats 4000000 in
theorem RoomsR_spec {s : St} (hs : s.Reads w) (hf : s.Fine) (k : Nat) (hk : k < s.rooms.length) :
    Calls Try.prog 16 #[s.val, i64 k] w fun e w' => ∃ v, e = .returned v ∧ Sep w' [rowI v (roomsL s k), old w] ∧ Stable w w' := by
  obtain ⟨iI, hiI, hI0, hI1, hI2⟩ := info_parts infoI
  have hcn : ∀ (w' : World) (j : Nat), Sep w' [old w] → Calls Try.prog 35 #[s.val, i64 k, i64 j] w' (fun e w'' => e = .returned (.bool (connB s.doors k j)) ∧ Sep w'' [old w'] ∧ Stable w' w'') := fun w' j h =>
    connected_spec ⟨hs.rooms.of_heap h.oldGet, hs.doors.of_heap h.oldGet⟩ hf k j
  have hrl : roomsL s k = keepL (fun i => connB s.doors k i) s.rooms.length := rfl
  have h8 := hf.rooms
  rw [hrl]
  clear hs hf hrl
  obtain ⟨players, nb, ba, bc, x0, y0, x1, y1, rooms, ra, rc, doors, da, dc, fog, gx, gy, push, drag, rest, rounds, fuel⟩ := s
  dsimp only [St.val, St.doorsV] at *
  have hS0 := (Sep.start w).alloc (.cells #[i64 players, .slice ba nb bc, i64 x0, i64 y0, i64 x1, i64 y1, .slice ra rooms.length rc, .slice da doors.length dc, i64 fog, i64 gx, i64 gy, i64 push, i64 drag, i64 rest, i64 rounds, i64 fuel] 31)
  have hst0 := (Stable.refl w).alloc (.cells #[i64 players, .slice ba nb bc, i64 x0, i64 y0, i64 x1, i64 y1, .slice ra rooms.length rc, .slice da doors.length dc, i64 fog, i64 gx, i64 gy, i64 push, i64 drag, i64 rest, i64 rounds, i64 fuel] 31)
  have HCN := Lib.hid hcn
  clear hcn
  generalize hp : (fun i : Nat => connB doors k i) = p at *
  have HP := Lib.hid (congrFun hp)
  clear hp
  have g0 : decide ((k : Int) < 0) = false := by simp
  have g1 : decide (rooms.length ≤ k) = false := by simp; omega
  go_enter Try.func16, Try.ntmps16
  go_wp2_with fail
  go_loopw [5, 6] (fun o i wr => ∃ j : Nat, j ≤ rooms.length ∧ i = .int .i64 j ∧ Sep wr [rowI o (keepL p j), pts w.heap.size (.cells #[i64 players, .slice ba nb bc, i64 x0, i64 y0, i64 x1, i64 y1, .slice ra rooms.length rc, .slice da doors.length dc, i64 fog, i64 gx, i64 gy, i64 push, i64 drag, i64 rest, i64 rounds, i64 fuel] 31), old w] ∧ Stable w wr) (fun _ i _ => rooms.length - (intOf i).toNat)
  case atStart => exact ⟨0, Nat.zero_le _, rfl, hS0.addNil _ _, hst0⟩
  case round =>
    obtain ⟨j, hj, rfl, hSr, hst⟩ := hrel
    have hkl := keepL_length p j
    have s6 := cell_of_blk (hSr.pick 1).get 6
    by_cases hlt : j < rooms.length
    · have hsuc := keepL_succ p j
      have hbit := HCN.out wr j (hSr.drop.drop)
      rw [show connB doors k j = p j from HP.out j] at hbit
      have t0 := cell_of_blk (hSr.pick 1).get 0
      have t1 := cell_of_blk (hSr.pick 1).get 1
      have t2 := cell_of_blk (hSr.pick 1).get 2
      have t3 := cell_of_blk (hSr.pick 1).get 3
      have t4 := cell_of_blk (hSr.pick 1).get 4
      have t5 := cell_of_blk (hSr.pick 1).get 5
      have t7 := cell_of_blk (hSr.pick 1).get 7
      have t8 := cell_of_blk (hSr.pick 1).get 8
      have t9 := cell_of_blk (hSr.pick 1).get 9
      have t10 := cell_of_blk (hSr.pick 1).get 10
      have t11 := cell_of_blk (hSr.pick 1).get 11
      have t12 := cell_of_blk (hSr.pick 1).get 12
      have t13 := cell_of_blk (hSr.pick 1).get 13
      have t14 := cell_of_blk (hSr.pick 1).get 14
      have t15 := cell_of_blk (hSr.pick 1).get 15
      cases hb : p j
      · rw [hb] at hbit
        rw [hb, if_neg (by simp)] at hsuc
        have HSU := Lib.hid hsuc
        have HB := Lib.hid hbit
        clear hsuc hbit hb
        go_wp2_with fail
        refine HB.out.mono ?_
        rintro e w2 ⟨rfl, hS2, hst2⟩
        have hS2 := hSr.mount hS2
        go_wp2_with fail
        exact ⟨⟨j + 1, by omega, by go_num, by rw [HSU.out]; exact hS2, hst.trans hst2⟩, by simp [intOf]; omega⟩
      · rw [hb] at hbit
        rw [hb, if_pos rfl] at hsuc
        have HSU := Lib.hid hsuc
        have HB := Lib.hid hbit
        clear hsuc hbit hb
        go_wp2_with fail
        refine HB.out.mono ?_
        rintro e w2 ⟨rfl, hS2, hst2⟩
        have hS2 := (hSr.mount hS2).allocBeside (.cells #[i64 j] 3)
        go_wp2_with (at_builtin; refine wpList_append_sep rfl _ _ 22 22 rfl 3 iI _ 1 8 Try.underlying22 hiI hI0 hI1 hI2 rfl _ _ _ rfl hS2 1 [i64 j] (Src.ofSlice _ Try.underlying22 ⟨_, 0, none⟩ 1 1 _ rfl (fun j u hu => by rw [Addr.add_lit]; simpa using hu) (ints_one [(j : Int)])) (by unfold maxLen; omega) (by omega) ?_; intro v3 w3 hS3 hst3 hn3)
        exact ⟨⟨j + 1, by omega, by go_num, by rw [HSU.out]; exact rowI_app (l' := [(j : Int)]) hS3 rfl rfl, ((hst.trans hst2).alloc _).trans hst3⟩, by simp [intOf]; omega⟩
    · obtain rfl : j = rooms.length := by omega
      clear hlt
      go_wp2_with fail
      go_ret
      exact ⟨_, rfl, (hSr.pick 1).drop, hst⟩

end Go.Proofs.Ytjmlpjaahankcaa
