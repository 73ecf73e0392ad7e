/- Contracts: which rooms are visible from a room. -/
import Derived.Test.YtjmlpjaahankcaaRoom
namespace Go.Proofs.Ytjmlpjaahankcaa
open Go.RowKit Go.Sl

variable {w : World} {L : List Asn}

def hitB (d : Dr) (a b : Int) : Bool := ((d.1 == a) && (d.2 == b)) || ((d.1 == b) && (d.2 == a))
def connB (l : List Dr) (a b : Int) : Bool := l.any (fun d => hitB d a b) || (a == b)
theorem connB_hit {l : List Dr} {a b : Int} {k : Nat} (hk : k < l.length) (h : hitB (l.getD k (0, 0)) a b = true) : connB l a b = true := by
  have : l.any (fun d => hitB d a b) = true := List.any_eq_true.2 ⟨l[k], List.getElem_mem hk, by simpa [List.getD, hk] using h⟩
  simp [connB, this]
theorem connB_miss {l : List Dr} {a b : Int} (h : ∀ j, j < l.length → hitB (l.getD j (0, 0)) a b = false) : connB l a b = (a == b) := by
  have : l.any (fun d => hitB d a b) = false := by
    rw [List.any_eq_false]
    intro d hd
    obtain ⟨i, hi, rfl⟩ := List.mem_iff_getElem.1 hd
    have := h i hi
    simpa [List.getD, hi] using this
  simp [connB, this]

set_option maxHeartbeats 4000000 in
theorem connected_spec {s : St} (hs : s.Reads w) (hf : s.Fine) (a b : Int) :
    Calls Try.prog 35 #[s.val, i64 a, i64 b] w fun e w' => e = .returned (.bool (connB s.doors a b)) ∧ Sep w' [old w] ∧ Stable w w' := by
  have hr := hs.doors
  have hl := hf.doors
  clear hs hf
  obtain ⟨players, nb, ba, bc, x0, y0, x1, y1, rooms, ra, rc, doors, da, dc, fog, gx, gy, push, drag, rest, rounds, fuel⟩ := s
  dsimp only [St.val, St.doorsV] at *
  have H := Lib.hid hr
  have hS0 := (Sep.start w).alloc (.cells #[i64 players, .slice ba nb bc, i64 x0, i64 y0, i64 x1, i64 y1, .slice ra rooms.length rc, .slice da doors.length dc, i64 fog, i64 gx, i64 gy, i64 push, i64 drag, i64 rest, i64 rounds, i64 fuel] 31)
  have hst0 := (Stable.refl w).alloc (.cells #[i64 players, .slice ba nb bc, i64 x0, i64 y0, i64 x1, i64 y1, .slice ra rooms.length rc, .slice da doors.length dc, i64 fog, i64 gx, i64 gy, i64 push, i64 drag, i64 rest, i64 rounds, i64 fuel] 31)
  have hc : ∀ k, k < doors.length → ∃ b off cap, Value.slice da doors.length dc = .slice (some ⟨b, off, none⟩) doors.length cap ∧
      (w.alloc (.cells #[i64 players, .slice ba nb bc, i64 x0, i64 y0, i64 x1, i64 y1, .slice ra rooms.length rc, .slice da doors.length dc, i64 fog, i64 gx, i64 gy, i64 push, i64 drag, i64 rest, i64 rounds, i64 fuel] 31)).cell? ⟨b, off + k * 2, none⟩ = some (i64 (doors.getD k (0, 0)).1) ∧
      (w.alloc (.cells #[i64 players, .slice ba nb bc, i64 x0, i64 y0, i64 x1, i64 y1, .slice ra rooms.length rc, .slice da doors.length dc, i64 fog, i64 gx, i64 gy, i64 push, i64 drag, i64 rest, i64 rounds, i64 fuel] 31)).cell? ⟨b, off + k * 2 + 1, none⟩ = some (i64 (doors.getD k (0, 0)).2) := fun k hk => by
    obtain ⟨b, off, cap, hv, hc⟩ := readsD_at H.out (by omega)
    have hck := hc k hk
    have hbl := World.block_lt_of_cell? w _ hck.1
    have hold := hS0.drop.oldGet b hbl
    exact ⟨b, off, cap, hv, (World.cell?_of_block (a := ⟨b, off + k * 2, none⟩) hold).trans hck.1, (World.cell?_of_block (a := ⟨b, off + k * 2 + 1, none⟩) hold).trans hck.2⟩
  have s7 := cell_of_blk hS0.get 7
  have HC := Lib.hid hc
  clear hr hc
  go_enter Try.func35, Try.ntmps35
  go_wp2_with fail
  generalize hw0 : w.heap.size = b0 at *
  have HW0 := Lib.hid hw0
  clear hw0
  generalize World.alloc w _ = w0 at *
  go_loop [7] (fun i => ∃ k : Nat, k ≤ doors.length ∧ i = .int .i64 k ∧ (∀ j, j < k → hitB (doors.getD j (0, 0)) a b = false)) (fun i => doors.length - (intOf i).toNat)
  case atStart => exact ⟨0, Nat.zero_le _, rfl, by simp⟩
  case round =>
    obtain ⟨k, hk, rfl, hno⟩ := hrel
    have HNO := Lib.hid hno
    clear hno
    by_cases hlt : k < doors.length
    · obtain ⟨bb, off, cap, hv, c0, c1⟩ := HC.out k hlt
      obtain ⟨rfl, rfl⟩ : da = some ⟨bb, off, none⟩ ∧ dc = cap := by simpa using hv
      have HAT := Lib.hid (connB_hit (a := a) (b := b) hlt)
      clear hv
      generalize hd : doors.getD k (0, 0) = d at *
      have HD := Lib.hid hd
      clear hd
      obtain ⟨f, t⟩ := d
      dsimp only at c0 c1
      have hhit : hitB (f, t) a b = (((f == a) && (t == b)) || ((f == b) && (t == a))) := rfl
      cases h1 : f == a <;> cases h2 : t == b <;> cases h3 : f == b <;> cases h4 : t == a
      all_goals
        rw [h1, h2, h3, h4] at hhit
        simp at hhit
        have HH := Lib.hid hhit
        clear hhit
        go_wp2_with fail
        first
          | (go_ret; exact ⟨by rw [HAT.out HH.out]; rfl, hS0.drop, hst0⟩)
          | (refine ⟨⟨k + 1, by omega, by go_num, fun j hj => ?_⟩, by simp [intOf]; omega⟩
             rcases Nat.lt_or_ge j k with h | h
             · exact HNO.out j h
             · obtain rfl : j = k := by omega
               rw [HD.out]; exact HH.out)
    · obtain rfl : k = doors.length := by omega
      have hm := connB_miss HNO.out
      have HM := Lib.hid hm
      clear hlt hm
      go_wp2_with fail
      go_ret
      exact ⟨by rw [HM.out]; rfl, hS0.drop, hst0⟩

end Go.Proofs.Ytjmlpjaahankcaa
