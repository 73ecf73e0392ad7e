/- Contracts: the mask of the rooms visible from a room. -/
import Derived.Test.YtjmlpjaahankcaaConn
namespace Go.Proofs.Ytjmlpjaahankcaa
open Go.RowKit Go.Sl

variable {w : World} {L : List Asn}

def maskStep (a : Nat) (m : Nat) (d : Dr) : Nat :=
  let m1 := if d.1 == (a : Int) then m ||| 2 ^ d.2.toNat else m
  if d.2 == (a : Int) then m1 ||| 2 ^ d.1.toNat else m1
def maskTo (l : List Dr) (a k : Nat) : Nat := (l.take k).foldl (maskStep a) (2 ^ a)
theorem maskTo_succ (l : List Dr) (a k : Nat) (h : k < l.length) : maskTo l a (k + 1) = maskStep a (maskTo l a k) (l.getD k (0, 0)) := by
  unfold maskTo
  rw [List.take_succ_eq_append_getElem h, List.foldl_append]
  simp [List.getD, h]
theorem or_lt {a b : Nat} (ha : a < 256) (hb : b < 256) : a ||| b < 256 := Nat.or_lt_two_pow (n := 8) ha hb
theorem pow_lt {a : Nat} (ha : a < 8) : 2 ^ a < 256 := Nat.pow_lt_pow_right (a := 2) (by omega) (n := 8) ha

theorem u64_small {m : Nat} (h : m < 256) : IntKind.u64.wrap (m : Int) = (m : Int) := by
  unfold IntKind.wrap
  simp only [IntKind.signed, IntKind.bits, Bool.false_and, Bool.false_eq_true, if_false]
  omega
theorem bits_or_small {m n : Nat} (h1 : m < 256) (h2 : n < 256) : bits BinOp.or IntKind.u64 (m : Int) (n : Int) = ((m ||| n : Nat) : Int) := by
  unfold bits
  simp only [BitVec.ofInt_natCast, BitVec.toNat_or, BitVec.toNat_ofNat]
  show IntKind.u64.wrap (((m % 2 ^ 64) ||| (n % 2 ^ 64) : Nat) : Int) = _
  rw [Nat.mod_eq_of_lt (by omega), Nat.mod_eq_of_lt (by omega), u64_small (or_lt h1 h2)]
theorem bits_or_pow {m t : Nat} (h1 : m < 256) (h2 : t < 8) : bits BinOp.or IntKind.u64 (m : Int) ((2 : Int) ^ t) = ((m ||| 2 ^ t : Nat) : Int) := by
  have := bits_or_small h1 (pow_lt h2)
  rwa [show (((2 ^ t : Nat) : Int)) = (2 : Int) ^ t by simp] at this
theorem wrapPow {k : Nat} (h : k < 8) : IntKind.u64.wrap ((2 : Int) ^ k) = ((2 ^ k : Nat) : Int) := by
  rcases (by omega : k = 0 ∨ k = 1 ∨ k = 2 ∨ k = 3 ∨ k = 4 ∨ k = 5 ∨ k = 6 ∨ k = 7) with rfl | rfl | rfl | rfl | rfl | rfl | rfl | rfl <;> rfl

set_option maxHeartbeats 4000000 in
theorem mask_spec {s : St} (hs : s.Reads w) (hf : s.Fine) (k : Nat) (hk : k < s.rooms.length) :
    Calls Try.prog 33 #[s.val, i64 k] w fun e w' => e = .returned (.int .u64 ((maskTo s.doors k s.doors.length : Nat) : Int)) ∧ Sep w' [old w] ∧ Stable w w' := by
  have hr := hs.doors
  have hl := hf.doors
  have hl8 := hf.rooms
  have hv0 := hf.valid
  clear hs hf
  obtain ⟨players, nb, ba, bc, x0, y0, x1, y1, rooms, ra, rc, doors, da, dc, fog, gx, gy, push, drag, rest, rounds, fuel⟩ := s
  dsimp only [St.val, St.doorsV] at *
  have HF := Lib.hid hv0
  clear hv0
  have hp := wrapPow (k := k) (by omega)
  have H := Lib.hid hr
  have hS0 := (Sep.start w).allocBeside (.cells #[i64 players, .slice ba nb bc, i64 x0, i64 y0, i64 x1, i64 y1, .slice ra rooms.length rc, .slice da doors.length dc, i64 fog, i64 gx, i64 gy, i64 push, i64 drag, i64 rest, i64 rounds, i64 fuel] 31)
  have hst0 := (Stable.refl w).alloc (.cells #[i64 players, .slice ba nb bc, i64 x0, i64 y0, i64 x1, i64 y1, .slice ra rooms.length rc, .slice da doors.length dc, i64 fog, i64 gx, i64 gy, i64 push, i64 drag, i64 rest, i64 rounds, i64 fuel] 31)
  clear hr
  go_enter Try.func33, Try.ntmps33
  go_wp2_with fail
  go_loopw [5, 22] (fun m i wr => ∃ j : Nat, j ≤ doors.length ∧ i = .int .i64 j ∧ m = .int .u64 ((maskTo doors k j : Nat) : Int) ∧ maskTo doors k j < 256 ∧ Sep wr [old w] ∧ Stable w wr) (fun _ i _ => doors.length - (intOf i).toNat)
  case atStart => exact ⟨0, Nat.zero_le _, rfl, by simp [maskTo], by simp only [maskTo, List.take_zero, List.foldl_nil]; exact pow_lt (by omega), hS0, hst0⟩
  case round =>
    obtain ⟨j, hj, rfl, rfl, hm, hSr, hst⟩ := hrel
    by_cases hlt : j < doors.length
    · obtain ⟨bb, off, cap, hv, hc⟩ := readsD_at H.out (by omega)
      obtain ⟨rfl, rfl⟩ : da = some ⟨bb, off, none⟩ ∧ dc = cap := by simpa using hv
      have hck := hc j hlt
      have hbl := World.block_lt_of_cell? w _ hck.1
      have hold := hSr.oldGet bb hbl
      have c0 : wr.cell? ⟨bb, off + j * 2, none⟩ = _ := (World.cell?_of_block (a := ⟨bb, off + j * 2, none⟩) hold).trans hck.1
      have c1 : wr.cell? ⟨bb, off + j * 2 + 1, none⟩ = _ := (World.cell?_of_block (a := ⟨bb, off + j * 2 + 1, none⟩) hold).trans hck.2
      have hval := HF.out (doors.getD j (0, 0)) (by rw [show doors.getD j (0, 0) = doors[j] by simp [List.getD, hlt]]; exact List.getElem_mem hlt)
      have hsuc := maskTo_succ doors k j hlt
      have HSU := Lib.hid hsuc
      clear hv hc hck hold hsuc
      generalize doors.getD j (0, 0) = d at *
      generalize maskTo doors k j = m at *
      obtain ⟨f, t⟩ := d
      dsimp only at c0 c1 hval
      obtain ⟨f, rfl⟩ : ∃ f' : Nat, f = f' := ⟨f.toNat, by omega⟩
      obtain ⟨t, rfl⟩ : ∃ t' : Nat, t = t' := ⟨t.toNat, by omega⟩
      have hpf := wrapPow (k := f) (by omega)
      have hpt := wrapPow (k := t) (by omega)
      have hpt8 := pow_lt (a := t) (by omega)
      have hpf8 := pow_lt (a := f) (by omega)
      have hb1 := bits_or_pow (m := m) (t := t) hm (by omega)
      have hb2 := bits_or_pow (m := m) (t := f) hm (by omega)
      have hb3 := bits_or_pow (m := m ||| 2 ^ t) (t := f) (or_lt hm hpt8) (by omega)
      have HB1 := Lib.hid hb1
      have HB2 := Lib.hid hb2
      have HB3 := Lib.hid hb3
      have HP := Lib.hid (And.intro hpt8 hpf8)
      clear hb1 hb2 hb3 hpt8 hpf8
      cases h1 : (f : Int) == (k : Int) <;> cases h2 : (t : Int) == (k : Int)
      · have hms : maskTo doors k (j + 1) = m := by rw [HSU.out]; simp [maskStep, h1, h2]
        have HMS := Lib.hid hms
        clear hms
        go_wp2_with fail
        refine ⟨⟨j + 1, by omega, by go_num, by rw [HMS.out], by rw [HMS.out]; exact hm, hSr.allocBeside _, hst.alloc _⟩, by simp [intOf]; omega⟩
      · have hms : maskTo doors k (j + 1) = m ||| 2 ^ f := by rw [HSU.out]; simp [maskStep, h1, h2]
        have HMS := Lib.hid hms
        clear hms
        go_wp2_with fail
        refine ⟨⟨j + 1, by omega, by go_num, by rw [HMS.out]; exact congrArg (Value.int .u64) HB2.out, by rw [HMS.out]; exact or_lt hm HP.out.2, hSr.allocBeside _, hst.alloc _⟩, by simp [intOf]; omega⟩
      · have hms : maskTo doors k (j + 1) = m ||| 2 ^ t := by rw [HSU.out]; simp [maskStep, h1, h2]
        have HMS := Lib.hid hms
        clear hms
        go_wp2_with fail
        refine ⟨⟨j + 1, by omega, by go_num, by rw [HMS.out]; exact congrArg (Value.int .u64) HB1.out, by rw [HMS.out]; exact or_lt hm HP.out.1, hSr.allocBeside _, hst.alloc _⟩, by simp [intOf]; omega⟩
      · have hms : maskTo doors k (j + 1) = m ||| 2 ^ t ||| 2 ^ f := by rw [HSU.out]; simp [maskStep, h1, h2]
        have HMS := Lib.hid hms
        clear hms
        go_wp2_with fail
        refine ⟨⟨j + 1, by omega, by go_num, by rw [HMS.out]; congr 1; rw [HB1.out, HB3.out], by rw [HMS.out]; exact or_lt (or_lt hm HP.out.1) HP.out.2, hSr.allocBeside _, hst.alloc _⟩, by simp [intOf]; omega⟩
    · obtain rfl : j = doors.length := by omega
      clear hlt
      go_wp2_with fail
      go_ret
      exact ⟨rfl, hSr, hst⟩

end Go.Proofs.Ytjmlpjaahankcaa
