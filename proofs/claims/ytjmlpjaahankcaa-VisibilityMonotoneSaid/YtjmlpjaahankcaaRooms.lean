/- Contracts: Rooms. -/
import Derived.Test.YtjmlpjaahankcaaMask
import Derived.Deep.RegionWith
namespace Go.Proofs.Ytjmlpjaahankcaa
open Go.RowKit Go.Sl

variable {w : World} {L : List Asn}

theorem bits_and_one {n : Nat} (h : n < 256) : bits BinOp.and IntKind.u64 (n : Int) 1 = ((n % 2 : Nat) : Int) := by
  have : bits BinOp.and IntKind.u64 (n : Int) ((1 : Nat) : Int) = ((n &&& 1 : Nat) : Int) := by
    unfold bits
    simp only [BitVec.ofInt_natCast, BitVec.toNat_and, BitVec.toNat_ofNat]
    show IntKind.u64.wrap (((n % 2 ^ 64) &&& (1 % 2 ^ 64) : Nat) : Int) = _
    rw [Nat.mod_eq_of_lt (by omega), Nat.mod_eq_of_lt (by omega), u64_small (Nat.lt_of_le_of_lt Nat.and_le_left h)]
  rw [Nat.and_one_is_mod] at this
  exact this
theorem bit_law {m i : Nat} (hm : m < 256) : (bits BinOp.and IntKind.u64 ((m : Int) / 2 ^ i) 1 == 1) = m.testBit i := by
  have e : ((m : Int) / 2 ^ i) = ((m / 2 ^ i : Nat) : Int) := by simp
  have hd : m / 2 ^ i < 256 := Nat.lt_of_le_of_lt (Nat.div_le_self _ _) hm
  rw [e, bits_and_one hd, Nat.testBit_eq_decide_div_mod_eq]
  rw [Bool.eq_iff_iff]
  simp only [beq_iff_eq, decide_eq_true_eq]
  omega
theorem bit_spec (m i : Nat) (hm : m < 256) (hi : i < 8) (w : World) :
    Calls Try.prog 34 #[.int .u64 (m : Int), i64 i] w fun e w' => e = .returned (.bool (m.testBit i)) ∧ w = w' := by
  go_enter Try.func34, Try.ntmps34
  go_wp2
  go_ret
  exact ⟨congrArg (fun b => Ending.returned (.bool b)) (bit_law hm), rfl⟩

/-- The numbers below n for which p holds. -/
def keepL (p : Nat → Bool) (n : Nat) : List Int := ((List.range n).filter p).map Int.ofNat
theorem keepL_succ (p : Nat → Bool) (n : Nat) : keepL p (n + 1) = if p n then keepL p n ++ [(n : Int)] else keepL p n := by
  unfold keepL
  rw [List.range_succ, List.filter_append, List.map_append]
  cases h : p n <;> simp [h]
theorem keepL_length (p : Nat → Bool) (n : Nat) : (keepL p n).length ≤ n := by
  simp only [keepL, List.length_map]
  exact Nat.le_trans (List.length_filter_le _ _) (by simp)

set_option maxHeartbeats 4000000 in
theorem filterU_spec (m n : Nat) (hm : m < 256) (hn : n ≤ 8) (w : World) :
    Calls Try.prog 32 #[i64 n, .int .u64 (m : Int), .func (.func 34) #[] #[]] w fun e w' => ∃ v, e = .returned v ∧ Sep w' [rowI v (keepL m.testBit n), old w] ∧ Stable w w' := by
  obtain ⟨iI, hiI, hI0, hI1, hI2⟩ := info_parts infoI
  go_enter Try.func32, Try.ntmps32
  go_wp2_with fail
  go_loopw [7, 8, 10] (fun o u8 i wr => ∃ j : Nat, j ≤ n ∧ i = .int .i64 j ∧ Sep wr [rowI o (keepL m.testBit j), old w] ∧ Stable w wr) (fun _ _ i _ => n - (intOf i).toNat)
  case atStart => exact ⟨0, Nat.zero_le _, rfl, (Sep.start w).addNil _ _, Stable.refl w⟩
  case round =>
    obtain ⟨j, hj, rfl, hSr, hst⟩ := hrel
    have hkl := keepL_length m.testBit j
    by_cases hlt : j < n
    · have hsuc := keepL_succ m.testBit j
      have hbit := bit_spec m j hm (by omega) wr
      cases hb : m.testBit j
      · rw [hb] at hbit
        rw [hb, if_neg (by simp)] at hsuc
        have HSU := Lib.hid hsuc
        have HB := Lib.hid hbit
        clear hsuc hbit hb
        go_wp2_with fail
        refine HB.out.mono ?_
        rintro e w2 ⟨rfl, rfl⟩
        go_wp2_with fail
        exact ⟨⟨j + 1, by omega, by go_num, by rw [HSU.out]; exact hSr, hst⟩, by simp [intOf]; omega⟩
      · rw [hb] at hbit
        rw [hb, if_pos rfl] at hsuc
        have HSU := Lib.hid hsuc
        have HB := Lib.hid hbit
        have hS2 := hSr.allocBeside (.cells #[i64 j] 3)
        clear hsuc hbit hb
        go_wp2_with fail
        refine HB.out.mono ?_
        rintro e w2 ⟨rfl, rfl⟩
        go_wp2_with (at_builtin; refine wpList_append_sep rfl _ _ 22 22 rfl 3 iI _ 1 8 Try.underlying22 hiI hI0 hI1 hI2 rfl _ _ _ rfl hS2 1 [i64 j] (Src.ofSlice _ Try.underlying22 ⟨_, 0, none⟩ 1 1 _ rfl (fun j u hu => by rw [Addr.add_lit]; simpa using hu) (ints_one [(j : Int)])) (by unfold maxLen; omega) (by omega) ?_; intro v3 w3 hS3 hst3 hn3)
        exact ⟨⟨j + 1, by omega, by go_num, by rw [HSU.out]; exact rowI_app (l' := [(j : Int)]) hS3 rfl rfl, (hst.alloc _).trans hst3⟩, by simp [intOf]; omega⟩
    · obtain rfl : j = n := by omega
      clear hlt
      go_wp2_with fail
      go_ret
      exact ⟨_, rfl, hSr, hst⟩

theorem maskTo_bit (l : List Dr) (a : Nat) (hv : ∀ d ∈ l, 0 ≤ d.1 ∧ 0 ≤ d.2) (i : Nat) : ∀ j, j ≤ l.length → (maskTo l a j).testBit i = ((l.take j).any (fun d => hitB d a i) || (a == i))
  | 0, _ => by rw [Bool.eq_iff_iff]; simp [maskTo, Nat.testBit_two_pow]
  | j + 1, h => by
    have ih := maskTo_bit l a hv i j (by omega)
    rw [maskTo_succ l a j (by omega)]
    have hd : l.getD j (0, 0) = l[j] := by simp [List.getD, show j < l.length by omega]
    have hd2 := hv l[j] (List.getElem_mem _)
    rw [List.take_succ_eq_append_getElem (by omega), List.any_append, hd]
    generalize l[j] = d at *
    generalize (l.take j).any (fun d => hitB d a i) = X at *
    generalize maskTo l a j = m at *
    obtain ⟨f, t⟩ := d
    obtain ⟨f, rfl⟩ : ∃ f' : Nat, f = f' := ⟨f.toNat, by omega⟩
    obtain ⟨t, rfl⟩ : ∃ t' : Nat, t = t' := ⟨t.toNat, by omega⟩
    have e1 : ((f : Int) == (i : Int)) = decide (f = i) := by rw [Bool.eq_iff_iff]; simp; omega
    have e2 : ((t : Int) == (i : Int)) = decide (t = i) := by rw [Bool.eq_iff_iff]; simp; omega
    simp only [maskStep, hitB, List.any_cons, List.any_nil, Bool.or_false, Int.toNat_natCast, e1, e2]
    cases h1 : (f : Int) == (a : Int) <;> cases h2 : (t : Int) == (a : Int) <;> simp [Nat.testBit_or, ih, Nat.testBit_two_pow] <;> cases X <;> cases (a == i) <;> cases (decide (f = i)) <;> cases (decide (t = i)) <;> rfl
def roomsL (s : St) (k : Nat) : List Int := keepL (fun i => connB s.doors k i) s.rooms.length

theorem maskTo_lt (l : List Dr) (a n : Nat) (hn : n ≤ 8) (ha : a < n) (hv : ∀ d ∈ l, 0 ≤ d.1 ∧ d.1 < n ∧ 0 ≤ d.2 ∧ d.2 < n) : ∀ j, j ≤ l.length → maskTo l a j < 256
  | 0, _ => by simp only [maskTo, List.take_zero, List.foldl_nil]; exact pow_lt (by omega)
  | j + 1, h => by
    have ih := maskTo_lt l a n hn ha hv j (by omega)
    rw [maskTo_succ l a j (by omega)]
    have hd : l.getD j (0, 0) = l[j] := by simp [List.getD, show j < l.length by omega]
    have hd2 := hv l[j] (List.getElem_mem _)
    rw [hd]
    generalize l[j] = d at *
    have p1 := pow_lt (a := d.1.toNat) (by omega)
    have p2 := pow_lt (a := d.2.toNat) (by omega)
    unfold maskStep
    dsimp only
    split <;> split <;> first | exact or_lt (or_lt ih p2) p1 | exact or_lt ih p1 | exact or_lt ih p2 | exact ih

set_option maxHeartbeats 4000000 in
theorem Rooms_spec {s : St} (hs : s.Reads w) (hf : s.Fine) (k : Nat) (hk : k < s.rooms.length) :
    Calls Try.prog 15 #[s.val, i64 k] w fun e w' => ∃ v, e = .returned v ∧ Sep w' [rowI v (roomsL s k), old w] ∧ Stable w w' := by
  have hlt := maskTo_lt s.doors k s.rooms.length hf.rooms hk hf.valid _ (Nat.le_refl _)
  have hbit : ∀ i, (maskTo s.doors k s.doors.length).testBit i = connB s.doors k i := fun i => by
    rw [maskTo_bit s.doors k (fun d hd => ⟨(hf.valid d hd).1, (hf.valid d hd).2.2.1⟩) i _ (Nat.le_refl _), List.take_length, connB]
    congr 1
    rw [Bool.eq_iff_iff]; simp; omega
  have hkeep : keepL (maskTo s.doors k s.doors.length).testBit s.rooms.length = roomsL s k := by
    unfold roomsL; congr 1; funext i; exact hbit i
  have h8 := hf.rooms
  have hmk : ∀ o, Calls Try.prog 33 #[s.val, i64 k] (w.alloc o).drew _ := fun o => mask_spec (w := (w.alloc o).drew) ⟨hs.rooms.of_heap (heap_alloc_lt w _), hs.doors.of_heap (heap_alloc_lt w _)⟩ hf k hk
  rw [← hkeep]
  clear hs hf hbit hkeep
  obtain ⟨players, nb, ba, bc, x0, y0, x1, y1, rooms, ra, rc, doors, da, dc, fog, gx, gy, push, drag, rest, rounds, fuel⟩ := s
  dsimp only [St.val, St.doorsV] at *
  have hS0 := (Sep.start w).alloc (.cells #[i64 players, .slice ba nb bc, i64 x0, i64 y0, i64 x1, i64 y1, .slice ra rooms.length rc, .slice da doors.length dc, i64 fog, i64 gx, i64 gy, i64 push, i64 drag, i64 rest, i64 rounds, i64 fuel] 31)
  have hst0 := (Stable.refl w).alloc (.cells #[i64 players, .slice ba nb bc, i64 x0, i64 y0, i64 x1, i64 y1, .slice ra rooms.length rc, .slice da doors.length dc, i64 fog, i64 gx, i64 gy, i64 push, i64 drag, i64 rest, i64 rounds, i64 fuel] 31)
  have HMK := Lib.hid hmk
  clear hmk
  generalize maskTo doors k doors.length = m at *
  go_enter Try.func15, Try.ntmps15
  go_wp2_with fail
  go_region_with (first
    | (go_at_call 33; refine (HMK.out _).mono ?_; rintro e w2 ⟨rfl, hS2, hst2⟩; have hS2' := hS0.drew.mount hS2; have c6 := cell_of_blk hS2'.get 6)
    | (go_at_call 32; refine (filterU_spec m rooms.length hlt h8 w2).mono ?_; rintro e w3 ⟨v3, rfl, hS3, hst3⟩))
  all_goals
    go_wp2_with fail
    go_ret
    exact ⟨_, rfl, ((hS2'.mount (hS3.pick 1)).pick 1).drop.pick 0, (hst0.drew.trans hst2).trans hst3⟩

end Go.Proofs.Ytjmlpjaahankcaa
