/- The walk of LayoutDisjoint. -/
import Derived.Test.YtkalpgngoijdmaaLaw12
namespace Go.Proofs.Ytkalpgngoijdmaa
open Go.RowKit Go.Sl

/-- The counts, when m cells from the 48th on are counted once. -/
def fillL (n m : Nat) : List Int := (List.range n).map fun i => if 48 ≤ i ∧ i < 48 + m then 1 else 0
theorem fillL_length (n m : Nat) : (fillL n m).length = n := by simp [fillL]
theorem fillL_get (n m i : Nat) (h : i < n) : (fillL n m).getD i 0 = if 48 ≤ i ∧ i < 48 + m then 1 else 0 := by
  simp [fillL, List.getD_eq_getElem?_getD, h]
theorem fillL_set (n m : Nat) : (fillL n m).set (48 + m) 1 = fillL n (m + 1) := by
  apply List.ext_getElem?
  intro i
  rw [List.getElem?_set, fillL_length]
  by_cases hi : i < n
  · have e : ∀ m, (fillL n m)[i]? = some (if 48 ≤ i ∧ i < 48 + m then 1 else 0) := fun m => by simp [fillL, hi]
    rw [e, e]
    by_cases h : 48 + m = i
    · rw [if_pos h, if_pos (by omega), if_pos (by omega)]
    · rw [if_neg h]
      congr 1
      by_cases h2 : 48 ≤ i ∧ i < 48 + m
      · rw [if_pos h2, if_pos (by omega)]
      · rw [if_neg h2, if_neg (by omega)]
  · have e : ∀ m, (fillL n m)[i]? = none := fun m => by rw [List.getElem?_eq_none (by rw [fillL_length]; omega)]
    rw [e, e]
    by_cases h : 48 + m = i
    · rw [if_pos h, if_neg (by omega)]
    · rw [if_neg h]
theorem fillL_zero (n : Nat) : ints (fillL n 0) = List.replicate n (i64 0) := by
  apply List.ext_getElem
  · simp [fillL, ints]
  · intro i h1 h2
    simp [fillL, ints]

set_option maxRecDepth 100000 in
set_option maxHeartbeats 8000000 in
theorem layoutDisjoint_walk {w : World} {u : Value} {l : List Int} (e0 : readsI w u l) (b0 : l.length ≤ 9223372036854775807) (w0 : ∀ x ∈ l, inI64 x) :
    Calls Try.prog 6 #[u] w fun e w' => e = .returned (.bool true) ∧ Below w.heap.size w w' := by
  have hSet := Setup12_spec e0 w0 b0
  have HS := Lib.hid hSet
  clear hSet e0 b0 w0
  go_enter Try.func6, Try.ntmps6
  go_wp2_with fail
  refine HS.out.mono ?_
  rintro e w1 ⟨su, rfl, hg, hS1, hst1⟩
  have hB1 : Below w.heap.size w w1 := (Su.oldPart hS1).below hst1
  obtain ⟨np, hnp, hnp3⟩ := hg.base.players_nat
  have hpb : 0 ≤ su.st.players ∧ su.st.players ≤ 1000 := by omega
  have hnb := hg.base.nb
  have hfew := hg.base.few
  have hPl : ∀ (q : Nat), q < np → ∀ W, Calls Try.prog 17 #[su.st.val, i64 (q : Int)] W fun e w' => e = .returned (i64 ((48 + 4 * q : Nat) : Int)) ∧ Sep w' [old W] ∧ Stable W w' := fun q hq W => by
    have := Player_spec su.st (q : Int) hpb W
    rw [show playerAt su.st (q : Int) = ((48 + 4 * q : Nat) : Int) by unfold playerAt; rw [if_pos (by omega)]; omega] at this
    exact this
  have hBo : ∀ (q : Nat), q < su.bodies.length → ∀ W, Calls Try.prog 19 #[su.st.val, i64 (q : Int)] W fun e w' => e = .returned (i64 ((48 + 4 * np + 8 * q : Nat) : Int)) ∧ Sep w' [old W] ∧ Stable W w' := fun q hq W => by
    have := Body_spec su.st (q : Int) hpb (by omega) W
    rw [show bodyAt su.st (q : Int) = ((48 + 4 * np + 8 * q : Nat) : Int) by unfold bodyAt; rw [if_pos (by omega), hnp]; omega] at this
    exact this
  have hSz := fun W => Size_spec su.st hpb (by omega) W
  have hSzR := fun W => SizeR_spec su.st hpb (by omega) W
  rw [hnp, hnb, show 48 + 4 * (np : Int) + 8 * (su.bodies.length : Int) = ((48 + 4 * np + 8 * su.bodies.length : Nat) : Int) by omega] at hSz hSzR
  have HB := Lib.hid hB1
  clear hS1 hst1 hB1 hg hpb
  obtain ⟨s, bodies⟩ := su
  obtain ⟨players, nb, ba, bc, x0, y0, x1, y1, rooms, ra, rc, doors, da, dc, fog, gx, gy, push, drag, rest, rounds, fuel⟩ := s
  dsimp only [St.val] at *
  subst hnb
  subst hnp
  obtain ⟨n, hn⟩ : ∃ n : Nat, 48 + 4 * np + 8 * bodies.length = n := ⟨_, rfl⟩
  rw [hn] at hSz hSzR
  have HC := Lib.hid (And.intro hPl (And.intro hBo (And.intro hSz hSzR)))
  clear hPl hBo hSz hSzR HS
  have H1 := Lib.hid (And.intro ((Sep.start w1).alloc (.cells #[i64 0, .slice none 0 0, i64 0, i64 0, i64 0, i64 0, .slice none 0 0, .slice none 0 0, i64 0, i64 0, i64 0, i64 0, i64 0, i64 0, i64 0, i64 0] 31)) ((Stable.refl w1).alloc (.cells #[i64 0, .slice none 0 0, i64 0, i64 0, i64 0, i64 0, .slice none 0 0, .slice none 0 0, i64 0, i64 0, i64 0, i64 0, i64 0, i64 0, i64 0, i64 0] 31)))
  go_upto_region 2 with (refine wpList_store_sep rfl 31 _ _ rfl w1.heap.size #[i64 (np : Int), .slice ba bodies.length bc, i64 x0, i64 y0, i64 x1, i64 y1, .slice ra rooms.length rc, .slice da doors.length dc, i64 fog, i64 gx, i64 gy, i64 push, i64 drag, i64 rest, i64 rounds, i64 fuel] rfl rfl H1.out.1 (by kernel_rfl) rfl (by kernel_rfl) ?_; intro w2 hS2 hst2)
  generalize w1.heap.size = bs at *
  have H2 := Lib.hid (And.intro hS2 (H1.out.2.trans hst2))
  clear hS2 hst2 H1
  go_wp2_with (refine wpList_load_g 31 _ rfl _ rfl _ _ _ _ (Sep.get H2.out.1) Try.underlying31 rfl (by kernel_rfl) (by first | rfl | (go_simp; done) | (go_simp; omega)) ?_)
  refine (HC.out.2.2.1 _).mono ?_
  rintro e w3 ⟨rfl, hS3, hst3⟩
  have H3 := Lib.hid (And.intro (H2.out.1.mount hS3) (H2.out.2.trans hst3))
  clear hS3 hst3 H2
  go_wp2_with (refine wpList_load_g 31 _ rfl _ rfl _ _ _ _ (Sep.get H3.out.1) Try.underlying31 rfl (by kernel_rfl) (by first | rfl | (go_simp; done) | (go_simp; omega)) ?_)
  refine (HC.out.2.2.2 _).mono ?_
  rintro e w4 ⟨rfl, hS4, hst4⟩
  have H4 := Lib.hid (And.intro (H3.out.1.mount hS4) (H3.out.2.trans hst4))
  clear hS4 hst4 H3
  obtain ⟨iI, hiI, hI0, hI1, hI2⟩ := info_parts infoI
  go_wp2_with (at_make; refine wpList_make_sep rfl _ _ _ rfl 3 iI _ 8 Try.underlying22 hiI hI0 hI1 hI2 rfl n rfl rfl (by omega) (by unfold maxLen; omega) H4.out.1 ?_; rintro v5 w5 ⟨gu, rfl⟩ hS5 hst5)
  have hS5' : Sep w5 [rowI (.slice (some ⟨gu, 0, none⟩) n n) (fillL n 0), pts bs (.cells #[i64 (np : Int), .slice ba bodies.length bc, i64 x0, i64 y0, i64 x1, i64 y1, .slice ra rooms.length rc, .slice da doors.length dc, i64 fog, i64 gx, i64 gy, i64 push, i64 drag, i64 rest, i64 rounds, i64 fuel] 31), old w1] := by
    show Sep w5 [row 3 1 _ (fillL n 0).length (ints (fillL n 0)), pts bs (.cells #[i64 (np : Int), .slice ba bodies.length bc, i64 x0, i64 y0, i64 x1, i64 y1, .slice ra rooms.length rc, .slice da doors.length dc, i64 fog, i64 gx, i64 gy, i64 push, i64 drag, i64 rest, i64 rounds, i64 fuel] 31), old w1]
    rw [fillL_length, fillL_zero]
    exact hS5
  have H5 := Lib.hid (And.intro hS5' (H4.out.2.trans hst5))
  clear hS5 hS5' hst5 H4
  go_wp2_with fail
  go_loopw [6] (fun j wr => ∃ q : Nat, q ≤ np ∧ j = .int .i64 q ∧ Sep wr [rowI (.slice (some ⟨gu, 0, none⟩) n n) (fillL n (0 + 4 * q)), pts bs (.cells #[i64 (np : Int), .slice ba bodies.length bc, i64 x0, i64 y0, i64 x1, i64 y1, .slice ra rooms.length rc, .slice da doors.length dc, i64 fog, i64 gx, i64 gy, i64 push, i64 drag, i64 rest, i64 rounds, i64 fuel] 31), old w1] ∧ Stable w1 wr) (fun j _ => np - (intOf j).toNat)
  case atStart => exact ⟨0, by omega, rfl, by simpa using H5.out.1, H5.out.2⟩
  case round =>
    clear H5
    obtain ⟨q, hq, rfl, hSr, hst⟩ := hrel
    have s0 := cellD (hSr.pick 1) 0
    have s1 := cellD (hSr.pick 1) 1
    have HR := Lib.hid (And.intro hSr hst)
    clear hSr hst
    by_cases hlt : q < np
    · have hqi : (q : Int) < np := by omega
      have gq : decide ((q : Int) < np) = true := by rw [decide_eq_true_eq]; omega
      go_wp2_with (refine wpList_load_g 31 _ rfl _ rfl _ _ _ _ (Sep.get (HR.out.1.pick 1)) Try.underlying31 rfl (by kernel_rfl) (by first | rfl | (go_simp; done) | (go_simp; omega)) ?_)
      refine (HC.out.1 q hlt _).mono ?_
      rintro e w6 ⟨rfl, hS6, hst6⟩
      have H6 := Lib.hid (And.intro (HR.out.1.mount hS6) (HR.out.2.trans hst6))
      clear hS6 hst6 HR s0 s1
      obtain ⟨at0, hat⟩ : ∃ m : Nat, 48 + 4 * q = m := ⟨_, rfl⟩
      rw [hat]
      have h48 : ¬ ((at0 : Int) < 48) := by omega
      have hatn : at0 + 4 ≤ n := by omega
      have HAT := Lib.hid hat
      clear hat
      go_wp2_with fail
      go_loopw [8] (fun j wr => ∃ k : Nat, k ≤ 4 ∧ j = .int .i64 k ∧ Sep wr [rowI (.slice (some ⟨gu, 0, none⟩) n n) (fillL n (0 + 4 * q + k)), pts bs (.cells #[i64 (np : Int), .slice ba bodies.length bc, i64 x0, i64 y0, i64 x1, i64 y1, .slice ra rooms.length rc, .slice da doors.length dc, i64 fog, i64 gx, i64 gy, i64 push, i64 drag, i64 rest, i64 rounds, i64 fuel] 31), old w1] ∧ Stable w1 wr) (fun j _ => 4 - (intOf j).toNat)
      case atStart => exact ⟨0, by omega, rfl, H6.out.1, H6.out.2⟩
      case round =>
        clear H6
        obtain ⟨k, hk, rfl, hSk, hstk⟩ := hrel
        by_cases hkl : k < 4
        · obtain ⟨g', cap', hv, _, _, hcw, _, _⟩ := rowI_at hSk (by rw [fillL_length]; omega)
          have hgg : gu = g' := by have := congrArg (fun v => match v with | Value.slice (some a) _ _ => a.block | _ => 0) hv; simpa using this
          subst hgg
          have hcl := hcw (at0 + k) (by rw [fillL_length]; omega)
          rw [fillL_get _ _ _ (by omega), if_neg (by have := HAT.out; omega)] at hcl
          have hset := rowI_set hSk (at0 + k) 1 (by rw [fillL_length]; omega)
          have eat : at0 + k = 48 + (0 + 4 * q + k) := by have := HAT.out; omega
          have hfs := fillL_set n (0 + 4 * q + k)
          rw [← eat] at hfs
          rw [hfs] at hset
          have H7 := Lib.hid (And.intro hset hstk)
          have hge : ¬ ((n : Int) ≤ (at0 : Int) + k) := by omega
          clear hv hcw hSk hset hstk eat hfs
          go_wp2_with fail
          exact ⟨⟨k + 1, by omega, by go_num, H7.out.1, H7.out.2.setCell _ _⟩, by simp [intOf]; omega⟩
        · obtain rfl : k = 4 := by omega
          have H7 := Lib.hid (And.intro hSk hstk)
          clear hSk hstk
          go_wp2_with fail
          exact ⟨⟨q + 1, by omega, by go_num, by rw [Nat.mul_add]; exact H7.out.1, H7.out.2⟩, by simp [intOf]; omega⟩
    · obtain rfl : np = q := by omega
      have H5 := Lib.hid (And.intro HR.out.1 HR.out.2)
      clear HR
      go_wp2_with fail
      clear s0 s1
      go_loopw [9] (fun j wr => ∃ q : Nat, q ≤ bodies.length ∧ j = .int .i64 q ∧ Sep wr [rowI (.slice (some ⟨gu, 0, none⟩) n n) (fillL n (4 * np + 8 * q)), pts bs (.cells #[i64 (np : Int), .slice ba bodies.length bc, i64 x0, i64 y0, i64 x1, i64 y1, .slice ra rooms.length rc, .slice da doors.length dc, i64 fog, i64 gx, i64 gy, i64 push, i64 drag, i64 rest, i64 rounds, i64 fuel] 31), old w1] ∧ Stable w1 wr) (fun j _ => bodies.length - (intOf j).toNat)
      case atStart => exact ⟨0, by omega, rfl, by simpa using H5.out.1, H5.out.2⟩
      case round =>
        clear H5
        obtain ⟨q, hq, rfl, hSr, hst⟩ := hrel
        have s0 := cellD (hSr.pick 1) 0
        have s1 := cellD (hSr.pick 1) 1
        have HR := Lib.hid (And.intro hSr hst)
        clear hSr hst
        by_cases hlt : q < bodies.length
        · have hqi : (q : Int) < bodies.length := by omega
          have gq : decide ((q : Int) < bodies.length) = true := by rw [decide_eq_true_eq]; omega
          go_wp2_with (refine wpList_load_g 31 _ rfl _ rfl _ _ _ _ (Sep.get (HR.out.1.pick 1)) Try.underlying31 rfl (by kernel_rfl) (by first | rfl | (go_simp; done) | (go_simp; omega)) ?_)
          refine (HC.out.2.1 q hlt _).mono ?_
          rintro e w6 ⟨rfl, hS6, hst6⟩
          have H6 := Lib.hid (And.intro (HR.out.1.mount hS6) (HR.out.2.trans hst6))
          clear hS6 hst6 HR s0 s1
          obtain ⟨at0, hat⟩ : ∃ m : Nat, 48 + 4 * np + 8 * q = m := ⟨_, rfl⟩
          rw [hat]
          have h48 : ¬ ((at0 : Int) < 48) := by omega
          have hatn : at0 + 8 ≤ n := by omega
          have HAT := Lib.hid hat
          clear hat
          go_wp2_with fail
          go_loopw [11] (fun j wr => ∃ k : Nat, k ≤ 8 ∧ j = .int .i64 k ∧ Sep wr [rowI (.slice (some ⟨gu, 0, none⟩) n n) (fillL n (4 * np + 8 * q + k)), pts bs (.cells #[i64 (np : Int), .slice ba bodies.length bc, i64 x0, i64 y0, i64 x1, i64 y1, .slice ra rooms.length rc, .slice da doors.length dc, i64 fog, i64 gx, i64 gy, i64 push, i64 drag, i64 rest, i64 rounds, i64 fuel] 31), old w1] ∧ Stable w1 wr) (fun j _ => 8 - (intOf j).toNat)
          case atStart => exact ⟨0, by omega, rfl, H6.out.1, H6.out.2⟩
          case round =>
            clear H6
            obtain ⟨k, hk, rfl, hSk, hstk⟩ := hrel
            by_cases hkl : k < 8
            · obtain ⟨g', cap', hv, _, _, hcw, _, _⟩ := rowI_at hSk (by rw [fillL_length]; omega)
              have hgg : gu = g' := by have := congrArg (fun v => match v with | Value.slice (some a) _ _ => a.block | _ => 0) hv; simpa using this
              subst hgg
              have hcl := hcw (at0 + k) (by rw [fillL_length]; omega)
              rw [fillL_get _ _ _ (by omega), if_neg (by have := HAT.out; omega)] at hcl
              have hset := rowI_set hSk (at0 + k) 1 (by rw [fillL_length]; omega)
              have eat : at0 + k = 48 + (4 * np + 8 * q + k) := by have := HAT.out; omega
              have hfs := fillL_set n (4 * np + 8 * q + k)
              rw [← eat] at hfs
              rw [hfs] at hset
              have H7 := Lib.hid (And.intro hset hstk)
              have hge : ¬ ((n : Int) ≤ (at0 : Int) + k) := by omega
              clear hv hcw hSk hset hstk eat hfs
              go_wp2_with fail
              exact ⟨⟨k + 1, by omega, by go_num, H7.out.1, H7.out.2.setCell _ _⟩, by simp [intOf]; omega⟩
            · obtain rfl : k = 8 := by omega
              have H7 := Lib.hid (And.intro hSk hstk)
              clear hSk hstk
              go_wp2_with fail
              exact ⟨⟨q + 1, by omega, by go_num, by rw [Nat.mul_add]; exact H7.out.1, H7.out.2⟩, by simp [intOf]; omega⟩
        · obtain rfl : bodies.length = q := by omega
          have H8 := Lib.hid (And.intro HR.out.1 HR.out.2)
          obtain ⟨g', cap', hv, _, _, hcw, _, _⟩ := rowI_at HR.out.1 (by rw [fillL_length]; omega)
          have hgg : gu = g' := by have := congrArg (fun v => match v with | Value.slice (some a) _ _ => a.block | _ => 0) hv; simpa using this
          subst hgg
          have HCW := Lib.hid hcw
          clear HR hv hcw
          go_wp2_with fail
          clear s0 s1
          obtain ⟨wc, hwc⟩ : ∃ wc, wc = wr := ⟨_, rfl⟩
          have HW := Lib.hid hwc
          rw [← hwc] at HCW H8
          clear hwc
          go_loopw [12] (fun j wq => wq = wc ∧ ∃ k : Nat, k ≤ n ∧ j = .int .i64 k) (fun j _ => n - (intOf j).toNat)
          case atStart => exact ⟨HW.out.symm, 0, by omega, rfl⟩
          case round =>
            clear HW
            obtain ⟨rfl, k, hk, rfl⟩ := hrel
            by_cases hkl : k < n
            · have hc := HCW.out k (by rw [fillL_length]; exact hkl)
              rw [fillL_get _ _ _ hkl] at hc
              by_cases hk48 : 48 ≤ k
              · rw [if_pos ⟨hk48, by omega⟩] at hc
                have g1 : decide ((48 : Int) ≤ k) = true := by rw [decide_eq_true_eq]; omega
                go_wp2_with fail
                exact ⟨⟨trivial, k + 1, by omega, by go_num⟩, by simp [intOf]; omega⟩
              · rw [if_neg (by omega)] at hc
                have g1 : decide ((48 : Int) ≤ k) = false := by rw [decide_eq_false_iff_not]; omega
                go_wp2_with fail
                exact ⟨⟨trivial, k + 1, by omega, by go_num⟩, by simp [intOf]; omega⟩
            · obtain rfl : k = n := by omega
              go_wp2_with fail
              refine (lives_spec H8.out.1).mono ?_
              rintro e w9 ⟨rfl, hS9, hst9⟩
              have H9 := Lib.hid (And.intro hS9 (H8.out.2.trans hst9))
              clear hS9 hst9
              go_wp2_with fail
              go_ret
              exact ⟨rfl, rebase HB.out (Sep.below H9.out.1.drop.drop H9.out.2)⟩

end Go.Proofs.Ytkalpgngoijdmaa
