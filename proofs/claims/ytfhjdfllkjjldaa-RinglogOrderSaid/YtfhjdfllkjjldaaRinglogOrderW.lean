/- The walk of RinglogOrder. -/
import Derived.Test.YtfhjdfllkjjldaaLives
namespace Go.Proofs.Ytfhjdfllkjjldaa
open Go.RowKit Go.Sl

variable {w : World} {L : List Asn}

theorem new1 (t m : Int) : newest [(t, m)] = t := by simp [newest]
theorem old1 (t m : Int) : oldest [(t, m)] = t := by simp [oldest]
theorem find1 (t : Int) : findT [(t, 0)] t = ((0 : Nat) : Int) := findT_at (by simp) (by simp) (by simp)

set_option maxRecDepth 100000 in
set_option maxHeartbeats 4000000 in
theorem ringlogOrder_walk {first tick : Int} (hf : inI64 first) (htk : inI64 tick) :
    Calls Try.prog 4 #[i64 first, i64 tick] w fun e w' => e = .returned (.bool true) ∧ Below w.heap.size w w' := by
  have hA := fun w => Around_spec first 1000 w (by omega) (by omega) hf
  have t0 : 0 ≤ around first 1000 := around_lo (by omega)
  have t1 : around first 1000 < 1000 := around_hi (by omega)
  generalize around first 1000 = t at *
  have HA := Lib.hid hA
  unfold inI64 at htk
  obtain ⟨k0, k1⟩ := htk
  clear hA hf
  go_enter Try.func4, Try.ntmps4
  go_wp2_with fail
  refine (made_spec (Sep.start w) 3).mono ?_
  rintro e w1 ⟨p0, m0, rfl, hS1, hst1⟩
  have H1 := Lib.hid (And.intro hS1 hst1)
  clear hS1 hst1
  go_wp2_with fail
  refine (HA.out _).mono ?_
  rintro e w2 ⟨rfl, rfl⟩
  go_wp2_with fail
  refine (Push_neg H1.out.1 (-1 - t) (by omega)).mono ?_
  rintro e w2 ⟨rfl, rfl⟩
  go_wp2_with fail
  refine (Newest_spec H1.out.1 (by simp)).mono ?_
  rintro e w2 ⟨rfl, n2, rfl⟩
  rw [show newest [] = -1 from rfl]
  have H2 := Lib.hid (And.intro (H1.out.1.drewN n2) (H1.out.2.drewN n2))
  generalize World.drewN _ n2 = un2 at H2 ⊢
  go_wp2_with fail
  refine (Rew_none H2.out.1 (small_lit _ _ _ (by decide) (by decide) (by decide) (by decide)) (by simp) t rfl).mono ?_
  rintro e w3 ⟨rfl, hS3, hst3⟩
  have H3 := Lib.hid (And.intro hS3 (H2.out.2.trans hst3))
  clear hS3 hst3
  go_wp2_with fail
  refine (Push_acc H3.out.1 (small_lit _ _ _ (by decide) (by decide) (by decide) (by decide)) (by simp) (by decide) t (by omega) (by simp) (by simp) (by omega) (by omega) (by simp)).mono ?_
  rintro e w4 ⟨rfl, hS4⟩
  unfold pushPost at hS4
  rw [if_pos (by simp)] at hS4
  have H4 := Lib.hid (And.intro (show Sep w4 (ring (.pointer (some ⟨p0, 0, none⟩)) (.pointer (some ⟨m0, 0, none⟩)) 3 [(t, 0)] :: mem (.pointer (some ⟨m0, 0, none⟩)) [3, 1, 4, 1, 5, 9] 0 [] :: [old w]) from hS4.1) (H3.out.2.trans hS4.2))
  clear hS4 H1 H2 H3
  go_wp2_with fail
  by_cases ht : tick = t + 1
  · have g1 : (tick == t + 1) = true := by rw [beq_iff_eq]; exact ht
    have HT := Lib.hid ht
    refine (Push_acc H4.out.1 (small_lit _ _ _ (by decide) (by decide) (by decide) (by decide)) (by simp) (by rw [new1]; omega) tick (by omega) (fun _ => by rw [new1]; exact ht) (by simp) (by omega) (by omega) (by simp)).mono ?_
    rintro e w5 ⟨rfl, hS5⟩
    unfold pushPost at hS5
    rw [if_pos (by simp)] at hS5
    have H5 := Lib.hid (And.intro (show Sep w5 (ring (.pointer (some ⟨p0, 0, none⟩)) (.pointer (some ⟨m0, 0, none⟩)) 3 [(t, 0), (tick, 0)] :: mem (.pointer (some ⟨m0, 0, none⟩)) [3, 1, 4, 1, 5, 9] 0 [] :: [old w]) from hS5.1) (H4.out.2.trans hS5.2))
    clear hS5 ht
    go_wp2_with fail
    refine (Newest_spec H5.out.1 (by simp)).mono ?_
    rintro e w6 ⟨rfl, n6, rfl⟩
    rw [show newest [(t, 0), (tick, 0)] = tick by simp [newest]]
    have H6 := Lib.hid (And.intro (H5.out.1.drewN n6) (H5.out.2.drewN n6))
    generalize World.drewN _ n6 = un6 at H6 ⊢
    go_wp2_with fail
    refine (lives_spec H6.out.1).mono ?_
    rintro e w7 ⟨rfl, hS7, hst7⟩
    have H7 := Lib.hid (And.intro hS7 (H6.out.2.trans hst7))
    clear hS7 hst7
    go_wp2_with fail
    go_ret
    exact ⟨rfl, Sep.below H7.out.1.drop.drop H7.out.2⟩
  have g1 : (tick == t + 1) = false := by rw [beq_eq_false_iff_ne]; exact ht
  by_cases hn : tick < 0
  · have HT := Lib.hid ht
    clear ht
    refine (Push_neg H4.out.1 tick hn).mono ?_
    rintro e w5 ⟨rfl, rfl⟩
    go_wp2_with fail
    refine (Newest_spec H4.out.1 (by simp)).mono ?_
    rintro e w8 ⟨rfl, n8, rfl⟩
    rw [new1]
    have H8 := Lib.hid (And.intro (H4.out.1.drewN n8) (H4.out.2.drewN n8))
    generalize World.drewN _ n8 = un8 at H8 ⊢
    go_wp2_with fail
    refine (Oldest_spec H8.out.1 (by simp)).mono ?_
    rintro e w9 ⟨rfl, rfl⟩
    rw [old1]
    go_wp2_with fail
    refine (Push_order H8.out.1 (by simp) (by rw [new1]; omega) t (by omega) (by simp) (by rw [new1]; omega)).mono ?_
    rintro e w9 ⟨rfl, n9, rfl⟩
    have H9 := Lib.hid (And.intro (H8.out.1.drewN n9) (H8.out.2.drewN n9))
    generalize World.drewN _ n9 = un9 at H9 ⊢
    go_wp2_with fail
    refine (Push_order H9.out.1 (by simp) (by rw [new1]; omega) (t + 2) (by omega) (by simp) (by rw [new1]; omega)).mono ?_
    rintro e w10 ⟨rfl, n10, rfl⟩
    have H10 := Lib.hid (And.intro (H9.out.1.drewN n10) (H9.out.2.drewN n10))
    generalize World.drewN _ n10 = un10 at H10 ⊢
    go_wp2_with fail
    refine (Rew_ok H10.out.1 (small_lit _ _ _ (by decide) (by decide) (by decide) (by decide)) (by simp) t 0 (by simp) (by rw [old1]; omega) (find1 t) (by simp) (by simp)).mono ?_
    rintro e w11 ⟨⟨rfl, hS11⟩, hst11⟩
    have H11 := Lib.hid (And.intro hS11 (H10.out.2.trans hst11))
    clear hS11 hst11
    go_wp2_with fail
    refine (lives_spec H11.out.1).mono ?_
    rintro e w12 ⟨rfl, hS12, hst12⟩
    have H12 := Lib.hid (And.intro hS12 (H11.out.2.trans hst12))
    clear hS12 hst12
    go_wp2_with fail
    go_ret
    exact ⟨rfl, Sep.below H12.out.1.drop.drop H12.out.2⟩
  · refine (Push_order H4.out.1 (by simp) (by rw [new1]; omega) tick (by omega) (by simp) (by rw [new1]; exact ht)).mono ?_
    rintro e w5 ⟨rfl, n5, rfl⟩
    have HT := Lib.hid ht
    clear ht
    have H5 := Lib.hid (And.intro (H4.out.1.drewN n5) (H4.out.2.drewN n5))
    generalize World.drewN _ n5 = un5 at H5 ⊢
    clear H4
    go_wp2_with fail
    refine (Newest_spec H5.out.1 (by simp)).mono ?_
    rintro e w8 ⟨rfl, n8, rfl⟩
    rw [new1]
    have H8 := Lib.hid (And.intro (H5.out.1.drewN n8) (H5.out.2.drewN n8))
    generalize World.drewN _ n8 = un8 at H8 ⊢
    go_wp2_with fail
    refine (Oldest_spec H8.out.1 (by simp)).mono ?_
    rintro e w9 ⟨rfl, rfl⟩
    rw [old1]
    go_wp2_with fail
    refine (Push_order H8.out.1 (by simp) (by rw [new1]; omega) t (by omega) (by simp) (by rw [new1]; omega)).mono ?_
    rintro e w9 ⟨rfl, n9, rfl⟩
    have H9 := Lib.hid (And.intro (H8.out.1.drewN n9) (H8.out.2.drewN n9))
    generalize World.drewN _ n9 = un9 at H9 ⊢
    go_wp2_with fail
    refine (Push_order H9.out.1 (by simp) (by rw [new1]; omega) (t + 2) (by omega) (by simp) (by rw [new1]; omega)).mono ?_
    rintro e w10 ⟨rfl, n10, rfl⟩
    have H10 := Lib.hid (And.intro (H9.out.1.drewN n10) (H9.out.2.drewN n10))
    generalize World.drewN _ n10 = un10 at H10 ⊢
    go_wp2_with fail
    refine (Rew_ok H10.out.1 (small_lit _ _ _ (by decide) (by decide) (by decide) (by decide)) (by simp) t 0 (by simp) (by rw [old1]; omega) (find1 t) (by simp) (by simp)).mono ?_
    rintro e w11 ⟨⟨rfl, hS11⟩, hst11⟩
    have H11 := Lib.hid (And.intro hS11 (H10.out.2.trans hst11))
    clear hS11 hst11
    go_wp2_with fail
    refine (lives_spec H11.out.1).mono ?_
    rintro e w12 ⟨rfl, hS12, hst12⟩
    have H12 := Lib.hid (And.intro hS12 (H11.out.2.trans hst12))
    clear hS12 hst12
    go_wp2_with fail
    go_ret
    exact ⟨rfl, Sep.below H12.out.1.drop.drop H12.out.2⟩

end Go.Proofs.Ytfhjdfllkjjldaa
