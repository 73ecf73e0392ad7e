/- Contracts: made, keeps, lives. -/
import Derived.Test.YtfhjdfllkjjldaaRew
import Derived.Test.YtfhjdfllkjjldaaAround
namespace Go.Proofs.Ytfhjdfllkjjldaa
open Go.RowKit Go.Sl

variable {w : World} {L : List Asn} {p mp : Value} {keep : Int} {es : List (Int × Int)} {cs : List Int} {base : Int} {log : List (Int × Int)}

theorem reads_lit (W : World) (l : List Int) (h : l.length ≤ maxLen) : readsI (W.alloc (.cells (ints l).toArray 3)) (.slice (some ⟨W.heap.size, 0, none⟩) l.length l.length) l := by
  refine ⟨by rw [ints_length]; simp, .inr ⟨_, 0, _, rfl, Nat.le_refl _, h, fun i hi => ?_⟩⟩
  rw [Nat.zero_add, World.cell?_alloc_new]; simp
theorem small_lit (cs : List Int) (base : Int) (log : List (Int × Int)) (h1 : cs.length ≤ 100) (h0 : 0 ≤ base ∧ base ≤ 100) (h2 : log.length ≤ 100) (h3 : ∀ x ∈ log, hasB cs x.1 = true) : Small cs base log :=
  ⟨by omega, by omega, by omega, h3⟩
theorem ring_ptr (hS : Sep w (ring p mp keep es :: L)) : ∃ p0, p = .pointer (some ⟨p0, 0, none⟩) := by
  obtain ⟨p0, _, h, _⟩ := ring_open hS
  exact ⟨p0, h⟩

set_option maxHeartbeats 1000000 in
theorem made_spec (hS : Sep w L) (keep : Int) : Calls Try.prog 11 #[i64 keep] w fun e w' => ∃ p0 m0, e = .returned (.tuple #[.pointer (some ⟨m0, 0, none⟩), .pointer (some ⟨p0, 0, none⟩)]) ∧
    Sep w' (ring (.pointer (some ⟨p0, 0, none⟩)) (.pointer (some ⟨m0, 0, none⟩)) keep [] :: mem (.pointer (some ⟨m0, 0, none⟩)) [3, 1, 4, 1, 5, 9] 0 [] :: L) ∧ Stable w w' := by
  have hr := reads_lit w [3, 1, 4, 1, 5, 9] (by decide)
  have H0 := Lib.hid (And.intro hr (And.intro (hS.allocBeside (.cells #[i64 3, i64 1, i64 4, i64 1, i64 5, i64 9] 3)) ((Stable.refl w).alloc (.cells #[i64 3, i64 1, i64 4, i64 1, i64 5, i64 9] 3))))
  clear hr hS
  go_enter Try.func11, Try.ntmps11
  go_wp2_with fail
  refine (New_spec H0.out.1 (by decide)).mono ?_
  rintro e w1 ⟨mp, rfl, hS1, hst1, hp⟩
  have hS2 := H0.out.2.1.mount hS1
  have hst2 := H0.out.2.2.trans hst1
  obtain ⟨m0, _, _, _, _, rfl, _⟩ := mem_cells hS2
  have H2 := Lib.hid (And.intro hS2 hst2)
  clear hS1 hS2 hst1 hst2 hp
  go_wp2_with fail
  refine (RingNew_spec m0 H2.out.1 keep).mono ?_
  rintro e w3 ⟨p, rfl, hp, hS3, hst3⟩
  obtain ⟨p0, rfl⟩ := ring_ptr hS3
  have H3 := Lib.hid (And.intro hS3 (H2.out.2.trans hst3))
  clear hS3 hst3 hp
  go_wp2_with fail
  go_ret2
  exact ⟨p0, m0, rfl, H3.out.1, H3.out.2⟩

set_option maxRecDepth 100000 in
set_option maxHeartbeats 4000000 in
theorem lives_spec (hS : Sep w L) : Calls Try.prog 19 #[] w fun e w' => e = .returned (.bool true) ∧ Sep w' L ∧ Stable w w' := by
  have hr := reads_lit w [1, 2] (by decide)
  have H0 := Lib.hid (And.intro hr (And.intro (hS.allocBeside (.cells #[i64 1, i64 2] 3)) ((Stable.refl w).alloc (.cells #[i64 1, i64 2] 3))))
  clear hr hS
  go_enter Try.func19, Try.ntmps19
  go_wp2_with fail
  refine (New_spec H0.out.1 (by decide)).mono ?_
  rintro e w1 ⟨mp, rfl, hS1, hst1, hp⟩
  have hS2 := H0.out.2.1.mount hS1
  have hst2 := H0.out.2.2.trans hst1
  obtain ⟨m0, _, _, _, _, rfl, _⟩ := mem_cells hS2
  have H1 := Lib.hid (And.intro hS2 hst2)
  clear hS1 hS2 hst1 hst2 hp
  go_wp2_with fail
  refine (RingNew_spec m0 H1.out.1 2).mono ?_
  rintro e w2 ⟨p, rfl, hp, hS2, hst2⟩
  obtain ⟨p0, rfl⟩ := ring_ptr hS2
  have H2 := Lib.hid (And.intro (show Sep w2 (ring (.pointer (some ⟨p0, 0, none⟩)) (.pointer (some ⟨m0, 0, none⟩)) 2 [] :: mem (.pointer (some ⟨m0, 0, none⟩)) [1, 2] (0) [] :: L) from hS2) (H1.out.2.trans hst2))
  clear hS2 hst2 hp H1 H0
  go_wp2_with fail
  refine (Oldest_spec H2.out.1 (by decide)).mono ?_
  rintro e w3 ⟨rfl, rfl⟩
  have H3 := H2
  go_wp2_with fail
  refine (Push_acc H3.out.1 (small_lit _ _ _ (by decide) (by decide) (by decide) (by decide)) (by decide) (by decide) 5 (by decide) (by decide) (by decide) (by decide) (by decide) (by decide)).mono ?_
  rintro e w4 ⟨rfl, hS4⟩
  unfold pushPost at hS4
  rw [if_pos (by decide)] at hS4
  have H4 := Lib.hid (And.intro (show Sep w4 (ring (.pointer (some ⟨p0, 0, none⟩)) (.pointer (some ⟨m0, 0, none⟩)) 2 [(5, 0)] :: mem (.pointer (some ⟨m0, 0, none⟩)) [1, 2] (0) [] :: L) from hS4.1) (H3.out.2.trans hS4.2))
  clear hS4
  go_wp2_with fail
  refine (Set_spec (Sep.pick 1 H4.out.1) (small_lit _ _ _ (by decide) (by decide) (by decide) (by decide)) (by decide) 0 8).mono ?_
  rintro e w5 ⟨rfl, hS5, hst5⟩
  have H5 := Lib.hid (And.intro (show Sep w5 (ring (.pointer (some ⟨p0, 0, none⟩)) (.pointer (some ⟨m0, 0, none⟩)) 2 [(5, 0)] :: mem (.pointer (some ⟨m0, 0, none⟩)) [8, 2] (0) [(0, 1)] :: L) from hS5.pick 1) (H4.out.2.trans hst5))
  clear hS5 hst5
  go_wp2_with fail
  refine (Push_acc H5.out.1 (small_lit _ _ _ (by decide) (by decide) (by decide) (by decide)) (by decide) (by decide) 6 (by decide) (by decide) (by decide) (by decide) (by decide) (by decide)).mono ?_
  rintro e w6 ⟨rfl, hS6⟩
  unfold pushPost at hS6
  rw [if_pos (by decide)] at hS6
  have H6 := Lib.hid (And.intro (show Sep w6 (ring (.pointer (some ⟨p0, 0, none⟩)) (.pointer (some ⟨m0, 0, none⟩)) 2 [(5, 0), (6, 1)] :: mem (.pointer (some ⟨m0, 0, none⟩)) [8, 2] (0) [(0, 1)] :: L) from hS6.1) (H5.out.2.trans hS6.2))
  clear hS6
  go_wp2_with fail
  refine (Set_spec (Sep.pick 1 H6.out.1) (small_lit _ _ _ (by decide) (by decide) (by decide) (by decide)) (by decide) 0 9).mono ?_
  rintro e w7 ⟨rfl, hS7, hst7⟩
  have H7 := Lib.hid (And.intro (show Sep w7 (ring (.pointer (some ⟨p0, 0, none⟩)) (.pointer (some ⟨m0, 0, none⟩)) 2 [(5, 0), (6, 1)] :: mem (.pointer (some ⟨m0, 0, none⟩)) [9, 2] (0) [(0, 1), (0, 8)] :: L) from hS7.pick 1) (H6.out.2.trans hst7))
  clear hS7 hst7
  go_wp2_with fail
  refine (Push_acc H7.out.1 (small_lit _ _ _ (by decide) (by decide) (by decide) (by decide)) (by decide) (by decide) 7 (by decide) (by decide) (by decide) (by decide) (by decide) (by decide)).mono ?_
  rintro e w8 ⟨rfl, hS8⟩
  unfold pushPost at hS8
  rw [if_neg (by decide)] at hS8
  have H8 := Lib.hid (And.intro (show Sep w8 (ring (.pointer (some ⟨p0, 0, none⟩)) (.pointer (some ⟨m0, 0, none⟩)) 2 [(6, 1), (7, 2)] :: mem (.pointer (some ⟨m0, 0, none⟩)) [9, 2] (1) [(0, 8)] :: L) from hS8.1) (H7.out.2.trans hS8.2))
  clear hS8
  go_wp2_with fail
  refine (Set_spec (Sep.pick 1 H8.out.1) (small_lit _ _ _ (by decide) (by decide) (by decide) (by decide)) (by decide) 1 9).mono ?_
  rintro e w9 ⟨rfl, hS9, hst9⟩
  have H9 := Lib.hid (And.intro (show Sep w9 (ring (.pointer (some ⟨p0, 0, none⟩)) (.pointer (some ⟨m0, 0, none⟩)) 2 [(6, 1), (7, 2)] :: mem (.pointer (some ⟨m0, 0, none⟩)) [9, 9] (1) [(0, 8), (1, 2)] :: L) from hS9.pick 1) (H8.out.2.trans hst9))
  clear hS9 hst9
  go_wp2_with fail
  refine (Oldest_spec H9.out.1 (by decide)).mono ?_
  rintro e w10 ⟨rfl, rfl⟩
  have H10 := H9
  go_wp2_with fail
  refine (Rew_old H10.out.1 (small_lit _ _ _ (by decide) (by decide) (by decide) (by decide)) (by decide) 5 (by decide) (by decide)).mono ?_
  rintro e w11 ⟨rfl, hS11, hst11⟩
  have H11 := Lib.hid (And.intro (show Sep w11 (ring (.pointer (some ⟨p0, 0, none⟩)) (.pointer (some ⟨m0, 0, none⟩)) 2 [(6, 1), (7, 2)] :: mem (.pointer (some ⟨m0, 0, none⟩)) [9, 9] (1) [(0, 8), (1, 2)] :: L) from hS11) (H10.out.2.trans hst11))
  clear hS11 hst11
  go_wp2_with fail
  refine (Rew_ok H11.out.1 (small_lit _ _ _ (by decide) (by decide) (by decide) (by decide)) (by decide) 6 0 (by decide) (by decide) (by decide) (by decide) (by decide)).mono ?_
  rintro e w12 ⟨⟨rfl, hS12⟩, hst12⟩
  have H12 := Lib.hid (And.intro (show Sep w12 (ring (.pointer (some ⟨p0, 0, none⟩)) (.pointer (some ⟨m0, 0, none⟩)) 2 [(6, 1)] :: mem (.pointer (some ⟨m0, 0, none⟩)) [8, 2] (1) [] :: L) from hS12) (H11.out.2.trans hst12))
  clear hS12 hst12
  go_wp2_with fail
  refine (Get_spec (Sep.pick 1 H12.out.1) (small_lit _ _ _ (by decide) (by decide) (by decide) (by decide)) 0).mono ?_
  rintro e w13 ⟨rfl, rfl⟩
  have H13 := H12
  go_wp2_with fail
  refine (Get_spec (Sep.pick 1 H13.out.1) (small_lit _ _ _ (by decide) (by decide) (by decide) (by decide)) 1).mono ?_
  rintro e w14 ⟨rfl, rfl⟩
  have H14 := H13
  go_wp2_with fail
  refine (Newest_spec H14.out.1 (by decide)).mono ?_
  rintro e w15 ⟨rfl, n15, rfl⟩
  have H15 := Lib.hid (And.intro (H14.out.1.drewN n15) (H14.out.2.drewN n15))
  go_wp2_with fail
  go_ret
  exact ⟨rfl, H15.out.1.drop.drop, H15.out.2⟩

end Go.Proofs.Ytfhjdfllkjjldaa
