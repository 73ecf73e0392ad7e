/- The law package's example: lives() is true. -/
import Derived.Test.YtcpicaalponnlaaLaw1
namespace Go.Proofs.Ytcpicaalponnlaa
open Go.RowKit Go.Sl

variable {w : World} {L : List Asn}

theorem reads_lit (W : World) (l : List Int) (h : l.length ≤ maxLen) : readsI (W.alloc (.cells (ints l).toArray 3)) (.slice (some ⟨W.heap.size, 0, none⟩) l.length l.length) l := by
  refine ⟨by rw [ints_length]; simp, .inr ⟨_, 0, _, rfl, Nat.le_refl _, h, fun i hi => ?_⟩⟩
  rw [Nat.zero_add, World.cell?_alloc_new]; simp

theorem small_lit (cs : List Int) (log : List (Int × Int)) (h1 : cs.length ≤ 100) (h2 : log.length ≤ 100) (h3 : ∀ x ∈ log, hasB cs x.1 = true) : Small cs 0 log :=
  ⟨by omega, by omega, by omega, h3⟩

set_option maxRecDepth 100000 in
set_option maxHeartbeats 2000000 in
theorem lives_spec (hS : Sep w L) :
    Calls Try.prog 19 #[] w fun e w' => e = .returned (.bool true) ∧ Sep w' L ∧ Stable w w' := by
  have hr := reads_lit w [5, 7] (by decide)
  have hS0 := hS.allocBeside (.cells #[i64 5, i64 7] 3)
  have hst0 := (Stable.refl w).alloc (.cells #[i64 5, i64 7] 3)
  have H0 := Lib.hid (And.intro hr (And.intro hS0 hst0))
  clear hr hS hS0 hst0
  go_enter Try.func19, Try.ntmps19
  go_wp2_with fail
  refine (New_spec H0.out.1 (by decide)).mono ?_
  rintro e w1 ⟨p, rfl, hS1, hst1, hp⟩
  have hS1 := H0.out.2.1.mount hS1
  have hst1 := H0.out.2.2.trans hst1
  obtain ⟨p0, _, _, _, _, rfl, _⟩ := mem_cells hS1
  clear H0 hp
  go_wp2_with fail
  refine (Set_spec hS1 (small_lit _ _ (by decide) (by decide) (by decide)) (by decide) 1 9).mono ?_
  rintro e w2 ⟨rfl, hS2, hst2⟩
  have hS2 : Sep w2 (mem (.pointer (some ⟨p0, 0, none⟩)) [5, 9] 0 [(1, 7)] :: L) := hS2
  have hst2 := hst1.trans hst2
  go_wp2_with fail
  refine (Set_spec hS2 (small_lit _ _ (by decide) (by decide) (by decide)) (by decide) 1 8).mono ?_
  rintro e w3 ⟨rfl, hS3, hst3⟩
  have hS3 : Sep w3 (mem (.pointer (some ⟨p0, 0, none⟩)) [5, 8] 0 [(1, 7), (1, 9)] :: L) := hS3
  have hst3 := hst2.trans hst3
  go_wp2_with fail
  refine (Changed_ok hS3 (small_lit _ _ (by decide) (by decide) (by decide)) 0 (by decide) (by decide)).mono ?_
  rintro e w4 ⟨v4, rfl, hS4, hst4⟩
  have hS4 : Sep w4 (rowI v4 [1] :: mem (.pointer (some ⟨p0, 0, none⟩)) [5, 8] 0 [(1, 7), (1, 9)] :: L) := hS4
  have hst4 := hst3.trans hst4
  go_wp2_with fail
  refine (Mark_spec (hS4.pick 1) (small_lit _ _ (by decide) (by decide) (by decide))).mono ?_
  rintro e w5 ⟨rfl, n5, rfl⟩
  go_wp2_with fail
  have hs1 : readsI ((w4.drewN n5).alloc (.cells #[i64 1] 3)) (.slice (some ⟨w4.heap.size, 0, none⟩) 1 1) [1] := reads_lit (w4.drewN n5) [1] (by decide)
  refine (SameInts_spec ((hS4.drewN n5).allocBeside (.cells #[i64 1] 3)).reads hs1 (by decide) (by decide)).mono ?_
  rintro e w6 ⟨rfl, n6, rfl⟩
  rw [sameE_self]
  have hS6 := (((hS4.drewN n5).allocBeside (.cells #[i64 1] 3)).drewN n6).drop
  have hst6 := (((hst4.drewN n5).alloc (.cells #[i64 1] 3)).drewN n6)
  clear hs1
  go_wp2_with fail
  refine (Undo_ok hS6 (small_lit _ _ (by decide) (by decide) (by decide)) 1 (by decide) (by decide)).mono ?_
  rintro e w7 ⟨rfl, hS7, hst7⟩
  have hS7 : Sep w7 (mem (.pointer (some ⟨p0, 0, none⟩)) [5, 9] 0 [(1, 7)] :: L) := hS7
  have hst7 := hst6.trans hst7
  go_wp2_with fail
  refine (Get_spec hS7 (small_lit _ _ (by decide) (by decide) (by decide)) 1).mono ?_
  rintro e w8 ⟨rfl, rfl⟩
  rw [show getC [5, 9] 1 = 9 from by decide]
  go_wp2_with fail
  refine (Undo_ok hS7 (small_lit _ _ (by decide) (by decide) (by decide)) 0 (by decide) (by decide)).mono ?_
  rintro e w9 ⟨rfl, hS9, hst9⟩
  have hS9 : Sep w9 (mem (.pointer (some ⟨p0, 0, none⟩)) [5, 7] 0 [] :: L) := hS9
  have hst9 := hst7.trans hst9
  go_wp2_with fail
  refine (Get_spec hS9 (small_lit _ _ (by decide) (by decide) (by decide)) 1).mono ?_
  rintro e w10 ⟨rfl, rfl⟩
  rw [show getC [5, 7] 1 = 7 from by decide]
  go_wp2_with fail
  go_ret
  exact ⟨rfl, hS9.drop, hst9⟩

end Go.Proofs.Ytcpicaalponnlaa
