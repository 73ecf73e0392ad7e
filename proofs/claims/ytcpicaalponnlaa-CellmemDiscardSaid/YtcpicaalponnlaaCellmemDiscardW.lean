/- The walk of the law CellmemDiscard. -/
import Derived.Test.YtcpicaalponnlaaApply
import Derived.Test.YtcpicaalponnlaaOpen
namespace Go.Proofs.Ytcpicaalponnlaa
open Go.RowKit Go.Sl

variable {w : World} {L : List Asn}

set_option maxRecDepth 100000 in
set_option maxHeartbeats 4000000 in
theorem cellmemDiscard_walk {u v : Value} {cells l : List Int} {back : Int} (hu : readsI w u cells) (bu : cells.length ≤ 9223372036854775807) (_ : ∀ x ∈ cells, inI64 x)
    (hv : readsI w v l) (bv : l.length ≤ 9223372036854775807) (wv : ∀ x ∈ l, inI64 x) (hback : inI64 back) :
    Calls Try.prog 10 #[u, v, i64 back] w fun e w' => e = .returned (.bool true) ∧ Below w.heap.size w w' := by
  obtain ⟨au, cu, rfl⟩ := readsI_len hu
  obtain ⟨av, cv, rfl⟩ := readsI_len hv
  have HU := Lib.hid hu
  have HV := Lib.hid hv
  have hinv := built_inv cells l
  clear hu hv
  go_enter Try.func10, Try.ntmps10
  go_wp2_with fail
  refine (built_spec HU.out bu HV.out bv wv).mono ?_
  rintro e w1 ⟨p0, rfl, hS1, hst1⟩
  generalize builtS cells l = s0 at *
  obtain ⟨cs, b, log⟩ := s0
  have hsm := hinv.small (by omega)
  have hlen6 := hinv.1
  have hlow := hinv.2.1
  have hpos := hinv.2.2.1
  dsimp only [memS, SmallS] at hS1 hsm hlen6 hlow hpos
  clear HU HV bu bv wv
  go_wp2_with fail
  refine (Cells_spec hS1 hsm).mono ?_
  rintro e w2 ⟨v2, rfl, hS2, hst2⟩
  have hS2 := hS2.pick 1
  have hst2 := hst1.trans hst2
  clear hS1 hst1
  go_wp2_with fail
  refine (Mark_spec hS2 hsm).mono ?_
  rintro e w3 ⟨rfl, n3, rfl⟩
  have hS3 := hS2.drewN n3
  have hst3 := hst2.drewN n3
  clear hS2 hst2
  generalize w2.drewN n3 = w3 at hS3 hst3 ⊢
  go_wp2_with fail
  refine (Logged_spec hS3 hsm).mono ?_
  rintro e w4 ⟨rfl, rfl⟩
  go_wp2_with fail
  refine (Logged_spec hS3 hsm).mono ?_
  rintro e w4 ⟨rfl, rfl⟩
  go_wp2_with fail
  refine (Around_spec back (log.length + 1) w3 (by omega) (by omega) hback).mono ?_
  rintro e w4 ⟨rfl, rfl⟩
  have hd0 : 0 ≤ around back (log.length + 1) := around_lo (by omega)
  have hd1 : around back (log.length + 1) < log.length + 1 := around_hi (by omega)
  generalize around back (log.length + 1) = d at *
  obtain ⟨mark, hmark⟩ : ∃ mark, b + (log.length : Int) - d = mark := ⟨_, rfl⟩
  have hm1 : b ≤ mark := by omega
  have hm2 : mark ≤ b + log.length := by omega
  have hkeep : ((log.drop (mark - b).toNat).length : Int) = b + log.length - mark := by rw [List.length_drop]; omega
  have hsm2 : Small cs mark (log.drop (mark - b).toNat) := ⟨by omega, by omega, by omega, fun x hx => hsm.entries x (List.mem_of_mem_drop hx)⟩
  go_wp2_with fail
  refine (Discard_ok hS3 hsm mark hm1 hm2).mono ?_
  rintro e w5 ⟨rfl, hS5, hst5⟩
  have hst5 := hst3.trans hst5
  obtain rfl : d = b + (log.length : Int) - mark := by omega
  clear hmark hsm
  generalize log.drop (mark - b).toNat = rest at *
  have h24a : chk mark rest (mark - 1) = 24 := by unfold chk; rw [if_pos (by omega)]
  have h24b : chk mark rest (b - 1) = 24 := by unfold chk; rw [if_pos (by omega)]
  have h6 : chk mark rest (b + log.length + 1) = 6 := by unfold chk; rw [if_neg (by omega), if_pos (by omega)]
  have HC := Lib.hid (And.intro h24a (And.intro h24b h6))
  have HK := Lib.hid hkeep
  have hkb : mark + (rest.length : Int) ≤ 30 := by omega
  clear h24a h24b h6 hkeep hS3 hst3
  generalize b + (log.length : Int) = pos at *
  go_wp2_with fail
  refine (Cells_spec hS5 hsm2).mono ?_
  rintro e w6 ⟨v6, rfl, hS6, hst6⟩
  have hst6 := hst5.trans hst6
  go_wp2_with fail
  refine (SameInts_spec hS6.reads (hS6.pick 2).reads (by omega) (by omega)).mono ?_
  rintro e w7 ⟨rfl, n7, rfl⟩
  rw [sameE_self]
  have hS7 := (hS6.pick 1).drewN n7
  have hst7 := hst6.drewN n7
  clear hS6 hst6
  generalize w6.drewN n7 = w7 at hS7 hst7 ⊢
  go_wp2_with fail
  refine (Logged_spec hS7 hsm2).mono ?_
  rintro e w8 ⟨rfl, rfl⟩
  rw [HK.out]
  go_wp2_with fail
  refine (Changed_no hS7 hsm2 (mark - 1) (by rw [HC.out.1]; decide)).mono ?_
  rintro e w9 ⟨rfl, hS9, hst9⟩
  rw [HC.out.1]
  have hst9 := hst7.trans hst9
  go_wp2_with fail
  refine (Undo_no hS9 hsm2 (mark - 1) (by rw [HC.out.1]; decide)).mono ?_
  rintro e w10 ⟨rfl, hS10, hst10⟩
  rw [HC.out.1]
  have hst10 := hst9.trans hst10
  go_wp2_with fail
  refine (Discard_no hS10 hsm2 (b - 1) (by rw [HC.out.2.1]; decide)).mono ?_
  rintro e w11 ⟨rfl, hS11, hst11⟩
  rw [HC.out.2.1]
  have hst11 := hst10.trans hst11
  go_wp2_with fail
  refine (Undo_no hS11 hsm2 (pos + 1) (by rw [HC.out.2.2]; decide)).mono ?_
  rintro e w12 ⟨rfl, hS12, hst12⟩
  rw [HC.out.2.2]
  have hst12 := hst11.trans hst12
  go_wp2_with fail
  refine (Undo_ok hS12 hsm2 mark (by omega) (by omega)).mono ?_
  rintro e w13 ⟨rfl, hS13, hst13⟩
  rw [show (mark - mark).toNat = 0 by omega, List.take_zero] at hS13
  have hst13 := hst12.trans hst13
  have hsm3 : Small (undoC cs (rest.drop 0)) mark [] := ⟨by rw [undoC_length]; omega, by omega, by simp; omega, by simp⟩
  generalize undoC cs (rest.drop 0) = cs2 at *
  go_wp2_with fail
  refine (Logged_spec hS13 hsm3).mono ?_
  rintro e w14 ⟨rfl, rfl⟩
  go_wp2_with fail
  refine (Mark_spec hS13 hsm3).mono ?_
  rintro e w15 ⟨rfl, n15, rfl⟩
  rw [show mark + (([] : List (Int × Int)).length : Int) = mark by simp]
  have hS15 := hS13.drewN n15
  have hst15 := hst13.drewN n15
  generalize w13.drewN n15 = w15 at hS15 hst15 ⊢
  go_wp2_with fail
  refine (lives_spec hS15).mono ?_
  rintro e w16 ⟨rfl, hS16, hst16⟩
  have hst16 := hst15.trans hst16
  go_wp2_with fail
  go_ret
  exact ⟨rfl, (hS16.pick 3).below hst16⟩

end Go.Proofs.Ytcpicaalponnlaa
