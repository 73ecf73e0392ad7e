/- Contracts: lives, the section's examples hold. -/
import Derived.Test.YtjmlpjaahankcaaTwo
import Derived.Test.YtjmlpjaahankcaaSeen3
import Derived.Test.YtjmlpjaahankcaaSame
namespace Go.Proofs.Ytjmlpjaahankcaa
open Go.RowKit Go.Sl

variable {w : World} {L : List Asn}

def exCells : List Int := (List.replicate 68 0).set 60 100
@[reducible] def noneSt (bb rb : Nat) : St := { twoSt bb rb with rooms := [], ra := none, rc := 0 }
@[reducible] def farSt (bb rb : Nat) : St := { twoSt bb rb with fog := 99 }

theorem ex_near (s : St) (hp : s.players = 1) (hn : s.nb = 2) : ∀ i : Int, 0 ≤ i → i < s.nb → near (posX s exCells i) ∧ near (posY s exCells i) := by
  intro i h0 h1
  rw [hn] at h1
  unfold posX posY bodyAt near
  rw [hp, hn]
  rcases (by omega : i = 0 ∨ i = 1) with rfl | rfl <;> decide +kernel
theorem readsD_nil (w : World) : readsD w (.slice none 0 0) [] := ⟨rfl, .inl ⟨rfl, none, 0, rfl, Nat.zero_le _, fun _ => rfl⟩⟩
theorem readsB_nil (w : World) : readsB w (.slice none 0 0) [] := ⟨rfl, .inl ⟨rfl, none, 0, rfl, Nat.zero_le _, fun _ => rfl⟩⟩

theorem ex_two {bb rb : Nat} {cv : Value} {W : World} (hr : readsB W (twoSt bb rb).roomsV [theBox]) (hc : readsI W cv exCells) : Seeing W (twoSt bb rb) cv exCells :=
  ⟨⟨hr, readsD_nil W⟩, ⟨(of_decide_eq_true (by kernel_rfl)), (of_decide_eq_true (by kernel_rfl)), fun d hd => by cases hd⟩, hc, ⟨(of_decide_eq_true (by kernel_rfl)), (of_decide_eq_true (by kernel_rfl))⟩, (of_decide_eq_true (by kernel_rfl)), (of_decide_eq_true (by kernel_rfl)), (of_decide_eq_true (by kernel_rfl)), ⟨(of_decide_eq_true (by kernel_rfl)), (of_decide_eq_true (by kernel_rfl))⟩, ex_near _ rfl rfl⟩
theorem ex_none {bb rb : Nat} {cv : Value} {W : World} (hc : readsI W cv exCells) : Seeing W (noneSt bb rb) cv exCells :=
  ⟨⟨readsB_nil W, readsD_nil W⟩, ⟨(of_decide_eq_true (by kernel_rfl)), (of_decide_eq_true (by kernel_rfl)), fun d hd => by cases hd⟩, hc, ⟨(of_decide_eq_true (by kernel_rfl)), (of_decide_eq_true (by kernel_rfl))⟩, (of_decide_eq_true (by kernel_rfl)), (of_decide_eq_true (by kernel_rfl)), (of_decide_eq_true (by kernel_rfl)), ⟨(of_decide_eq_true (by kernel_rfl)), (of_decide_eq_true (by kernel_rfl))⟩, ex_near _ rfl rfl⟩
theorem ex_far {bb rb : Nat} {cv : Value} {W : World} (hr : readsB W (twoSt bb rb).roomsV [theBox]) (hc : readsI W cv exCells) : Seeing W (farSt bb rb) cv exCells :=
  ⟨⟨hr, readsD_nil W⟩, ⟨(of_decide_eq_true (by kernel_rfl)), (of_decide_eq_true (by kernel_rfl)), fun d hd => by cases hd⟩, hc, ⟨(of_decide_eq_true (by kernel_rfl)), (of_decide_eq_true (by kernel_rfl))⟩, (of_decide_eq_true (by kernel_rfl)), (of_decide_eq_true (by kernel_rfl)), (of_decide_eq_true (by kernel_rfl)), ⟨(of_decide_eq_true (by kernel_rfl)), (of_decide_eq_true (by kernel_rfl))⟩, ex_near _ rfl rfl⟩

theorem ex_room (bb rb : Nat) : roomIx (twoSt bb rb).rooms 500 (-500) = 0 := by kernel_rfl
theorem ex_seen (bb rb : Nat) : seenL (twoSt bb rb) exCells 0 = [0, 1] := by kernel_rfl
theorem ex_seen_none (bb rb : Nat) : seenL (noneSt bb rb) exCells 0 = [0] := by kernel_rfl
theorem ex_sees_far (bb rb : Nat) : seesB (farSt bb rb) exCells 0 1 = false := by kernel_rfl
theorem ex_rooms (bb rb : Nat) : roomsI (twoSt bb rb) 0 = [0] := by kernel_rfl

set_option maxRecDepth 100000 in
set_option maxHeartbeats 4000000 in
theorem lives_spec (w : World) : Calls Try.prog 17 #[] w fun e w' => e = .returned (.bool true) ∧ Sep w' [old w] ∧ Stable w w' := by
  obtain ⟨iI, hiI, hI0, hI1, hI2⟩ := info_parts infoI
  have HR := Lib.hid (And.intro ex_room (And.intro ex_seen (And.intro ex_seen_none (And.intro ex_sees_far ex_rooms))))
  go_enter Try.func17, Try.ntmps17
  go_wp2_with fail
  refine (two_spec _).mono ?_
  rintro e w1 ⟨bb, rb, rfl, hS1, hst1⟩
  have H1 := Lib.hid (And.intro (hS1.alloc (.cells #[i64 0, .slice none 0 0, i64 0, i64 0, i64 0, i64 0, .slice none 0 0, .slice none 0 0, i64 0, i64 0, i64 0, i64 0, i64 0, i64 0, i64 0, i64 0] 31)) (hst1.alloc (.cells #[i64 0, .slice none 0 0, i64 0, i64 0, i64 0, i64 0, .slice none 0 0, .slice none 0 0, i64 0, i64 0, i64 0, i64 0, i64 0, i64 0, i64 0, i64 0] 31)))
  clear hS1 hst1
  go_upto_region 2 with (refine wpList_store_sep rfl 31 _ _ rfl w1.heap.size #[i64 1, .slice (some ⟨bb, 0, none⟩) 2 2, i64 (-1000), i64 (-1000), i64 1000, i64 1000, .slice (some ⟨rb, 0, none⟩) 1 1, .slice none 0 0, i64 100, i64 0, i64 0, i64 0, i64 0, i64 0, i64 1, i64 0] rfl rfl H1.out.1 (by kernel_rfl) rfl (by kernel_rfl) ?_; intro w2 hS2 hst2)
  have H2 := Lib.hid (And.intro ((hS2.alloc (.cells #[] 3))) ((H1.out.2.trans hst2).alloc (.cells #[] 3)))
  generalize w1.heap.size = b1 at *
  clear hS2 hst2 H1
  have hrow : Sep (w2.alloc (.cells #[] 3)) (rowI (.slice (some ⟨w2.heap.size, 0, none⟩) 0 0) [] :: [pts b1 (.cells #[i64 1, .slice (some ⟨bb, 0, none⟩) 2 2, i64 (-1000), i64 (-1000), i64 1000, i64 1000, .slice (some ⟨rb, 0, none⟩) 1 1, .slice none 0 0, i64 100, i64 0, i64 0, i64 0, i64 0, i64 0, i64 1, i64 0] 31), Sl.held 4 (twoSt bb rb).roomsV 1 (bcells [theBox]), old w]) := H2.out.1.toRow (n := 0) (Nat.le_refl _) (by unfold maxLen; omega) rfl rfl
  have H3 := Lib.hid (And.intro hrow H2.out.2)
  clear hrow H2
  go_wp2_with fail
  go_loopw [2, 3] (fun v i wr => ∃ k : Nat, k ≤ 68 ∧ i = .int .i64 k ∧ Sep wr (rowI v (List.replicate k 0) :: [pts b1 (.cells #[i64 1, .slice (some ⟨bb, 0, none⟩) 2 2, i64 (-1000), i64 (-1000), i64 1000, i64 1000, .slice (some ⟨rb, 0, none⟩) 1 1, .slice none 0 0, i64 100, i64 0, i64 0, i64 0, i64 0, i64 0, i64 1, i64 0] 31), Sl.held 4 (twoSt bb rb).roomsV 1 (bcells [theBox]), old w]) ∧ Stable w wr) (fun _ i _ => 68 - (intOf i).toNat)
  case atStart => exact ⟨0, by omega, rfl, H3.out.1, H3.out.2⟩
  case round =>
    obtain ⟨k, hk, rfl, hSr, hst⟩ := hrel
    by_cases hlt : k < 68
    · have hS4 := hSr.allocBeside (.cells #[i64 0] 3)
      have H4 := Lib.hid (And.intro hS4 (hst.alloc (.cells #[i64 0] 3)))
      clear hS4 hSr hst
      go_wp2_with (at_builtin; refine wpList_append_sep rfl _ _ 22 22 rfl 3 iI _ 1 8 Try.underlying22 hiI hI0 hI1 hI2 rfl _ _ _ rfl H4.out.1 1 [i64 0] (Src.ofSlice _ Try.underlying22 ⟨_, 0, none⟩ 1 1 _ rfl (fun j u hu => by rw [Addr.add_lit]; simpa using hu) (ints_one [0])) (by simp [maxLen]; omega) (by simp; omega) ?_; intro v3 w3 hS5 hst5 hn5)
      refine ⟨⟨k + 1, by omega, by go_num, ?_, H4.out.2.trans hst5⟩, by simp [intOf]; omega⟩
      rw [List.replicate_succ']
      exact rowI_app (l' := [0]) hS5 rfl rfl
    · obtain rfl : k = 68 := by omega
      obtain ⟨g, cap, rfl, _⟩ := rowI_at hSr (by simp)
      have H4 := Lib.hid (And.intro hSr hst)
      clear hSr hst hlt
      go_upto_region 8 with (refine wpList_store_rowI rfl 3 _ _ rfl H4.out.1 60 100 rfl rfl (by simp) (by kernel_rfl) ?_; intro w5 hS5 hst5)
      have H5 := Lib.hid (And.intro (show Sep w5 (rowI (.slice (some ⟨g, 0, none⟩) 68 cap) exCells :: _) from hS5) (H4.out.2.trans hst5))
      clear hS5 hst5 H4
      have H6 := Lib.hid (And.intro (H5.out.1.alloc (.cells #[i64 0, .slice none 0 0, i64 0, i64 0, i64 0, i64 0, .slice none 0 0, .slice none 0 0, i64 0, i64 0, i64 0, i64 0, i64 0, i64 0, i64 0, i64 0] 31)) (H5.out.2.alloc (.cells #[i64 0, .slice none 0 0, i64 0, i64 0, i64 0, i64 0, .slice none 0 0, .slice none 0 0, i64 0, i64 0, i64 0, i64 0, i64 0, i64 0, i64 0, i64 0] 31)))
      go_upto_region 9 with (first | (refine wpList_load_g 31 _ rfl _ rfl _ _ _ _ (Sep.get (H5.out.1.pick 1)) Try.underlying31 rfl (by kernel_rfl) (by first | rfl | (go_simp; done) | (go_simp; omega)) ?_) | (refine wpList_store_sep rfl 31 _ _ rfl w5.heap.size #[i64 1, .slice (some ⟨bb, 0, none⟩) 2 2, i64 (-1000), i64 (-1000), i64 1000, i64 1000, .slice (some ⟨rb, 0, none⟩) 1 1, .slice none 0 0, i64 100, i64 0, i64 0, i64 0, i64 0, i64 0, i64 1, i64 0] rfl rfl H6.out.1 (by kernel_rfl) rfl (by kernel_rfl) ?_; intro w6 hS6 hst6))
      generalize w5.heap.size = b4 at *
      have H7 := Lib.hid (And.intro hS6 (H6.out.2.trans hst6))
      clear hS6 hst6 H6 H5
      go_upto_region 10 with (refine wpList_store_cell rfl _ _ _ rfl H7.out.1 6 (.slice none 0 0) rfl rfl rfl (by simp) (by kernel_rfl) ?_; intro w7 hS7 hst7)
      simp only [List.setIfInBounds_toArray, List.set_cons_succ, List.set_cons_zero] at hS7
      have H8 := Lib.hid (And.intro hS7 (H7.out.2.trans hst7))
      clear hS7 hst7 H7
      have H9 := Lib.hid (And.intro (H8.out.1.alloc (.cells #[i64 0, .slice none 0 0, i64 0, i64 0, i64 0, i64 0, .slice none 0 0, .slice none 0 0, i64 0, i64 0, i64 0, i64 0, i64 0, i64 0, i64 0, i64 0] 31)) (H8.out.2.alloc (.cells #[i64 0, .slice none 0 0, i64 0, i64 0, i64 0, i64 0, .slice none 0 0, .slice none 0 0, i64 0, i64 0, i64 0, i64 0, i64 0, i64 0, i64 0, i64 0] 31)))
      go_upto_region 11 with (first | (refine wpList_load_g 31 _ rfl _ rfl _ _ _ _ (Sep.get (H8.out.1.pick 2)) Try.underlying31 rfl (by kernel_rfl) (by first | rfl | (go_simp; done) | (go_simp; omega)) ?_) | (refine wpList_store_sep rfl 31 _ _ rfl w7.heap.size #[i64 1, .slice (some ⟨bb, 0, none⟩) 2 2, i64 (-1000), i64 (-1000), i64 1000, i64 1000, .slice (some ⟨rb, 0, none⟩) 1 1, .slice none 0 0, i64 100, i64 0, i64 0, i64 0, i64 0, i64 0, i64 1, i64 0] rfl rfl H9.out.1 (by kernel_rfl) rfl (by kernel_rfl) ?_; intro w8 hS8 hst8))
      generalize w7.heap.size = b5 at *
      have H10 := Lib.hid (And.intro hS8 (H9.out.2.trans hst8))
      clear hS8 hst8 H8 H9
      go_upto_region 12 with (refine wpList_store_cell rfl 3 _ _ rfl H10.out.1 8 (i64 99) rfl rfl rfl (by simp) (by kernel_rfl) ?_; intro w9 hS9 hst9)
      simp only [List.setIfInBounds_toArray, List.set_cons_succ, List.set_cons_zero] at hS9
      have H11 := Lib.hid (And.intro hS9 (H10.out.2.trans hst9))
      clear hS9 hst9 H10
      have hc21 := Room_spec (s := twoSt bb rb) (ex_two (bb := bb) (rb := rb) (Sep.heldReads (Sep.pick 4 H11.out.1)) (Sep.reads (Sep.pick 2 H11.out.1))).reads (ex_two (bb := bb) (rb := rb) (Sep.heldReads (Sep.pick 4 H11.out.1)) (Sep.reads (Sep.pick 2 H11.out.1))).fine 500 (-500)
      rw [HR.out.1 bb rb] at hc21
      have HC21 := Lib.hid hc21
      clear hc21
      go_wp2_with (refine wpList_load_g 31 _ rfl _ rfl _ _ _ _ (Sep.get (Sep.pick 3 H11.out.1)) Try.underlying31 rfl (by kernel_rfl) (by first | rfl | (go_simp; done) | (go_simp; omega)) ?_)
      refine HC21.out.mono ?_
      rintro e w21 ⟨rfl, hS21, hst21⟩
      have H21 := Lib.hid (And.intro (H11.out.1.mount hS21) (H11.out.2.trans hst21))
      clear hS21 hst21
      have hc22 := Seen_spec (ex_two (bb := bb) (rb := rb) (Sep.heldReads (Sep.pick 4 H21.out.1)) (Sep.reads (Sep.pick 2 H21.out.1))) 0
      rw [HR.out.2.1 bb rb] at hc22
      have HC22 := Lib.hid hc22
      clear hc22
      go_wp2_with (refine wpList_load_g 31 _ rfl _ rfl _ _ _ _ (Sep.get (Sep.pick 3 H21.out.1)) Try.underlying31 rfl (by kernel_rfl) (by first | rfl | (go_simp; done) | (go_simp; omega)) ?_)
      refine HC22.out.mono ?_
      rintro e w22 ⟨v22, rfl, hS22, hst22⟩
      have hT22 := (H21.out.1.mount (M := [_]) (hS22.pick 1)).alloc (.cells #[i64 0, i64 1] 3)
      have hU22 : Sep _ (rowI (.slice (some ⟨w22.heap.size, 0, none⟩) 2 2) [0, 1] :: _) := hT22.toRow (n := 2) (Nat.le_refl _) (by unfold maxLen; omega) rfl rfl
      have hq22 := SameInts_spec (Sep.reads (Sep.pick 1 hU22)) hU22.reads (by simp) (by simp)
      rw [sameE_self] at hq22
      have H22 := Lib.hid (And.intro ((hU22.pick 1).drop.drop) (And.intro ((H21.out.2.trans hst22).alloc (.cells #[i64 0, i64 1] 3)) hq22))
      clear hS22 hst22 hT22 hU22 hq22
      go_wp2_with fail
      refine H22.out.2.2.mono ?_
      rintro e y22 ⟨rfl, n22, rfl⟩
      have H22b := Lib.hid (And.intro (H22.out.1.drewN n22) (H22.out.2.1.drewN n22))
      have hc23 := Seen_spec (ex_none (bb := bb) (rb := rb) (Sep.reads (Sep.pick 2 H22b.out.1))) 0
      rw [HR.out.2.2.1 bb rb] at hc23
      have HC23 := Lib.hid hc23
      clear hc23
      go_wp2_with (refine wpList_load_g 31 _ rfl _ rfl _ _ _ _ (Sep.get (Sep.pick 1 H22b.out.1)) Try.underlying31 rfl (by kernel_rfl) (by first | rfl | (go_simp; done) | (go_simp; omega)) ?_)
      refine HC23.out.mono ?_
      rintro e w23 ⟨v23, rfl, hS23, hst23⟩
      have hT23 := (H22b.out.1.mount (M := [_]) (hS23.pick 1)).alloc (.cells #[i64 0] 3)
      have hU23 : Sep _ (rowI (.slice (some ⟨w23.heap.size, 0, none⟩) 1 1) [0] :: _) := hT23.toRow (n := 1) (Nat.le_refl _) (by unfold maxLen; omega) rfl rfl
      have hq23 := SameInts_spec (Sep.reads (Sep.pick 1 hU23)) hU23.reads (by simp) (by simp)
      rw [sameE_self] at hq23
      have H23 := Lib.hid (And.intro ((hU23.pick 1).drop.drop) (And.intro ((H22b.out.2.trans hst23).alloc (.cells #[i64 0] 3)) hq23))
      clear hS23 hst23 hT23 hU23 hq23
      go_wp2_with fail
      refine H23.out.2.2.mono ?_
      rintro e y23 ⟨rfl, n23, rfl⟩
      have H23b := Lib.hid (And.intro (H23.out.1.drewN n23) (H23.out.2.1.drewN n23))
      have hc24 := Sees_spec (ex_far (bb := bb) (rb := rb) (Sep.heldReads (Sep.pick 4 H23b.out.1)) (Sep.reads (Sep.pick 2 H23b.out.1))) 0 1
      rw [HR.out.2.2.2.1 bb rb] at hc24
      have HC24 := Lib.hid hc24
      clear hc24
      go_wp2_with (refine wpList_load_g 31 _ rfl _ rfl _ _ _ _ (Sep.get (Sep.pick 0 H23b.out.1)) Try.underlying31 rfl (by kernel_rfl) (by first | rfl | (go_simp; done) | (go_simp; omega)) ?_)
      refine HC24.out.mono ?_
      rintro e w24 ⟨rfl, hS24, hst24⟩
      have H24 := Lib.hid (And.intro (H23b.out.1.mount hS24) (H23b.out.2.trans hst24))
      clear hS24 hst24
      have hc25 := Rooms_all (s := twoSt bb rb) (ex_two (bb := bb) (rb := rb) (Sep.heldReads (Sep.pick 4 H24.out.1)) (Sep.reads (Sep.pick 2 H24.out.1))).reads (ex_two (bb := bb) (rb := rb) (Sep.heldReads (Sep.pick 4 H24.out.1)) (Sep.reads (Sep.pick 2 H24.out.1))).fine 0
      rw [HR.out.2.2.2.2 bb rb] at hc25
      have HC25 := Lib.hid hc25
      clear hc25
      go_wp2_with (refine wpList_load_g 31 _ rfl _ rfl _ _ _ _ (Sep.get (Sep.pick 3 H24.out.1)) Try.underlying31 rfl (by kernel_rfl) (by first | rfl | (go_simp; done) | (go_simp; omega)) ?_)
      refine HC25.out.mono ?_
      rintro e w25 ⟨v25, rfl, hS25, hst25⟩
      have hT25 := (H24.out.1.mount (M := [_]) (hS25.pick 1)).alloc (.cells #[i64 0] 3)
      have hU25 : Sep _ (rowI (.slice (some ⟨w25.heap.size, 0, none⟩) 1 1) [0] :: _) := hT25.toRow (n := 1) (Nat.le_refl _) (by unfold maxLen; omega) rfl rfl
      have hq25 := SameInts_spec (Sep.reads (Sep.pick 1 hU25)) hU25.reads (by simp) (by simp)
      rw [sameE_self] at hq25
      have H25 := Lib.hid (And.intro ((hU25.pick 1).drop.drop) (And.intro ((H24.out.2.trans hst25).alloc (.cells #[i64 0] 3)) hq25))
      clear hS25 hst25 hT25 hU25 hq25
      go_wp2_with fail
      refine H25.out.2.2.mono ?_
      rintro e y25 ⟨rfl, n25, rfl⟩
      have H25b := Lib.hid (And.intro (H25.out.1.drewN n25) (H25.out.2.1.drewN n25))
      go_wp2_with fail
      go_ret
      exact ⟨rfl, (H25b.out.1.pick 5).one', H25b.out.2⟩

end Go.Proofs.Ytjmlpjaahankcaa
