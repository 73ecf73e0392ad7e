/- Contracts: the reference's Sees. -/
import Derived.Test.YtjmlpjaahankcaaSees2
namespace Go.Proofs.Ytjmlpjaahankcaa
open Go.RowKit Go.Sl

variable {w : World} {L : List Asn}

set_option maxRecDepth 100000 in
set_option maxHeartbeats 4000000 in
theorem SeesR_in {s : St} {cv : Value} {cs : List Int} (h : Seeing w s cv cs) (p i : Int) (hp : 0 ≤ p ∧ p < s.players) (hi : 0 ≤ i ∧ i < s.nb) (hne : (p == i) = false) :
    Calls Try.prog 22 #[s.val, cv, i64 p, i64 i] w fun e w' => e = .returned (.bool (seesIn s cs p i)) ∧ Sep w' [old w] ∧ Stable w w' := by
  have hPp : ∀ (W : World) (M : List Asn), Sep W (old w :: M) → Calls Try.prog 44 #[s.val, cv, i64 p] W (fun e w' => e = .returned (.agg #[i64 (posX s cs p), i64 (posY s cs p)]) ∧ Sep w' [old W] ∧ Stable W w') := fun W M hS =>
    positionR_spec (h.of_heap hS.oldGet).cells h.players h.nb h.len ⟨hp.1, by have := h.more; omega⟩
  have hPi : ∀ (W : World) (M : List Asn), Sep W (old w :: M) → Calls Try.prog 44 #[s.val, cv, i64 i] W (fun e w' => e = .returned (.agg #[i64 (posX s cs i), i64 (posY s cs i)]) ∧ Sep w' [old W] ∧ Stable W w') := fun W M hS =>
    positionR_spec (h.of_heap hS.oldGet).cells h.players h.nb h.len hi
  have hRp : ∀ (W : World) (M : List Asn), Sep W (old w :: M) → Calls Try.prog 13 #[s.val, .agg #[i64 (posX s cs p), i64 (posY s cs p)]] W (fun e w' => e = .returned (i64 (roomOf s cs p)) ∧ Sep w' [old W] ∧ Stable W w') := fun W M hS =>
    RoomR_spec (h.of_heap hS.oldGet).reads h.fine _ _
  have hRi : ∀ (W : World) (M : List Asn), Sep W (old w :: M) → Calls Try.prog 13 #[s.val, .agg #[i64 (posX s cs i), i64 (posY s cs i)]] W (fun e w' => e = .returned (i64 (roomOf s cs i)) ∧ Sep w' [old W] ∧ Stable W w') := fun W M hS =>
    RoomR_spec (h.of_heap hS.oldGet).reads h.fine _ _
  have hCn : ∀ (W : World) (M : List Asn), Sep W (old w :: M) → Calls Try.prog 35 #[s.val, i64 (roomOf s cs p), i64 (roomOf s cs i)] W (fun e w' => e = .returned (.bool (connB s.doors (roomOf s cs p) (roomOf s cs i))) ∧ Sep w' [old W] ∧ Stable W w') := fun W M hS =>
    connected_spec (h.of_heap hS.oldGet).reads h.fine _ _
  have hn1 := h.near p hp.1 (by have := h.more; omega)
  have hn2 := h.near i hi.1 hi.2
  obtain ⟨r, hr⟩ := exists_root (n := dist2 s cs p i) (by unfold dist2; have := sq_bd (x := posX s cs i - posX s cs p) (by unfold near at *; omega); have := sq_bd (x := posY s cs i - posY s cs p) (by unfold near at *; omega); omega)
  have hSub := fun W => SubR_spec (posX s cs i) (posY s cs i) (posX s cs p) (posY s cs p) (by unfold mid; unfold near at *; omega) (by unfold mid; unfold near at *; omega) (by unfold mid; unfold near at *; omega) (by unfold mid; unfold near at *; omega) W
  have hLen := fun W => LenR_spec (posX s cs i - posX s cs p) (posY s cs i - posY s cs p) r (by unfold near at *; omega) (by unfold near at *; omega) hr W
  have hres : seesIn s cs p i = (decide (0 ≤ roomOf s cs p) && (decide (0 ≤ roomOf s cs i) && (connB s.doors (roomOf s cs p) (roomOf s cs i) && decide (r ≤ s.fog)))) := by
    rw [len_fog hr h.fog.1]; rfl
  rw [hres]
  have HR := Lib.hid (And.intro hRp (And.intro hRi hCn))
  have HSL := Lib.hid (And.intro hSub hLen)
  have HC := Lib.hid (And.intro hPp hPi)
  have b1 := h.players
  have b2 := h.nb
  obtain ⟨hp0, hp1⟩ := hp
  obtain ⟨hi0, hi1⟩ := hi
  clear hRp hRi hCn hn1 hn2 hr hSub hLen hres hPp hPi h
  generalize roomOf s cs p = a at *
  generalize roomOf s cs i = b at *
  generalize posX s cs p = px at *
  generalize posY s cs p = py at *
  generalize posX s cs i = qx at *
  generalize posY s cs i = qy at *
  obtain ⟨players, nb, ba, bc, x0, y0, x1, y1, rooms, ra, rc, doors, da, dc, fog, gx, gy, push, drag, rest, rounds, fuel⟩ := s
  dsimp only [St.val, St.doorsV] at *
  generalize connB doors a b = cn at *
  obtain ⟨V, hV⟩ : ∃ V, V = (decide (0 ≤ a) && (decide (0 ≤ b) && (cn && decide (r ≤ fog)))) := ⟨_, rfl⟩
  rw [← hV]
  have HV := Lib.hid hV
  clear hV
  have H0 := Lib.hid (And.intro ((Sep.start w).alloc (.cells #[i64 players, .slice ba nb bc, i64 x0, i64 y0, i64 x1, i64 y1, .slice ra rooms.length rc, .slice da doors.length dc, i64 fog, i64 gx, i64 gy, i64 push, i64 drag, i64 rest, i64 rounds, i64 fuel] 31)) ((Stable.refl w).alloc (.cells #[i64 players, .slice ba nb bc, i64 x0, i64 y0, i64 x1, i64 y1, .slice ra rooms.length rc, .slice da doors.length dc, i64 fog, i64 gx, i64 gy, i64 push, i64 drag, i64 rest, i64 rounds, i64 fuel] 31)))
  go_enter Try.func22, Try.ntmps22
  go_wp2_with (refine wpList_load_g 31 _ rfl _ rfl _ _ _ _ (Sep.get H0.out.1) Try.underlying31 rfl (by kernel_rfl) (by first | rfl | (go_simp; done) | (go_simp; omega)) ?_)
  refine (HC.out.1 _ _ (Sep.pick 1 H0.out.1)).mono ?_
  rintro e w1 ⟨rfl, hS1, hst1⟩
  have H1 := Lib.hid (And.intro ((H0.out.1.mount hS1).alloc (.cells #[i64 px, i64 py] 29)) ((H0.out.2.trans hst1).alloc (.cells #[i64 px, i64 py] 29)))
  clear hS1 hst1
  go_wp2_with (refine wpList_load_g 31 _ rfl _ rfl _ _ _ _ (Sep.get (Sep.pick 1 H1.out.1)) Try.underlying31 rfl (by kernel_rfl) (by first | rfl | (go_simp; done) | (go_simp; omega)) ?_)
  refine (HC.out.2 _ _ (Sep.pick 2 H1.out.1)).mono ?_
  rintro e w2 ⟨rfl, hS2, hst2⟩
  have H2 := Lib.hid (And.intro ((H1.out.1.mount hS2).alloc (.cells #[i64 qx, i64 qy] 29)) ((H1.out.2.trans hst2).alloc (.cells #[i64 qx, i64 qy] 29)))
  clear hS2 hst2 H1 H0 HC
  generalize hb9 : w1.heap.size = b9 at *
  clear hb9
  go_wp2_with (first | (refine wpList_load_g 31 _ rfl _ rfl _ _ _ _ (Sep.get (Sep.pick 2 H2.out.1)) Try.underlying31 rfl (by kernel_rfl) (by first | rfl | (go_simp; done) | (go_simp; omega)) ?_) | (refine wpList_load_g 29 _ rfl _ rfl _ _ _ _ (Sep.get (Sep.pick 1 H2.out.1)) Try.underlying29 rfl (by kernel_rfl) (by first | rfl | (go_simp; done) | (go_simp; omega)) ?_))
  refine (HR.out.1 _ _ (Sep.pick 3 H2.out.1)).mono ?_
  rintro e w3 ⟨rfl, hS3, hst3⟩
  generalize hb10 : w2.heap.size = b10 at *
  clear hb10
  have H3 := Lib.hid (And.intro (H2.out.1.mount hS3) (H2.out.2.trans hst3))
  clear hS3 hst3 H2
  go_wp2_with (first | (refine wpList_load_g 31 _ rfl _ rfl _ _ _ _ (Sep.get (Sep.pick 2 H3.out.1)) Try.underlying31 rfl (by kernel_rfl) (by first | rfl | (go_simp; done) | (go_simp; omega)) ?_) | (refine wpList_load_g 29 _ rfl _ rfl _ _ _ _ (Sep.get H3.out.1) Try.underlying29 rfl (by kernel_rfl) (by first | rfl | (go_simp; done) | (go_simp; omega)) ?_))
  refine (HR.out.2.1 _ _ (Sep.pick 3 H3.out.1)).mono ?_
  rintro e w4 ⟨rfl, hS4, hst4⟩
  have H4 := Lib.hid (And.intro (H3.out.1.mount hS4) (H3.out.2.trans hst4))
  clear hS4 hst4 H3
  by_cases ha : a < 0
  · have he : (decide (0 ≤ a) && (decide (0 ≤ b) && (cn && decide (r ≤ fog)))) = false := by rw [decide_eq_false (by omega : ¬ 0 ≤ a)]; simp
    have HE := Lib.hid (HV.out.trans he)
    clear he
    go_wp2_with fail
    go_ret
    exact ⟨congrArg (fun b => Ending.returned (.bool b)) HE.out.symm, H4.out.1.drop.drop.drop, H4.out.2⟩
  by_cases hb : b < 0
  · have he : (decide (0 ≤ a) && (decide (0 ≤ b) && (cn && decide (r ≤ fog)))) = false := by rw [decide_eq_false (by omega : ¬ 0 ≤ b)]; simp
    have HE := Lib.hid (HV.out.trans he)
    clear he
    go_wp2_with fail
    go_ret
    exact ⟨congrArg (fun b => Ending.returned (.bool b)) HE.out.symm, H4.out.1.drop.drop.drop, H4.out.2⟩
  have he : (decide (0 ≤ a) && (decide (0 ≤ b) && (cn && decide (r ≤ fog)))) = (decide (r ≤ fog) && cn) := by
    rw [decide_eq_true (by omega : 0 ≤ b), decide_eq_true (by omega : 0 ≤ a), Bool.true_and, Bool.true_and, Bool.and_comm]
  have HE := Lib.hid (HV.out.trans he)
  clear he
  go_upto_region 11 with fail
  go_cut [13] from 56 to 62 (fun x wx => x = .bool (decide (r ≤ fog)) ∧ Sep wx [pts b10 (.cells #[i64 qx, i64 qy] 29), pts b9 (.cells #[i64 px, i64 py] 29), pts w.heap.size (.cells #[i64 players, .slice ba nb bc, i64 x0, i64 y0, i64 x1, i64 y1, .slice ra rooms.length rc, .slice da doors.length dc, i64 fog, i64 gx, i64 gy, i64 push, i64 drag, i64 rest, i64 rounds, i64 fuel] 31), old w] ∧ Stable w wx)
  case first =>
    refine wp_region_dag (w0 := w) 8 [some 56, some 57, some 58, some 59, some 60, some 61, some 62, some 13] [.det [] (.agg #[i64 qx, i64 qy]), .det [] (.agg #[i64 px, i64 py]), .det [0, 1] (.agg #[i64 (qx - px), i64 (qy - py)]), .det [2] (i64 r), .det [] (.pointer (some ⟨w.heap.size, 8, none⟩)), .det [4] (i64 fog), .det [3, 5] (.bool (decide (r ≤ fog))), .det [6] (.bool (decide (r ≤ fog)))] [pts b10 (.cells #[i64 qx, i64 qy] 29), pts b9 (.cells #[i64 px, i64 py] 29), pts w.heap.size (.cells #[i64 players, .slice ba nb bc, i64 x0, i64 y0, i64 x1, i64 y1, .slice ra rooms.length rc, .slice da doors.length dc, i64 fog, i64 gx, i64 gy, i64 push, i64 drag, i64 rest, i64 rounds, i64 fuel] 31), old w] [] rfl (by kernel_rfl) (by kernel_rfl) (by kernel_rfl) (by kernel_rfl) (H4.out.1) (H4.out.2) ⟨⟨⟨⟨⟨⟨⟨⟨trivial, ?_⟩, ?_⟩, ?_⟩, ?_⟩, ?_⟩, ?_⟩, ?_⟩, ?_⟩ ?_
    · refine all8 fun z0 z1 z2 z3 z4 z5 z6 z7 W L hv hS hst a ha K hK => ?_
      simp only [dagPut, Act.put, List.setIfInBounds_toArray, List.set_cons_zero, List.set_cons_succ] at ha
      subst ha
      refine wpOp_plain rfl rfl ?_
      simp only [Act.put, List.setIfInBounds_toArray, List.set_cons_zero, List.set_cons_succ, List.getD_cons_zero] at hK
      refine wp_load_row 29 _ rfl _ rfl _ _ _ _ (Sep.get (L := _) (hS)) Try.underlying29 rfl (by kernel_rfl) ?_
      exact hK.out _ _ rfl (sepEmp hS) hst
    · refine all8 fun z0 z1 z2 z3 z4 z5 z6 z7 W L hv hS hst a ha K hK => ?_
      simp only [dagPut, Act.put, List.setIfInBounds_toArray, List.set_cons_zero, List.set_cons_succ] at ha
      subst ha
      refine wpOp_plain rfl rfl ?_
      simp only [Act.put, List.setIfInBounds_toArray, List.set_cons_zero, List.set_cons_succ, List.getD_cons_succ, List.getD_cons_zero] at hK
      refine wp_load_row 29 _ rfl _ rfl _ _ _ _ (Sep.get (L := _) (Sep.pick 1 hS)) Try.underlying29 rfl (by kernel_rfl) ?_
      exact hK.out _ _ rfl (sepEmp hS) hst
    · refine all8 fun z0 z1 z2 z3 z4 z5 z6 z7 W L hv hS hst a ha K hK => ?_
      obtain ⟨v0, v1, _⟩ := hv
      obtain rfl : z0 = _ := v0
      obtain rfl : z1 = _ := v1
      simp only [dagPut, Act.put, List.setIfInBounds_toArray, List.set_cons_zero, List.set_cons_succ] at ha
      subst ha
      refine wpOp_plain rfl rfl ?_
      simp only [Act.put, List.setIfInBounds_toArray, List.set_cons_zero, List.set_cons_succ, List.getD_cons_succ, List.getD_cons_zero] at hK
      go_simp
      refine (HSL.out.1 W).mono ?_
      rintro e w3 ⟨rfl, hS3, hst3⟩
      exact hK.out _ _ rfl (sepEmp (Sep.mount (M := []) hS hS3)) (hst.trans hst3)
    · refine all8 fun z0 z1 z2 z3 z4 z5 z6 z7 W L hv hS hst a ha K hK => ?_
      obtain ⟨v2, _⟩ := hv
      obtain rfl : z2 = _ := v2
      simp only [dagPut, Act.put, List.setIfInBounds_toArray, List.set_cons_zero, List.set_cons_succ] at ha
      subst ha
      refine wpOp_plain rfl rfl ?_
      simp only [Act.put, List.setIfInBounds_toArray, List.set_cons_zero, List.set_cons_succ, List.getD_cons_succ, List.getD_cons_zero] at hK
      go_simp
      refine (HSL.out.2 W).mono ?_
      rintro e w3 ⟨rfl, hS3, hst3⟩
      exact hK.out _ _ rfl (sepEmp (Sep.mount (M := []) hS hS3)) (hst.trans hst3)
    · refine all8 fun z0 z1 z2 z3 z4 z5 z6 z7 W L hv hS hst a ha K hK => ?_
      simp only [dagPut, Act.put, List.setIfInBounds_toArray, List.set_cons_zero, List.set_cons_succ] at ha
      subst ha
      refine wpOp_plain rfl rfl ?_
      simp only [Act.put, List.setIfInBounds_toArray, List.set_cons_zero, List.set_cons_succ, List.getD_cons_succ, List.getD_cons_zero] at hK
      go_simp
      exact hK.out _ _ rfl (sepEmp hS) hst
    · refine all8 fun z0 z1 z2 z3 z4 z5 z6 z7 W L hv hS hst a ha K hK => ?_
      obtain ⟨v4, _⟩ := hv
      obtain rfl : z4 = _ := v4
      simp only [dagPut, Act.put, List.setIfInBounds_toArray, List.set_cons_zero, List.set_cons_succ] at ha
      subst ha
      refine wpOp_plain rfl rfl ?_
      simp only [Act.put, List.setIfInBounds_toArray, List.set_cons_zero, List.set_cons_succ, List.getD_cons_succ, List.getD_cons_zero] at hK
      have c8 : W.cell? ⟨w.heap.size, 8, none⟩ = some (i64 fog) := cell_of_blk (Sep.get (L := _) (Sep.pick 2 hS)) 8
      go_simp
      exact hK.out _ _ rfl (sepEmp hS) hst
    · refine all8 fun z0 z1 z2 z3 z4 z5 z6 z7 W L hv hS hst a ha K hK => ?_
      obtain ⟨v3, v5, _⟩ := hv
      obtain rfl : z3 = _ := v3
      obtain rfl : z5 = _ := v5
      simp only [dagPut, Act.put, List.setIfInBounds_toArray, List.set_cons_zero, List.set_cons_succ] at ha
      subst ha
      refine wpOp_plain rfl rfl ?_
      simp only [Act.put, List.setIfInBounds_toArray, List.set_cons_zero, List.set_cons_succ, List.getD_cons_succ, List.getD_cons_zero] at hK
      go_simp
      exact hK.out _ _ rfl (sepEmp hS) hst
    · refine all8 fun z0 z1 z2 z3 z4 z5 z6 z7 W L hv hS hst a ha K hK => ?_
      obtain ⟨v6, _⟩ := hv
      obtain rfl : z6 = _ := v6
      simp only [dagPut, Act.put, List.setIfInBounds_toArray, List.set_cons_zero, List.set_cons_succ] at ha
      subst ha
      refine wpOp_plain rfl rfl ?_
      simp only [Act.put, List.setIfInBounds_toArray, List.set_cons_zero, List.set_cons_succ, List.getD_cons_succ, List.getD_cons_zero] at hK
      go_simp
      exact hK.out _ _ rfl (sepEmp hS) hst
    · refine all8 fun z0 z1 z2 z3 z4 z5 z6 z7 W hv hS hst a ha => ?_
      obtain ⟨⟨⟨⟨⟨⟨⟨⟨_, v0⟩, v1⟩, v2⟩, v3⟩, v4⟩, v5⟩, v6⟩, v7⟩ := hv
      obtain rfl : z0 = _ := v0
      obtain rfl : z1 = _ := v1
      obtain rfl : z2 = _ := v2
      obtain rfl : z3 = _ := v3
      obtain rfl : z4 = _ := v4
      obtain rfl : z5 = _ := v5
      obtain rfl : z6 = _ := v6
      obtain rfl : z7 = _ := v7
      simp only [dagPut, Act.put, List.setIfInBounds_toArray, List.set_cons_zero, List.set_cons_succ] at ha; subst ha
      go_wp2_with fail
      go_meet
      exact ⟨rfl, hS, hst⟩
  case rest =>
    obtain ⟨rfl, hS, hst⟩ := hcut
    have H5 := Lib.hid (And.intro hS hst)
    clear hS hst H4
    cases hf : decide (r ≤ fog) with
    | false =>
      have HF := Lib.hid (show V = false by rw [HE.out, hf]; rfl)
      go_wp2_with fail
      go_ret
      exact ⟨congrArg (fun b => Ending.returned (.bool b)) HF.out.symm, H5.out.1.drop.drop.drop, H5.out.2⟩
    | true =>
      have HF := Lib.hid (show V = cn by rw [HE.out, hf]; rfl)
      clear hf
      go_wp2_with (refine wpList_load_g 31 _ rfl _ rfl _ _ _ _ (Sep.get (Sep.pick 2 H5.out.1)) Try.underlying31 rfl (by kernel_rfl) (by first | rfl | (go_simp; done) | (go_simp; omega)) ?_)
      refine (HR.out.2.2 _ _ (Sep.pick 3 H5.out.1)).mono ?_
      rintro e w6 ⟨rfl, hS6, hst6⟩
      have H6 := Lib.hid (And.intro (H5.out.1.mount hS6) (H5.out.2.trans hst6))
      clear hS6 hst6
      go_wp2_with fail
      go_ret
      exact ⟨congrArg (fun b => Ending.returned (.bool b)) HF.out.symm, H6.out.1.drop.drop.drop, H6.out.2⟩

end Go.Proofs.Ytjmlpjaahankcaa
