/- The walk of LayoutMemory. -/
import Derived.Test.YtkalpgngoijdmaaMemP
namespace Go.Proofs.Ytkalpgngoijdmaa
open Go.RowKit Go.Sl

set_option maxRecDepth 100000 in
set_option maxHeartbeats 8000000 in
theorem layoutMemory_walk {w : World} {u : Value} {l : List Int} {i xx yy : Int} (e0 : readsI w u l) (b0 : l.length ≤ 9223372036854775807) (w0 : ∀ x ∈ l, inI64 x) (hi : inI64 i) (_hx : inI64 xx) (_hy : inI64 yy) :
    Calls Try.prog 10 #[u, i64 i, i64 xx, i64 yy] w fun e w' => e = .returned (.bool true) ∧ Below w.heap.size w w' := by
  clear _hx _hy
  have HS := Lib.hid (Setup12_spec e0 w0 b0)
  have HI := Lib.hid hi
  clear e0 b0 w0 hi
  go_enter Try.func10, Try.ntmps10
  go_wp2_with fail
  refine HS.out.mono ?_
  rintro e w1 ⟨su, rfl, hg, hS1, hst1⟩
  have hB1 : Below w.heap.size w w1 := (Su.oldPart hS1).below hst1
  have hbr := Su.bodiesRead hS1
  obtain ⟨np, hnp, hnp3⟩ := hg.base.players_nat
  have hpb : 0 ≤ su.st.players ∧ su.st.players ≤ 1000 := by omega
  have hnb := hg.base.nb
  have hfew := hg.base.few
  have hpos : 0 < su.bodies.length := by have := hg.base.more; have := hg.base.players; omega
  have hinl : (initL np su.bodies).length = 48 + 4 * np + 8 * su.bodies.length := by have := initTo_length np su.bodies su.bodies.length (by omega); rwa [initTo_all] at this
  have hA := fun W => Around_spec i su.bodies.length W (by omega) (by omega) HI.out
  have ar0 : 0 ≤ around i su.bodies.length := around_lo (by omega)
  have ar1 : around i su.bodies.length < su.bodies.length := around_hi (by omega)
  obtain ⟨kb, hkb⟩ : ∃ kb : Nat, around i su.bodies.length = kb := Int.eq_ofNat_of_zero_le ar0
  rw [hkb] at hA ar1
  have hkl : kb < su.bodies.length := by omega
  obtain ⟨at0, hat⟩ : ∃ m : Nat, 48 + 4 * np + 8 * kb = m := ⟨_, rfl⟩
  have hba : bodyAt su.st (kb : Int) = ((at0 : Nat) : Int) := by unfold bodyAt; rw [if_pos (by omega), hnp]; omega
  have hBo := fun W => Body_spec su.st (kb : Int) hpb (by omega) W
  rw [hba] at hBo
  have g0 := initL_get np su.bodies kb hkl 0 (by omega)
  have g1 := initL_get np su.bodies kb hkl 1 (by omega)
  have g2 := initL_get np su.bodies kb hkl 2 (by omega)
  have g3 := initL_get np su.bodies kb hkl 3 (by omega)
  rw [Nat.add_zero] at g0
  rw [hat] at g0 g1 g2 g3
  have hMo := fun (W : World) (M : List Asn) (hW : Sep W (old w1 :: M)) (cv : Value) (cs : List Int) (hr : readsI W cv cs) (hl : cs.length = 48 + 4 * np + 8 * su.bodies.length) => Motion_in su hpb hnb (by omega) (hbr.of_heap hW.oldGet) hr kb at0 hkl hba (by omega)
  have hIn := fun (W : World) (M : List Asn) (hW : Sep W (old w1 :: M)) => Initial_spec su np hnp (by omega) hnb (by omega) (hbr.of_heap hW.oldGet)
  obtain ⟨b, off, cap, hv, hbl, hcb⟩ := readsBd_at hbr hpos
  have hld : ∀ k : Nat, k < su.bodies.length → ∀ (W : World) (M : List Asn), Sep W (old w1 :: M) → ∀ j u, (#[i64 (su.bodies.getD k bd0).px, i64 (su.bodies.getD k bd0).py, i64 (su.bodies.getD k bd0).vx, i64 (su.bodies.getD k bd0).vy, i64 (su.bodies.getD k bd0).im] : Array Value).toList[j]? = some u → W.cell? ⟨b, off + k * 9 + 2 + j, none⟩ = some u := fun k hk W M hW j u hu => by
    have hj : j < 5 := by have := (List.getElem?_eq_some_iff.1 hu).1; simpa using this
    have h2 := hcb k hk (2 + j) u (by
      have hcase : j = 0 ∨ j = 1 ∨ j = 2 ∨ j = 3 ∨ j = 4 := by omega
      rcases hcase with rfl | rfl | rfl | rfl | rfl <;> exact hu)
    rw [← Nat.add_assoc] at h2
    exact (World.cell?_of_block (a := ⟨b, off + k * 9 + 2 + j, none⟩) (hW.oldGet b hbl)).trans h2
  have hld := hld kb hkl
  have HB := Lib.hid hB1
  clear hS1 hst1 hB1 hg hpb hbr hcb hpos ar0 hkb hba
  obtain ⟨s, bodies⟩ := su
  obtain ⟨players, nb, ba, bc, x0, y0, x1, y1, rooms, ra, rc, doors, da, dc, fog, gx, gy, push, drag, rest, rounds, fuel⟩ := s
  dsimp only [St.val, St.bodiesV] at *
  subst hnb
  subst hnp
  obtain ⟨rfl, rfl⟩ : ba = some ⟨b, off, none⟩ ∧ bc = cap := by simpa using hv
  clear hv
  generalize initL np bodies = il at *
  generalize bodies.getD kb bd0 = bd at *
  obtain ⟨⟨rad, pl, pa, pc⟩, px, py, vx, vy, im, A, B⟩ := bd
  simp only [Bd.eight, List.getD_cons_zero, List.getD_cons_succ] at g0 g1 g2 g3
  have hil : il.length ≤ 1000000000000 := by omega
  have hm1 := fun (W : World) (M : List Asn) (hW : Sep W (old w1 :: M)) (cv : Value) (hr : readsI W cv il) => hMo W M hW cv il hr hinl
  have hm2 := fun (W : World) (M : List Asn) (hW : Sep W (old w1 :: M)) (cv : Value) (hr : readsI W cv ((il.set at0 xx).set (at0 + 3) yy)) => hMo W M hW cv ((il.set at0 xx).set (at0 + 3) yy) hr (by rw [List.length_set, List.length_set]; exact hinl)
  have q0 : (((il.set at0 xx).set (at0 + 3) yy)).getD at0 0 = xx := by rw [set_getD _ _ _ _ (by rw [List.length_set]; omega), if_neg (by omega), set_getD _ _ _ _ (by omega), if_pos rfl]
  have q1 : (((il.set at0 xx).set (at0 + 3) yy)).getD (at0 + 1) 0 = py := by rw [set_getD _ _ _ _ (by rw [List.length_set]; omega), if_neg (by omega), set_getD _ _ _ _ (by omega), if_neg (by omega), g1]
  have q2 : (((il.set at0 xx).set (at0 + 3) yy)).getD (at0 + 2) 0 = vx := by rw [set_getD _ _ _ _ (by rw [List.length_set]; omega), if_neg (by omega), set_getD _ _ _ _ (by omega), if_neg (by omega), g2]
  have q3 : (((il.set at0 xx).set (at0 + 3) yy)).getD (at0 + 3) 0 = yy := by rw [set_getD _ _ _ _ (by rw [List.length_set]; omega), if_pos rfl]
  rw [g0, g1, g2, g3] at hm1
  rw [q0, q1, q2, q3] at hm2
  dsimp only at hm1 hm2 hld
  have hc1 := setC_at il at0 (by omega) xx
  have hl1 := setL_at il [] at0 (by omega)
  have hc2 := setC_at (il.set at0 xx) (at0 + 3) (by rw [List.length_set]; omega) yy
  have hl2 := setL_at (il.set at0 xx) [((at0 : Int), il.getD at0 0)] (at0 + 3) (by rw [List.length_set]; omega)
  have hun := undo2 il at0 xx yy (by omega)
  have hsm0 : Small il 0 [] := ⟨hil, by omega, by simp, by simp⟩
  have HC := Lib.hid (And.intro hIn (And.intro hm1 (And.intro hm2 (And.intro hBo (And.intro hld (And.intro hA hil))))))
  have HP := Lib.hid (And.intro hc1 (And.intro hl1 (And.intro hc2 (And.intro hl2 (And.intro hun hinl)))))
  clear hIn hm1 hm2 hMo hBo hld hA hil hc1 hl1 hc2 hl2 hun hinl g0 g1 g2 g3 q0 q1 q2 q3
  have hsm1 : Small (il.set at0 xx) 0 [((at0 : Int), il.getD at0 0)] := ⟨by rw [List.length_set]; exact hsm0.cells, by omega, by simp, by
    intro z hz
    obtain rfl : z = _ := by simpa using hz
    exact hasB_iff.2 ⟨by omega, by rw [List.length_set]; have := HP.out.2.2.2.2.2; dsimp only; omega⟩⟩
  have hsm2 : Small ((il.set at0 xx).set (at0 + 3) yy) 0 [((at0 : Int), il.getD at0 0), (((at0 + 3 : Nat) : Int), (il.set at0 xx).getD (at0 + 3) 0)] := ⟨by rw [List.length_set, List.length_set]; exact hsm0.cells, by omega, by simp, by
    intro z hz
    have hz2 : z = ((at0 : Int), il.getD at0 0) ∨ z = (((at0 + 3 : Nat) : Int), (il.set at0 xx).getD (at0 + 3) 0) := by simpa using hz
    have := HP.out.2.2.2.2.2
    rcases hz2 with rfl | rfl
    · exact hasB_iff.2 ⟨by omega, by rw [List.length_set, List.length_set]; dsimp only; omega⟩
    · exact hasB_iff.2 ⟨by dsimp only; omega, by rw [List.length_set, List.length_set]; dsimp only; omega⟩⟩
  have HSM := Lib.hid (And.intro hsm0 (And.intro hsm1 hsm2))
  clear hsm0 hsm1 hsm2
  have H1 := Lib.hid (And.intro ((Sep.start w1).alloc (.cells #[i64 0, .slice none 0 0, i64 0, i64 0, i64 0, i64 0, .slice none 0 0, .slice none 0 0, i64 0, i64 0, i64 0, i64 0, i64 0, i64 0, i64 0, i64 0] 31)) ((Stable.refl w1).alloc (.cells #[i64 0, .slice none 0 0, i64 0, i64 0, i64 0, i64 0, .slice none 0 0, .slice none 0 0, i64 0, i64 0, i64 0, i64 0, i64 0, i64 0, i64 0, i64 0] 31)))
  go_upto_region 2 with (refine wpList_store_sep rfl 31 _ _ rfl w1.heap.size #[i64 (np : Int), .slice (some ⟨b, off, none⟩) bodies.length bc, i64 x0, i64 y0, i64 x1, i64 y1, .slice ra rooms.length rc, .slice da doors.length dc, i64 fog, i64 gx, i64 gy, i64 push, i64 drag, i64 rest, i64 rounds, i64 fuel] rfl rfl H1.out.1 (by kernel_rfl) rfl (by kernel_rfl) ?_; intro w2 hS2 hst2)
  generalize w1.heap.size = bs at *
  have H2 := Lib.hid (And.intro hS2 (H1.out.2.trans hst2))
  clear hS2 hst2 H1
  go_wp2_with (refine wpList_load_g 31 _ rfl _ rfl _ _ _ _ (Sep.get H2.out.1) Try.underlying31 rfl (by kernel_rfl) (by first | rfl | (go_simp; done) | (go_simp; omega)) ?_)
  refine (HC.out.1 _ _ (H2.out.1.pick 1)).mono ?_
  rintro e w3 ⟨cv, rfl, hS3, hst3⟩
  have H3 := Lib.hid (And.intro (show Sep w3 [rowI cv il, pts bs (.cells #[i64 (np : Int), .slice (some ⟨b, off, none⟩) bodies.length bc, i64 x0, i64 y0, i64 x1, i64 y1, .slice ra rooms.length rc, .slice da doors.length dc, i64 fog, i64 gx, i64 gy, i64 push, i64 drag, i64 rest, i64 rounds, i64 fuel] 31), old w1] from H2.out.1.mount (hS3.pick 1)) (H2.out.2.trans hst3))
  clear hS3 hst3 H2
  go_wp2_with fail
  refine (New_spec H3.out.1.reads HSM.out.1.cells).mono ?_
  rintro e w4 ⟨mp, rfl, hS4, hst4, _⟩
  have hS5 : Sep w4 [mem mp il 0 [], rowI cv il, pts bs (.cells #[i64 (np : Int), .slice (some ⟨b, off, none⟩) bodies.length bc, i64 x0, i64 y0, i64 x1, i64 y1, .slice ra rooms.length rc, .slice da doors.length dc, i64 fog, i64 gx, i64 gy, i64 push, i64 drag, i64 rest, i64 rounds, i64 fuel] 31), old w1] := H3.out.1.mount hS4
  obtain ⟨m0, _, _, _, _, rfl, _⟩ := mem_cells hS5
  have H4 := Lib.hid (And.intro (show Sep w4 [mem (.pointer (some ⟨m0, 0, none⟩)) il 0 [], pts bs (.cells #[i64 (np : Int), .slice (some ⟨b, off, none⟩) bodies.length bc, i64 x0, i64 y0, i64 x1, i64 y1, .slice ra rooms.length rc, .slice da doors.length dc, i64 fog, i64 gx, i64 gy, i64 push, i64 drag, i64 rest, i64 rounds, i64 fuel] 31), old w1] from (hS5.pick 1).drop) (H3.out.2.trans hst4))
  clear hS4 hst4 hS5 H3
  have s1 := cellD (H4.out.1.pick 1) 1
  go_wp2_with fail
  refine (HC.out.2.2.2.2.2.1 _).mono ?_
  rintro e w5 ⟨rfl, rfl⟩
  clear s1
  go_wp2_with (refine wpList_load_g 31 _ rfl _ rfl _ _ _ _ (Sep.get (H4.out.1.pick 1)) Try.underlying31 rfl (by kernel_rfl) (by first | rfl | (go_simp; done) | (go_simp; omega)) ?_)
  refine (HC.out.2.2.2.1 _).mono ?_
  rintro e w6 ⟨rfl, hS6, hst6⟩
  have H6 := Lib.hid (And.intro (show Sep w6 [mem (.pointer (some ⟨m0, 0, none⟩)) il 0 [], pts bs (.cells #[i64 (np : Int), .slice (some ⟨b, off, none⟩) bodies.length bc, i64 x0, i64 y0, i64 x1, i64 y1, .slice ra rooms.length rc, .slice da doors.length dc, i64 fog, i64 gx, i64 gy, i64 push, i64 drag, i64 rest, i64 rounds, i64 fuel] 31), old w1] from H4.out.1.mount hS6) (H4.out.2.trans hst6))
  clear hS6 hst6 H4
  go_wp2_with fail
  refine (Mark_spec H6.out.1 HSM.out.1).mono ?_
  rintro e w7 ⟨rfl, n7, rfl⟩
  rw [show ((0 : Int) + ((([] : List (Int × Int)).length : Nat) : Int)) = 0 from rfl]
  have H7 := Lib.hid (And.intro (H6.out.1.drewN n7) (H6.out.2.drewN n7))
  clear H6
  generalize World.drewN _ n7 = w7 at H7 ⊢
  go_wp2_with fail
  refine (Set_spec H7.out.1 HSM.out.1 (by simp) (at0 : Int) xx).mono ?_
  rintro e w8 ⟨rfl, hS8, hst8⟩
  rw [HP.out.1, HP.out.2.1] at hS8
  have H8 := Lib.hid (And.intro (show Sep w8 [mem (.pointer (some ⟨m0, 0, none⟩)) (il.set at0 xx) 0 [((at0 : Int), il.getD at0 0)], pts bs (.cells #[i64 (np : Int), .slice (some ⟨b, off, none⟩) bodies.length bc, i64 x0, i64 y0, i64 x1, i64 y1, .slice ra rooms.length rc, .slice da doors.length dc, i64 fog, i64 gx, i64 gy, i64 push, i64 drag, i64 rest, i64 rounds, i64 fuel] 31), old w1] from hS8) (H7.out.2.trans hst8))
  clear hS8 hst8 H7
  go_wp2_with fail
  rw [show (at0 : Int) + 3 = ((at0 + 3 : Nat) : Int) by omega]
  refine (Set_spec H8.out.1 HSM.out.2.1 (by simp) ((at0 + 3 : Nat) : Int) yy).mono ?_
  rintro e w9 ⟨rfl, hS9, hst9⟩
  rw [HP.out.2.2.1, HP.out.2.2.2.1] at hS9
  have H9 := Lib.hid (And.intro (show Sep w9 [mem (.pointer (some ⟨m0, 0, none⟩)) ((il.set at0 xx).set (at0 + 3) yy) 0 [((at0 : Int), il.getD at0 0), (((at0 + 3 : Nat) : Int), (il.set at0 xx).getD (at0 + 3) 0)], pts bs (.cells #[i64 (np : Int), .slice (some ⟨b, off, none⟩) bodies.length bc, i64 x0, i64 y0, i64 x1, i64 y1, .slice ra rooms.length rc, .slice da doors.length dc, i64 fog, i64 gx, i64 gy, i64 push, i64 drag, i64 rest, i64 rounds, i64 fuel] 31), old w1] from hS9) (H8.out.2.trans hst9))
  clear hS9 hst9 H8
  go_upto_region 10 with fail
  refine wp_region_dag (w0 := w1) 7 [some 42, some 43, some 44, some 45, some 46, some 14, none] [.det [] (.agg #[i64 (np : Int), .slice (some ⟨b, off, none⟩) bodies.length bc, i64 x0, i64 y0, i64 x1, i64 y1, .slice ra rooms.length rc, .slice da doors.length dc, i64 fog, i64 gx, i64 gy, i64 push, i64 drag, i64 rest, i64 rounds, i64 fuel]), .det [] ((.pointer (some ⟨m0, 0, none⟩))), .make [1] (fun x => rowI x ((il.set at0 xx).set (at0 + 3) yy)), .det [] (i64 kb), Sp.mk [0, 2, 3] [2] (fun _ x => x = .agg #[i64 xx, i64 py, i64 vx, i64 yy, i64 im]) (fun _ _ => emp), .new ((.cells #[i64 0, i64 0, i64 0, i64 0, i64 0] 50)), .store 5 [4] (.cells #[i64 xx, i64 py, i64 vx, i64 yy, i64 im] 50)] [mem (.pointer (some ⟨m0, 0, none⟩)) ((il.set at0 xx).set (at0 + 3) yy) 0 [((at0 : Int), il.getD at0 0), (((at0 + 3 : Nat) : Int), (il.set at0 xx).getD (at0 + 3) 0)], pts bs (.cells #[i64 (np : Int), .slice (some ⟨b, off, none⟩) bodies.length bc, i64 x0, i64 y0, i64 x1, i64 y1, .slice ra rooms.length rc, .slice da doors.length dc, i64 fog, i64 gx, i64 gy, i64 push, i64 drag, i64 rest, i64 rounds, i64 fuel] 31), old w1] [6] rfl (by kernel_rfl) (by kernel_rfl) (by kernel_rfl) (by kernel_rfl) (H9.out.1) (H9.out.2) ⟨⟨⟨⟨⟨⟨⟨trivial, ?_⟩, ?_⟩, ?_⟩, ?_⟩, ?_⟩, ?_⟩, ?_⟩ ?_
  · refine all7 fun z0 z1 z2 z3 z4 z5 z6 W L hv hS hst a ha K hK => ?_
    simp only [dagPut, Act.put, List.setIfInBounds_toArray, List.set_cons_zero, List.set_cons_succ] at ha
    subst ha
    refine wpOp_plain rfl rfl ?_
    simp only [Act.put, List.setIfInBounds_toArray, List.set_cons_zero, List.set_cons_succ, List.getD_cons_zero] at hK
    refine wp_load_row 31 _ rfl _ rfl _ _ _ _ (Sep.get (L := _) (Sep.pick 1 hS)) Try.underlying31 rfl (by kernel_rfl) ?_
    exact hK.out _ _ rfl (sepEmp hS) hst
  · refine all7 fun z0 z1 z2 z3 z4 z5 z6 W L hv hS hst a ha K hK => ?_
    simp only [dagPut, Act.put, List.setIfInBounds_toArray, List.set_cons_zero, List.set_cons_succ] at ha
    subst ha
    refine wpOp_plain rfl rfl ?_
    simp only [Act.put, List.setIfInBounds_toArray, List.set_cons_zero, List.set_cons_succ, List.getD_cons_succ, List.getD_cons_zero] at hK
    go_simp
    exact hK.out _ _ rfl (sepEmp hS) hst
  · refine all7 fun z0 z1 z2 z3 z4 z5 z6 W L hv hS hst a ha K hK => ?_
    obtain ⟨v1, _⟩ := hv
    obtain rfl : z1 = _ := v1
    simp only [dagPut, Act.put, List.setIfInBounds_toArray, List.set_cons_zero, List.set_cons_succ] at ha
    subst ha
    refine wpOp_plain rfl rfl ?_
    simp only [Act.put, List.setIfInBounds_toArray, List.set_cons_zero, List.set_cons_succ, List.getD_cons_succ, List.getD_cons_zero] at hK
    go_simp
    refine (CellsO_spec (p := (.pointer (some ⟨m0, 0, none⟩))) hS HSM.out.2.2).mono ?_
    rintro e w3 ⟨v3, rfl, hS3, hst3⟩
    exact hK.out _ _ trivial ((Sep.mount hS (Sep.pick 1 hS3))) (hst.trans hst3)
  · refine all7 fun z0 z1 z2 z3 z4 z5 z6 W L hv hS hst a ha K hK => ?_
    simp only [dagPut, Act.put, List.setIfInBounds_toArray, List.set_cons_zero, List.set_cons_succ] at ha
    subst ha
    refine wpOp_plain rfl rfl ?_
    simp only [Act.put, List.setIfInBounds_toArray, List.set_cons_zero, List.set_cons_succ, List.getD_cons_succ, List.getD_cons_zero] at hK
    go_simp
    exact hK.out _ _ rfl (sepEmp hS) hst
  · refine all7 fun z0 z1 z2 z3 z4 z5 z6 W L hv hS hst a ha K hK => ?_
    obtain ⟨v0, v2, v3, _⟩ := hv
    obtain rfl : z0 = _ := v0
    obtain rfl : z3 = _ := v3
    simp only [dagPut, Act.put, List.setIfInBounds_toArray, List.set_cons_zero, List.set_cons_succ] at ha
    subst ha
    refine wpOp_plain rfl rfl ?_
    simp only [Act.put, List.setIfInBounds_toArray, List.set_cons_zero, List.set_cons_succ, List.getD_cons_succ, List.getD_cons_zero] at hK
    have hS0 : Sep W (rowI z2 ((il.set at0 xx).set (at0 + 3) yy) :: mem (.pointer (some ⟨m0, 0, none⟩)) ((il.set at0 xx).set (at0 + 3) yy) 0 [((at0 : Int), il.getD at0 0), (((at0 + 3 : Nat) : Int), (il.set at0 xx).getD (at0 + 3) 0)] :: pts bs (.cells #[i64 (np : Int), .slice (some ⟨b, off, none⟩) bodies.length bc, i64 x0, i64 y0, i64 x1, i64 y1, .slice ra rooms.length rc, .slice da doors.length dc, i64 fog, i64 gx, i64 gy, i64 push, i64 drag, i64 rest, i64 rounds, i64 fuel] 31) :: old w1 :: _) := hS
    go_simp
    refine (HC.out.2.2.1 W _ (hS0.pick 3) z2 hS0.reads).mono ?_
    rintro e w3 ⟨rfl, hS3, hst3⟩
    exact hK.out _ _ rfl (sepEmp (Sep.mount (M := []) (Sep.drop hS0) hS3)) (hst.trans hst3)
  · refine all7 fun z0 z1 z2 z3 z4 z5 z6 W L hv hS hst a ha K hK => ?_
    simp only [dagPut, Act.put, List.setIfInBounds_toArray, List.set_cons_zero, List.set_cons_succ] at ha
    subst ha
    refine wpOp_plain rfl rfl ?_
    simp only [Act.put, List.setIfInBounds_toArray, List.set_cons_zero, List.set_cons_succ, List.getD_cons_succ, List.getD_cons_zero] at hK
    go_simp
    exact hK.out _ _ ⟨_, rfl⟩ (Sep.alloc hS _).box (hst.alloc _)
  · refine all7 fun z0 z1 z2 z3 z4 z5 z6 W L hv hS hst a ha K hK => ?_
    obtain ⟨v5, v4, _⟩ := hv
    obtain rfl : z4 = _ := v4
    simp only [dagPut, Act.put, List.setIfInBounds_toArray, List.set_cons_zero, List.set_cons_succ] at ha
    subst ha
    refine wpOp_plain rfl rfl ?_
    simp only [Act.put, List.getD_cons_succ, List.getD_cons_zero] at hK
    obtain ⟨mb, rfl, hS⟩ := Sep.unbox hS
    have c := fun i => cell_of_blk hS.get i
    have fz := frozen_of_blk hS.get
    go_simp
    exact hK.out undef _ trivial (Sep.box (by simpa using ((((hS.setCell 0 (i64 xx)).setCell 1 (i64 py)).setCell 2 (i64 vx)).setCell 3 (i64 yy)).setCell 4 (i64 im))) (((((hst.setCell _ _).setCell _ _).setCell _ _).setCell _ _).setCell _ _)
  · refine all7 fun z0 z1 z2 z3 z4 z5 z6 W hv hS hst a ha => ?_
    obtain ⟨⟨⟨⟨⟨⟨⟨_, v0⟩, v1⟩, v2⟩, v3⟩, v4⟩, v5⟩, v6⟩ := hv
    obtain rfl : z0 = _ := v0
    obtain rfl : z1 = _ := v1
    obtain rfl : z3 = _ := v3
    obtain rfl : z4 = _ := v4
    obtain ⟨mb, hz5, hS⟩ := Sep.unbox (x := z5) (o := (.cells #[i64 xx, i64 py, i64 vx, i64 yy, i64 im] 50)) hS
    have H10 := Lib.hid (And.intro (show Sep W [pts mb (.cells #[i64 xx, i64 py, i64 vx, i64 yy, i64 im] 50), mem (.pointer (some ⟨m0, 0, none⟩)) ((il.set at0 xx).set (at0 + 3) yy) 0 [((at0 : Int), il.getD at0 0), (((at0 + 3 : Nat) : Int), (il.set at0 xx).getD (at0 + 3) 0)], pts bs (.cells #[i64 (np : Int), .slice (some ⟨b, off, none⟩) bodies.length bc, i64 x0, i64 y0, i64 x1, i64 y1, .slice ra rooms.length rc, .slice da doors.length dc, i64 fog, i64 gx, i64 gy, i64 push, i64 drag, i64 rest, i64 rounds, i64 fuel] 31), old w1] from hS) hst)
    subst hz5
    clear hS hst H9
    simp only [dagPut, Act.put, List.setIfInBounds_toArray, List.set_cons_zero, List.set_cons_succ] at ha; subst ha
    go_wp2_with fail
    have hsq : ∀ (W : World) (M : List Asn), Sep W (pts mb (.cells #[i64 xx, i64 py, i64 vx, i64 yy, i64 im] 50) :: mem (.pointer (some ⟨m0, 0, none⟩)) ((il.set at0 xx).set (at0 + 3) yy) 0 [((at0 : Int), il.getD at0 0), (((at0 + 3 : Nat) : Int), (il.set at0 xx).getD (at0 + 3) 0)] :: pts bs (.cells #[i64 (np : Int), .slice (some ⟨b, off, none⟩) bodies.length bc, i64 x0, i64 y0, i64 x1, i64 y1, .slice ra rooms.length rc, .slice da doors.length dc, i64 fog, i64 gx, i64 gy, i64 push, i64 drag, i64 rest, i64 rounds, i64 fuel] 31) :: old w1 :: M) → (fun w' => w'.cell? ⟨mb, 0, none⟩ = some (i64 xx) ∧ w'.cell? ⟨mb, 1, none⟩ = some (i64 py) ∧ w'.cell? ⟨mb, 3, none⟩ = some (i64 yy) ∧ w'.cell? ⟨mb, 4, none⟩ = some (i64 im) ∧ w'.cell? ⟨bs, 1, none⟩ = some (.slice (some ⟨b, off, none⟩) bodies.length bc) ∧ w'.cell? ⟨b, off + kb * 9 + 3, none⟩ = some (i64 py) ∧ w'.cell? ⟨b, off + kb * 9 + 6, none⟩ = some (i64 im)) W := fun W M hW => by
      have e := cellD hW
      have f := cellD (hW.pick 2) 1
      have g := HC.out.2.2.2.2.1 W _ (hW.pick 3)
      exact ⟨e 0, e 1, e 3, e 4, f, g 1 (i64 py) rfl, g 4 (i64 im) rfl⟩
    have qq := hsq _ _ (show Sep W.drew _ from H10.out.1)
    have hlk : (kb : Int) < bodies.length := by omega
    go_region_held3 (fun w' => w'.cell? ⟨mb, 0, none⟩ = some (i64 xx) ∧ w'.cell? ⟨mb, 1, none⟩ = some (i64 py) ∧ w'.cell? ⟨mb, 3, none⟩ = some (i64 yy) ∧ w'.cell? ⟨mb, 4, none⟩ = some (i64 im) ∧ w'.cell? ⟨bs, 1, none⟩ = some (.slice (some ⟨b, off, none⟩) bodies.length bc) ∧ w'.cell? ⟨b, off + kb * 9 + 3, none⟩ = some (i64 py) ∧ w'.cell? ⟨b, off + kb * 9 + 6, none⟩ = some (i64 im)) (first | exact qq) (fail)
    go_wp2_with fail
    have hsr : ∀ (W : World) (A : Asn) (M : List Asn), Sep W (A :: pts bs (.cells #[i64 (np : Int), .slice (some ⟨b, off, none⟩) bodies.length bc, i64 x0, i64 y0, i64 x1, i64 y1, .slice ra rooms.length rc, .slice da doors.length dc, i64 fog, i64 gx, i64 gy, i64 push, i64 drag, i64 rest, i64 rounds, i64 fuel] 31) :: old w1 :: M) → (fun w' => w'.cell? ⟨bs, 0, none⟩ = some (i64 (np : Int)) ∧ w'.cell? ⟨bs, 1, none⟩ = some (.slice (some ⟨b, off, none⟩) bodies.length bc) ∧ w'.cell? ⟨bs, 2, none⟩ = some (i64 x0) ∧ w'.cell? ⟨bs, 3, none⟩ = some (i64 y0) ∧ w'.cell? ⟨bs, 4, none⟩ = some (i64 x1) ∧ w'.cell? ⟨bs, 5, none⟩ = some (i64 y1) ∧ w'.cell? ⟨bs, 6, none⟩ = some (.slice ra rooms.length rc) ∧ w'.cell? ⟨bs, 7, none⟩ = some (.slice da doors.length dc) ∧ w'.cell? ⟨bs, 8, none⟩ = some (i64 fog) ∧ w'.cell? ⟨bs, 9, none⟩ = some (i64 gx) ∧ w'.cell? ⟨bs, 10, none⟩ = some (i64 gy) ∧ w'.cell? ⟨bs, 11, none⟩ = some (i64 push) ∧ w'.cell? ⟨bs, 12, none⟩ = some (i64 drag) ∧ w'.cell? ⟨bs, 13, none⟩ = some (i64 rest) ∧ w'.cell? ⟨bs, 14, none⟩ = some (i64 rounds) ∧ w'.cell? ⟨bs, 15, none⟩ = some (i64 fuel) ∧ w'.cell? ⟨b, off + kb * 9 + 2, none⟩ = some (i64 px) ∧ w'.cell? ⟨b, off + kb * 9 + 3, none⟩ = some (i64 py) ∧ w'.cell? ⟨b, off + kb * 9 + 4, none⟩ = some (i64 vx) ∧ w'.cell? ⟨b, off + kb * 9 + 5, none⟩ = some (i64 vy) ∧ w'.cell? ⟨b, off + kb * 9 + 6, none⟩ = some (i64 im)) W := fun W A M hW => by
      have e := cellD hW.drop
      have g := HC.out.2.2.2.2.1 W _ (hW.pick 2)
      exact ⟨e 0, e 1, e 2, e 3, e 4, e 5, e 6, e 7, e 8, e 9, e 10, e 11, e 12, e 13, e 14, e 15, g 0 (i64 px) rfl, g 1 (i64 py) rfl, g 2 (i64 vx) rfl, g 3 (i64 vy) rfl, g 4 (i64 im) rfl⟩
    have HSR := Lib.hid hsr
    clear hsr
    have H11 := Lib.hid (And.intro (show Sep W.drew.drew [mem (.pointer (some ⟨m0, 0, none⟩)) ((il.set at0 xx).set (at0 + 3) yy) 0 [((at0 : Int), il.getD at0 0), (((at0 + 3 : Nat) : Int), (il.set at0 xx).getD (at0 + 3) 0)], pts bs (.cells #[i64 (np : Int), .slice (some ⟨b, off, none⟩) bodies.length bc, i64 x0, i64 y0, i64 x1, i64 y1, .slice ra rooms.length rc, .slice da doors.length dc, i64 fog, i64 gx, i64 gy, i64 push, i64 drag, i64 rest, i64 rounds, i64 fuel] 31), old w1] from H10.out.1.drop) H10.out.2.drew.drew)
    clear qq hsq H10
    have qr := HSR.out _ _ _ (show Sep W.drew.drew _ from H11.out.1)
    go_region_held3 (fun w' => w'.cell? ⟨bs, 0, none⟩ = some (i64 (np : Int)) ∧ w'.cell? ⟨bs, 1, none⟩ = some (.slice (some ⟨b, off, none⟩) bodies.length bc) ∧ w'.cell? ⟨bs, 2, none⟩ = some (i64 x0) ∧ w'.cell? ⟨bs, 3, none⟩ = some (i64 y0) ∧ w'.cell? ⟨bs, 4, none⟩ = some (i64 x1) ∧ w'.cell? ⟨bs, 5, none⟩ = some (i64 y1) ∧ w'.cell? ⟨bs, 6, none⟩ = some (.slice ra rooms.length rc) ∧ w'.cell? ⟨bs, 7, none⟩ = some (.slice da doors.length dc) ∧ w'.cell? ⟨bs, 8, none⟩ = some (i64 fog) ∧ w'.cell? ⟨bs, 9, none⟩ = some (i64 gx) ∧ w'.cell? ⟨bs, 10, none⟩ = some (i64 gy) ∧ w'.cell? ⟨bs, 11, none⟩ = some (i64 push) ∧ w'.cell? ⟨bs, 12, none⟩ = some (i64 drag) ∧ w'.cell? ⟨bs, 13, none⟩ = some (i64 rest) ∧ w'.cell? ⟨bs, 14, none⟩ = some (i64 rounds) ∧ w'.cell? ⟨bs, 15, none⟩ = some (i64 fuel) ∧ w'.cell? ⟨b, off + kb * 9 + 2, none⟩ = some (i64 px) ∧ w'.cell? ⟨b, off + kb * 9 + 3, none⟩ = some (i64 py) ∧ w'.cell? ⟨b, off + kb * 9 + 4, none⟩ = some (i64 vx) ∧ w'.cell? ⟨b, off + kb * 9 + 5, none⟩ = some (i64 vy) ∧ w'.cell? ⟨b, off + kb * 9 + 6, none⟩ = some (i64 im)) (first | exact qr) (first
      | (go_at_call 15; refine (lives_spec hS14).mono ?_; rintro e w15 ⟨rfl, hS15, hst15'⟩; have hst15 := hst14.trans hst15'; have qr := HSR.out _ _ _ hS15)
      | (go_at_call 28; refine (HC.out.2.1 _ _ (hS13.pick 3) _ hS13.reads).mono ?_; rintro e w14 ⟨rfl, hS14', hst14'⟩; have hS14 := Sep.mount (M := []) hS13.drop hS14'; have hst14 := hst13.trans hst14'; have qr := HSR.out _ _ _ hS14)
      | (go_at_call 35; refine (CellsO_spec hS12 HSM.out.1).mono ?_; rintro e w13 ⟨v13, rfl, hS13', hst13'⟩; have hS13 := hS12.mount (hS13'.pick 1); have hst13 := hst12.trans hst13'; obtain ⟨a13, m13, rfl, _⟩ := hS13.rowShape; have qr := HSR.out _ _ _ hS13.drop)
      | (go_at_call 36; refine (Undo_ok H11.out.1 HSM.out.2.2 0 (by omega) (by simp)).mono ?_; rintro e w12 ⟨rfl, hS12', hst12'⟩; rw [show ((0 : Int) - 0).toNat = 0 from rfl, List.drop_zero, List.take_zero, HP.out.2.2.2.2.1] at hS12'; have hS12 := hS12'; have hst12 := H11.out.2.trans hst12'; have qr := HSR.out _ _ _ hS12))
    have H16 := Lib.hid (And.intro hS15 hst15)
    go_wp2_with fail
    go_ret
    exact ⟨rfl, rebase HB.out (Sep.below H16.out.1.drop.drop H16.out.2)⟩

end Go.Proofs.Ytkalpgngoijdmaa
