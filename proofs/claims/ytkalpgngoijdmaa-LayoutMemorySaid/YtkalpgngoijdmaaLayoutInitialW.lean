/- The walk of LayoutInitial. -/
import Derived.Test.YtkalpgngoijdmaaInitP
namespace Go.Proofs.Ytkalpgngoijdmaa
open Go.RowKit Go.Sl

theorem eights_get : ∀ (l : List Bd) (k : Nat), k < l.length → ∀ j, j < 8 → (eights l).getD (8 * k + j) 0 = (l.getD k bd0).eight.getD j 0
  | [], k, h, _, _ => by simp at h
  | a :: l, 0, _, j, hj => by
    simp only [eights, List.flatMap_cons, Nat.mul_zero, Nat.zero_add, List.getD_cons_zero]
    rw [List.getD_eq_getElem?_getD, List.getElem?_append_left (by simpa [Bd.eight] using hj), List.getD_eq_getElem?_getD]
  | a :: l, k + 1, h, j, hj => by
    have := eights_get l k (by simpa using h) j hj
    simp only [eights, List.flatMap_cons, List.getD_cons_succ] at *
    rw [← this, List.getD_eq_getElem?_getD, List.getElem?_append_right (by simp [Bd.eight]; omega), List.getD_eq_getElem?_getD]
    congr 2
    simp [Bd.eight]; omega
theorem initL_get (p : Nat) (l : List Bd) (k : Nat) (hk : k < l.length) (j : Nat) (hj : j < 8) : (initL p l).getD (48 + 4 * p + 8 * k + j) 0 = (l.getD k bd0).eight.getD j 0 := by
  rw [← eights_get l k hk j hj]
  unfold initL
  rw [List.getD_eq_getElem?_getD, List.getElem?_append_right (by simp; omega), List.getD_eq_getElem?_getD, List.length_replicate]
  congr 2
  omega

set_option maxRecDepth 100000 in
set_option maxHeartbeats 8000000 in
theorem layoutInitial_walk {w : World} {u : Value} {l : List Int} (e0 : readsI w u l) (b0 : l.length ≤ 9223372036854775807) (w0 : ∀ x ∈ l, inI64 x) :
    Calls Try.prog 9 #[u] w fun e w' => e = .returned (.bool true) ∧ Below w.heap.size w w' := by
  have HS := Lib.hid (Setup12_spec e0 w0 b0)
  clear e0 b0 w0
  go_enter Try.func9, Try.ntmps9
  go_wp2_with fail
  refine HS.out.mono ?_
  rintro e w1 ⟨su, rfl, hg, hS1, hst1⟩
  have hB1 : Below w.heap.size w w1 := (Su.oldPart hS1).below hst1
  have hbr := Su.bodiesRead hS1
  obtain ⟨np, hnp, hnp3⟩ := hg.base.players_nat
  have hpb : 0 ≤ su.st.players ∧ su.st.players ≤ 1000 := by omega
  have hnb := hg.base.nb
  have hfew := hg.base.few
  have hpos : 0 < su.bodies.length := by have := hg.base.more; have := hg.base.players; omega
  have hinl : (initL np su.bodies).length = 48 + 4 * np + 8 * su.bodies.length := by have := initTo_length np su.bodies su.bodies.length (by omega); rwa [initTo_all] at this
  have hMo : ∀ (W : World) (M : List Asn), Sep W (old w1 :: M) → ∀ (cv : Value), readsI W cv (initL np su.bodies) → ∀ k : Nat, k < su.bodies.length →
      Calls Try.prog 28 #[su.st.val, cv, i64 k] W fun e w' => e = .returned (.agg #[i64 (su.bodies.getD k bd0).px, i64 (su.bodies.getD k bd0).py, i64 (su.bodies.getD k bd0).vx, i64 (su.bodies.getD k bd0).vy, i64 (su.bodies.getD k bd0).im]) ∧ Sep w' [old W] ∧ Stable W w' := fun W M hW cv hr k hk => by
    have := Motion_in su hpb hnb (by omega) (hbr.of_heap hW.oldGet) hr k (48 + 4 * np + 8 * k) hk (by unfold bodyAt; rw [if_pos (by omega), hnp]; omega) (by omega)
    have g0 := initL_get np su.bodies k hk 0 (by omega)
    have g1 := initL_get np su.bodies k hk 1 (by omega)
    have g2 := initL_get np su.bodies k hk 2 (by omega)
    have g3 := initL_get np su.bodies k hk 3 (by omega)
    rw [Nat.add_zero] at g0
    rw [g0, g1, g2, g3] at this
    exact this
  have hIn := fun (W : World) (M : List Asn) (hW : Sep W (old w1 :: M)) => Initial_spec su np hnp (by omega) hnb (by omega) (hbr.of_heap hW.oldGet)
  have hInR := fun (W : World) (M : List Asn) (hW : Sep W (old w1 :: M)) => InitialR_spec su np hnp (by omega) hnb (by omega) (hbr.of_heap hW.oldGet)
  obtain ⟨b, off, cap, hv, hbl, hcb⟩ := readsBd_at hbr hpos
  have hld : ∀ k : Nat, k < su.bodies.length → ∀ (W : World) (M : List Asn), Sep W (old w1 :: M) → ∀ j u, (#[i64 (su.bodies.getD k bd0).px, i64 (su.bodies.getD k bd0).py, i64 (su.bodies.getD k bd0).vx, i64 (su.bodies.getD k bd0).vy, i64 (su.bodies.getD k bd0).im] : Array Value).toList[j]? = some u → W.cell? ⟨b, off + k * 9 + 2 + j, none⟩ = some u := fun k hk W M hW j u hu => by
    have hj : j < 5 := by have := (List.getElem?_eq_some_iff.1 hu).1; simpa using this
    have h2 := hcb k hk (2 + j) u (by
      have hcase : j = 0 ∨ j = 1 ∨ j = 2 ∨ j = 3 ∨ j = 4 := by omega
      rcases hcase with rfl | rfl | rfl | rfl | rfl <;> exact hu)
    rw [← Nat.add_assoc] at h2
    exact (World.cell?_of_block (a := ⟨b, off + k * 9 + 2 + j, none⟩) (hW.oldGet b hbl)).trans h2
  have HB := Lib.hid hB1
  clear hS1 hst1 hB1 hg hpb hbr hcb hpos
  obtain ⟨s, bodies⟩ := su
  obtain ⟨players, nb, ba, bc, x0, y0, x1, y1, rooms, ra, rc, doors, da, dc, fog, gx, gy, push, drag, rest, rounds, fuel⟩ := s
  dsimp only [St.val, St.bodiesV] at *
  subst hnb
  subst hnp
  obtain ⟨rfl, rfl⟩ : ba = some ⟨b, off, none⟩ ∧ bc = cap := by simpa using hv
  clear hv
  generalize initL np bodies = il at *
  have hil : il.length ≤ 1000000000000 := by omega
  have HC := Lib.hid (And.intro hMo (And.intro hIn (And.intro hInR (And.intro hld hil))))
  clear hMo hIn hInR hld hinl hil
  have H1 := Lib.hid (And.intro ((Sep.start w1).alloc (.cells #[i64 0, .slice none 0 0, i64 0, i64 0, i64 0, i64 0, .slice none 0 0, .slice none 0 0, i64 0, i64 0, i64 0, i64 0, i64 0, i64 0, i64 0, i64 0] 31)) ((Stable.refl w1).alloc (.cells #[i64 0, .slice none 0 0, i64 0, i64 0, i64 0, i64 0, .slice none 0 0, .slice none 0 0, i64 0, i64 0, i64 0, i64 0, i64 0, i64 0, i64 0, i64 0] 31)))
  go_upto_region 2 with (refine wpList_store_sep rfl 31 _ _ rfl w1.heap.size #[i64 (np : Int), .slice (some ⟨b, off, none⟩) bodies.length bc, i64 x0, i64 y0, i64 x1, i64 y1, .slice ra rooms.length rc, .slice da doors.length dc, i64 fog, i64 gx, i64 gy, i64 push, i64 drag, i64 rest, i64 rounds, i64 fuel] rfl rfl H1.out.1 (by kernel_rfl) rfl (by kernel_rfl) ?_; intro w2 hS2 hst2)
  generalize w1.heap.size = bs at *
  have H2 := Lib.hid (And.intro hS2 (H1.out.2.trans hst2))
  clear hS2 hst2 H1
  go_wp2_with (refine wpList_load_g 31 _ rfl _ rfl _ _ _ _ (Sep.get H2.out.1) Try.underlying31 rfl (by kernel_rfl) (by first | rfl | (go_simp; done) | (go_simp; omega)) ?_)
  refine (HC.out.2.1 _ _ (H2.out.1.pick 1)).mono ?_
  rintro e w3 ⟨cv, rfl, hS3, hst3⟩
  have H3 := Lib.hid (And.intro (show Sep w3 [rowI cv il, pts bs (.cells #[i64 (np : Int), .slice (some ⟨b, off, none⟩) bodies.length bc, i64 x0, i64 y0, i64 x1, i64 y1, .slice ra rooms.length rc, .slice da doors.length dc, i64 fog, i64 gx, i64 gy, i64 push, i64 drag, i64 rest, i64 rounds, i64 fuel] 31), old w1] from H2.out.1.mount (hS3.pick 1)) (H2.out.2.trans hst3))
  clear hS3 hst3 H2
  go_wp2_with (refine wpList_load_g 31 _ rfl _ rfl _ _ _ _ (Sep.get (H3.out.1.pick 1)) Try.underlying31 rfl (by kernel_rfl) (by first | rfl | (go_simp; done) | (go_simp; omega)) ?_)
  refine (HC.out.2.2.1 _ _ (H3.out.1.pick 2)).mono ?_
  rintro e w4 ⟨cv2, rfl, hS4, hst4⟩
  have H4 := Lib.hid (And.intro (show Sep w4 (rowI cv2 il :: [rowI cv il, pts bs (.cells #[i64 (np : Int), .slice (some ⟨b, off, none⟩) bodies.length bc, i64 x0, i64 y0, i64 x1, i64 y1, .slice ra rooms.length rc, .slice da doors.length dc, i64 fog, i64 gx, i64 gy, i64 push, i64 drag, i64 rest, i64 rounds, i64 fuel] 31), old w1]) from H3.out.1.mount (hS4.pick 1)) (H3.out.2.trans hst4))
  clear hS4 hst4 H3
  go_wp2_with fail
  refine (SameInts_self (H4.out.1.pick 1).reads H4.out.1.reads HC.out.2.2.2.2).mono ?_
  rintro e w5 ⟨rfl, n5, rfl⟩
  have H5 := Lib.hid (And.intro (H4.out.1.drop.drewN n5) (H4.out.2.drewN n5))
  clear H4
  generalize World.drewN _ n5 = w5 at H5 ⊢
  go_wp2_with fail
  go_loopw [5] (fun j wr => ∃ k : Nat, k ≤ bodies.length ∧ j = .int .i64 k ∧ Sep wr [rowI cv il, pts bs (.cells #[i64 (np : Int), .slice (some ⟨b, off, none⟩) bodies.length bc, i64 x0, i64 y0, i64 x1, i64 y1, .slice ra rooms.length rc, .slice da doors.length dc, i64 fog, i64 gx, i64 gy, i64 push, i64 drag, i64 rest, i64 rounds, i64 fuel] 31), old w1] ∧ Stable w1 wr) (fun j _ => bodies.length - (intOf j).toNat)
  case atStart => exact ⟨0, by omega, rfl, H5.out.1, H5.out.2⟩
  case round =>
    clear H5
    obtain ⟨k, hk, rfl, hSr, hst⟩ := hrel
    have s1 := cellD (hSr.pick 1) 1
    have HR := Lib.hid (And.intro hSr hst)
    clear hSr hst
    by_cases hlt : k < bodies.length
    · have hM := fun (W : World) (M : List Asn) (hW : Sep W (rowI cv il :: pts bs (.cells #[i64 (np : Int), .slice (some ⟨b, off, none⟩) bodies.length bc, i64 x0, i64 y0, i64 x1, i64 y1, .slice ra rooms.length rc, .slice da doors.length dc, i64 fog, i64 gx, i64 gy, i64 push, i64 drag, i64 rest, i64 rounds, i64 fuel] 31) :: old w1 :: M)) => HC.out.1 W _ (hW.pick 2) cv hW.reads k hlt
      have hLD := HC.out.2.2.2.1 k hlt
      generalize bodies.getD k bd0 = bd at *
      obtain ⟨⟨rad, pl, pa, pc⟩, px, py, vx, vy, im, A, B⟩ := bd
      dsimp only at hM hLD
      have HM := Lib.hid hM
      have HLD := Lib.hid hLD
      clear hM hLD
      have hlk : (k : Int) < bodies.length := by omega
      have gk : decide ((k : Int) < bodies.length) = true := by rw [decide_eq_true_eq]; omega
      go_upto_region 8 with fail
      clear s1
      go_cut [32] from 22 to 31 (fun x32 wx => x32 = .bool false ∧ Sep wx [rowI cv il, pts bs (.cells #[i64 (np : Int), .slice (some ⟨b, off, none⟩) bodies.length bc, i64 x0, i64 y0, i64 x1, i64 y1, .slice ra rooms.length rc, .slice da doors.length dc, i64 fog, i64 gx, i64 gy, i64 push, i64 drag, i64 rest, i64 rounds, i64 fuel] 31), old w1] ∧ Stable w1 wx)
      case first =>
        refine wp_region_dag (w0 := w1) 11 [some 22, some 23, some 24, some 25, some 26, some 27, some 28, some 29, some 30, some 31, some 32] [.det [] (.agg #[i64 (np : Int), .slice (some ⟨b, off, none⟩) bodies.length bc, i64 x0, i64 y0, i64 x1, i64 y1, .slice ra rooms.length rc, .slice da doors.length dc, i64 fog, i64 gx, i64 gy, i64 push, i64 drag, i64 rest, i64 rounds, i64 fuel]), .det [] (cv), .det [] (.int .i64 k), .det [0, 1, 2] (.agg #[i64 px, i64 py, i64 vx, i64 vy, i64 im]), .det [] (.pointer (some ⟨bs, 1, none⟩)), .det [4] (.slice (some ⟨b, off, none⟩) bodies.length bc), .det [] (.int .i64 k), .det [5, 6] (.pointer (some ⟨b, off + k * 9, none⟩)), .det [7] (.pointer (some ⟨b, off + k * 9 + 2, none⟩)), .det [8] (.agg #[i64 px, i64 py, i64 vx, i64 vy, i64 im]), .det [3, 9] (.bool false)] [rowI cv il, pts bs (.cells #[i64 (np : Int), .slice (some ⟨b, off, none⟩) bodies.length bc, i64 x0, i64 y0, i64 x1, i64 y1, .slice ra rooms.length rc, .slice da doors.length dc, i64 fog, i64 gx, i64 gy, i64 push, i64 drag, i64 rest, i64 rounds, i64 fuel] 31), old w1] [] rfl (by kernel_rfl) (by kernel_rfl) (by kernel_rfl) (by kernel_rfl) (HR.out.1) (HR.out.2) ⟨⟨⟨⟨⟨⟨⟨⟨⟨⟨⟨trivial, ?_⟩, ?_⟩, ?_⟩, ?_⟩, ?_⟩, ?_⟩, ?_⟩, ?_⟩, ?_⟩, ?_⟩, ?_⟩ ?_
        · refine all11 fun z0 z1 z2 z3 z4 z5 z6 z7 z8 z9 z10 W L hv hS hst a ha K hK => ?_
          simp only [dagPut, Act.put, List.setIfInBounds_toArray, List.set_cons_zero, List.set_cons_succ] at ha
          subst ha
          refine wpOp_plain rfl rfl ?_
          simp only [Act.put, List.setIfInBounds_toArray, List.set_cons_zero, List.set_cons_succ, List.getD_cons_zero] at hK
          refine wp_load_row 31 _ rfl _ rfl _ _ _ _ (Sep.get (L := _) (Sep.pick 1 hS)) Try.underlying31 rfl (by kernel_rfl) ?_
          exact hK.out _ _ rfl (sepEmp hS) hst
        · refine all11 fun z0 z1 z2 z3 z4 z5 z6 z7 z8 z9 z10 W L hv hS hst a ha K hK => ?_
          simp only [dagPut, Act.put, List.setIfInBounds_toArray, List.set_cons_zero, List.set_cons_succ] at ha
          subst ha
          refine wpOp_plain rfl rfl ?_
          simp only [Act.put, List.setIfInBounds_toArray, List.set_cons_zero, List.set_cons_succ, List.getD_cons_succ, List.getD_cons_zero] at hK
          go_simp
          exact hK.out _ _ rfl (sepEmp hS) hst
        · refine all11 fun z0 z1 z2 z3 z4 z5 z6 z7 z8 z9 z10 W L hv hS hst a ha K hK => ?_
          simp only [dagPut, Act.put, List.setIfInBounds_toArray, List.set_cons_zero, List.set_cons_succ] at ha
          subst ha
          refine wpOp_plain rfl rfl ?_
          simp only [Act.put, List.setIfInBounds_toArray, List.set_cons_zero, List.set_cons_succ, List.getD_cons_succ, List.getD_cons_zero] at hK
          go_simp
          exact hK.out _ _ rfl (sepEmp hS) hst
        · refine all11 fun z0 z1 z2 z3 z4 z5 z6 z7 z8 z9 z10 W L hv hS hst a ha K hK => ?_
          obtain ⟨v0, v1, v2, _⟩ := hv
          obtain rfl : z0 = _ := v0
          obtain rfl : z1 = _ := v1
          obtain rfl : z2 = _ := v2
          simp only [dagPut, Act.put, List.setIfInBounds_toArray, List.set_cons_zero, List.set_cons_succ] at ha
          subst ha
          refine wpOp_plain rfl rfl ?_
          simp only [Act.put, List.setIfInBounds_toArray, List.set_cons_zero, List.set_cons_succ, List.getD_cons_succ, List.getD_cons_zero] at hK
          go_simp
          refine (HM.out W _ hS).mono ?_
          rintro e w3 ⟨rfl, hS3, hst3⟩
          exact hK.out _ _ rfl (sepEmp (Sep.mount (M := []) hS hS3)) (hst.trans hst3)
        · refine all11 fun z0 z1 z2 z3 z4 z5 z6 z7 z8 z9 z10 W L hv hS hst a ha K hK => ?_
          simp only [dagPut, Act.put, List.setIfInBounds_toArray, List.set_cons_zero, List.set_cons_succ] at ha
          subst ha
          refine wpOp_plain rfl rfl ?_
          simp only [Act.put, List.setIfInBounds_toArray, List.set_cons_zero, List.set_cons_succ, List.getD_cons_succ, List.getD_cons_zero] at hK
          go_simp
          exact hK.out _ _ rfl (sepEmp hS) hst
        · refine all11 fun z0 z1 z2 z3 z4 z5 z6 z7 z8 z9 z10 W L hv hS hst a ha K hK => ?_
          obtain ⟨v4, _⟩ := hv
          obtain rfl : z4 = _ := v4
          have c0 := (show W.cell? ⟨bs, 1, none⟩ = some (.slice (some ⟨b, off, none⟩) bodies.length bc) from cell_of_blk (Sep.get (L := _) (Sep.pick 1 hS)) 1)
          simp only [dagPut, Act.put, List.setIfInBounds_toArray, List.set_cons_zero, List.set_cons_succ] at ha
          subst ha
          refine wpOp_plain rfl rfl ?_
          simp only [Act.put, List.setIfInBounds_toArray, List.set_cons_zero, List.set_cons_succ, List.getD_cons_succ, List.getD_cons_zero] at hK
          go_simp
          exact hK.out _ _ rfl (sepEmp hS) hst
        · refine all11 fun z0 z1 z2 z3 z4 z5 z6 z7 z8 z9 z10 W L hv hS hst a ha K hK => ?_
          simp only [dagPut, Act.put, List.setIfInBounds_toArray, List.set_cons_zero, List.set_cons_succ] at ha
          subst ha
          refine wpOp_plain rfl rfl ?_
          simp only [Act.put, List.setIfInBounds_toArray, List.set_cons_zero, List.set_cons_succ, List.getD_cons_succ, List.getD_cons_zero] at hK
          go_simp
          exact hK.out _ _ rfl (sepEmp hS) hst
        · refine all11 fun z0 z1 z2 z3 z4 z5 z6 z7 z8 z9 z10 W L hv hS hst a ha K hK => ?_
          obtain ⟨v5, v6, _⟩ := hv
          obtain rfl : z5 = _ := v5
          obtain rfl : z6 = _ := v6
          simp only [dagPut, Act.put, List.setIfInBounds_toArray, List.set_cons_zero, List.set_cons_succ] at ha
          subst ha
          refine wpOp_plain rfl rfl ?_
          simp only [Act.put, List.setIfInBounds_toArray, List.set_cons_zero, List.set_cons_succ, List.getD_cons_succ, List.getD_cons_zero] at hK
          go_simp
          exact hK.out _ _ rfl (sepEmp hS) hst
        · refine all11 fun z0 z1 z2 z3 z4 z5 z6 z7 z8 z9 z10 W L hv hS hst a ha K hK => ?_
          obtain ⟨v7, _⟩ := hv
          obtain rfl : z7 = _ := v7
          simp only [dagPut, Act.put, List.setIfInBounds_toArray, List.set_cons_zero, List.set_cons_succ] at ha
          subst ha
          refine wpOp_plain rfl rfl ?_
          simp only [Act.put, List.setIfInBounds_toArray, List.set_cons_zero, List.set_cons_succ, List.getD_cons_succ, List.getD_cons_zero] at hK
          go_simp
          exact hK.out _ _ rfl (sepEmp hS) hst
        · refine all11 fun z0 z1 z2 z3 z4 z5 z6 z7 z8 z9 z10 W L hv hS hst a ha K hK => ?_
          obtain ⟨v8, _⟩ := hv
          obtain rfl : z8 = _ := v8
          simp only [dagPut, Act.put, List.setIfInBounds_toArray, List.set_cons_zero, List.set_cons_succ] at ha
          subst ha
          refine wpOp_plain rfl rfl ?_
          simp only [Act.put, List.setIfInBounds_toArray, List.set_cons_zero, List.set_cons_succ, List.getD_cons_succ, List.getD_cons_zero] at hK
          refine wp_load_at 50 _ rfl b (off + k * 9 + 2) rfl #[i64 px, i64 py, i64 vx, i64 vy, i64 im] _ (HLD.out W _ (hS.pick 2)) Try.underlying50 rfl (by kernel_rfl) ?_
          exact hK.out _ _ rfl (sepEmp hS) hst
        · refine all11 fun z0 z1 z2 z3 z4 z5 z6 z7 z8 z9 z10 W L hv hS hst a ha K hK => ?_
          obtain ⟨v3, v9, _⟩ := hv
          obtain rfl : z3 = _ := v3
          obtain rfl : z9 = _ := v9
          simp only [dagPut, Act.put, List.setIfInBounds_toArray, List.set_cons_zero, List.set_cons_succ] at ha
          subst ha
          refine wpOp_plain rfl rfl ?_
          simp only [Act.put, List.setIfInBounds_toArray, List.set_cons_zero, List.set_cons_succ, List.getD_cons_succ, List.getD_cons_zero] at hK
          go_simp
          exact hK.out _ _ rfl (sepEmp hS) hst
        · refine all11 fun z0 z1 z2 z3 z4 z5 z6 z7 z8 z9 z10 W hv hS hst a ha => ?_
          obtain ⟨⟨⟨⟨⟨⟨⟨⟨⟨⟨⟨_, v0⟩, v1⟩, v2⟩, v3⟩, v4⟩, v5⟩, v6⟩, v7⟩, v8⟩, v9⟩, v10⟩ := hv
          obtain rfl : z0 = _ := v0
          obtain rfl : z1 = _ := v1
          obtain rfl : z2 = _ := v2
          obtain rfl : z3 = _ := v3
          obtain rfl : z4 = _ := v4
          obtain rfl : z5 = _ := v5
          obtain rfl : z6 = _ := v6
          obtain rfl : z7 = _ := v7
          obtain rfl : z8 = _ := v8
          obtain rfl : z9 = _ := v9
          obtain rfl : z10 = _ := v10
          simp only [dagPut, Act.put, List.setIfInBounds_toArray, List.set_cons_zero, List.set_cons_succ] at ha; subst ha
          go_wp2_with fail
          go_meet
          exact ⟨rfl, hS, hst⟩
      case rest =>
        obtain ⟨rfl, hS, hst⟩ := hcut
        have H7 := Lib.hid (And.intro hS hst)
        clear hS hst
        go_wp2_with fail
        go_roundw
        case rel => exact ⟨k + 1, by omega, by go_num, H7.out.1, H7.out.2⟩
        case measure => simp [intOf]; omega
    · obtain rfl : bodies.length = k := by omega
      go_wp2_with fail
      refine (lives_spec HR.out.1).mono ?_
      rintro e w9 ⟨rfl, hS9, hst9⟩
      have H9 := Lib.hid (And.intro hS9 (HR.out.2.trans hst9))
      clear hS9 hst9
      go_wp2_with fail
      go_ret
      exact ⟨rfl, rebase HB.out (Sep.below H9.out.1.drop.drop H9.out.2)⟩

end Go.Proofs.Ytkalpgngoijdmaa
