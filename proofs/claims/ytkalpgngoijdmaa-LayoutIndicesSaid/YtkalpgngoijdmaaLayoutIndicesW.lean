/- The walk of LayoutIndices. -/
import Derived.Test.YtkalpgngoijdmaaLaw12
namespace Go.Proofs.Ytkalpgngoijdmaa
open Go.RowKit Go.Sl

set_option maxRecDepth 100000 in
set_option maxHeartbeats 8000000 in
theorem layoutIndices_walk {w : World} {u : Value} {l : List Int} {p i : Int} (e0 : readsI w u l) (b0 : l.length ≤ 9223372036854775807) (w0 : ∀ x ∈ l, inI64 x) (hp : inI64 p) (hi : inI64 i) :
    Calls Try.prog 4 #[u, i64 p, i64 i] w fun e w' => e = .returned (.bool true) ∧ Below w.heap.size w w' := by
  have hSet := Setup12_spec e0 w0 b0
  have hA1 := fun w => Around_spec p 8 w (by omega) (by omega) hp
  have hA2 := fun w => Around_spec i 8 w (by omega) (by omega) hi
  generalize around p 8 = pa at *
  generalize around i 8 = ia at *
  have HS := Lib.hid (And.intro hSet (And.intro hA1 hA2))
  clear hSet e0 b0 w0 hA1 hA2 hp hi
  go_enter Try.func4, Try.ntmps4
  go_wp2_with fail
  refine HS.out.1.mono ?_
  rintro e w1 ⟨su, rfl, hg, hS1, hst1⟩
  have hB1 : Below w.heap.size w w1 := (Su.oldPart hS1).below hst1
  obtain ⟨np, hnp, hnp3⟩ := hg.base.players_nat
  have hpb : 0 ≤ su.st.players ∧ su.st.players ≤ 1000 := by omega
  have hnb := hg.base.nb
  have hfew := hg.base.few
  have hPl := fun W (j : Int) => Player_spec su.st j hpb W
  have hPlR := fun W (j : Int) => PlayerR_spec su.st j hpb W
  have hBo := fun W (j : Int) => Body_spec su.st j hpb (by omega) W
  have hBoR := fun W (j : Int) => BodyR_spec su.st j hpb (by omega) W
  have hSz := fun W => Size_spec su.st hpb (by omega) W
  have hSzR := fun W => SizeR_spec su.st hpb (by omega) W
  have HB := Lib.hid hB1
  clear hS1 hst1 hB1 hg hnp hpb
  obtain ⟨s, bodies⟩ := su
  obtain ⟨players, nb, ba, bc, x0, y0, x1, y1, rooms, ra, rc, doors, da, dc, fog, gx, gy, push, drag, rest, rounds, fuel⟩ := s
  dsimp only [St.val] at *
  subst hnb
  generalize playerAt ⟨players, bodies.length, ba, bc, x0, y0, x1, y1, rooms, ra, rc, doors, da, dc, fog, gx, gy, push, drag, rest, rounds, fuel⟩ = qp at *
  generalize bodyAt ⟨players, bodies.length, ba, bc, x0, y0, x1, y1, rooms, ra, rc, doors, da, dc, fog, gx, gy, push, drag, rest, rounds, fuel⟩ = qb at *
  generalize 48 + 4 * players + 8 * (bodies.length : Int) = sz at *
  have HC := Lib.hid (And.intro hPl (And.intro hPlR (And.intro hBo (And.intro hBoR (And.intro hSz hSzR)))))
  clear hPl hPlR hBo hBoR hSz hSzR
  have H1 := Lib.hid (And.intro ((Sep.start w1).alloc (.cells #[i64 0, .slice none 0 0, i64 0, i64 0, i64 0, i64 0, .slice none 0 0, .slice none 0 0, i64 0, i64 0, i64 0, i64 0, i64 0, i64 0, i64 0, i64 0] 31)) ((Stable.refl w1).alloc (.cells #[i64 0, .slice none 0 0, i64 0, i64 0, i64 0, i64 0, .slice none 0 0, .slice none 0 0, i64 0, i64 0, i64 0, i64 0, i64 0, i64 0, i64 0, i64 0] 31)))
  go_upto_region 2 with (refine wpList_store_sep rfl 31 _ _ rfl w1.heap.size #[i64 players, .slice ba bodies.length bc, i64 x0, i64 y0, i64 x1, i64 y1, .slice ra rooms.length rc, .slice da doors.length dc, i64 fog, i64 gx, i64 gy, i64 push, i64 drag, i64 rest, i64 rounds, i64 fuel] rfl rfl H1.out.1 (by kernel_rfl) rfl (by kernel_rfl) ?_; intro w2 hS2 hst2)
  generalize w1.heap.size = bs at *
  have H2 := Lib.hid (And.intro hS2 (H1.out.2.trans hst2))
  clear hS2 hst2 H1
  go_wp2_with fail
  refine (HS.out.2.1 _).mono ?_
  rintro e w3 ⟨rfl, rfl⟩
  go_wp2_with fail
  refine (HS.out.2.2 _).mono ?_
  rintro e w3 ⟨rfl, rfl⟩
  have H3 := Lib.hid (And.intro (H2.out.1.alloc (.cells #[i64 p, i64 i, i64 pa, i64 ia, i64 (-1)] 3)) (H2.out.2.alloc (.cells #[i64 p, i64 i, i64 pa, i64 ia, i64 (-1)] 3)))
  clear H2 HS
  go_wp2_with fail
  generalize w2.heap.size = gi at H3 ⊢
  go_loopw [9] (fun j wr => ∃ k : Nat, k ≤ 5 ∧ j = .int .i64 k ∧ Sep wr [pts gi (.cells #[i64 p, i64 i, i64 pa, i64 ia, i64 (-1)] 3), pts bs (.cells #[i64 players, .slice ba bodies.length bc, i64 x0, i64 y0, i64 x1, i64 y1, .slice ra rooms.length rc, .slice da doors.length dc, i64 fog, i64 gx, i64 gy, i64 push, i64 drag, i64 rest, i64 rounds, i64 fuel] 31), old w1] ∧ Stable w1 wr) (fun j _ => 5 - (intOf j).toNat)
  case atStart => exact ⟨0, by omega, rfl, H3.out.1, H3.out.2⟩
  case round =>
    clear H3
    obtain ⟨k, hk, rfl, hSr, hst⟩ := hrel
    have HR := Lib.hid (And.intro hSr hst)
    clear hSr hst
    by_cases hlt : k < 5
    · obtain ⟨y, hx⟩ : ∃ y : Int, ∀ (W : World) (M : List Asn), Sep W (pts gi (.cells #[i64 p, i64 i, i64 pa, i64 ia, i64 (-1)] 3) :: M) → W.cell? ⟨gi, k, none⟩ = some (i64 y) := by
        have hcase : k = 0 ∨ k = 1 ∨ k = 2 ∨ k = 3 ∨ k = 4 := by omega
        rcases hcase with rfl | rfl | rfl | rfl | rfl
        · exact ⟨p, fun W M hW => cellD hW 0⟩
        · exact ⟨i, fun W M hW => cellD hW 1⟩
        · exact ⟨pa, fun W M hW => cellD hW 2⟩
        · exact ⟨ia, fun W M hW => cellD hW 3⟩
        · exact ⟨-1, fun W M hW => cellD hW 4⟩
      have HX := Lib.hid hx
      clear hx
      have hlk : (k : Int) < 5 := by omega
      have gk : decide ((k : Int) < 5) = true := by rw [decide_eq_true_eq]; omega
      go_upto_region 6 with fail
      go_cut [50] from 23 to 49 (fun x50 wx => x50 = .bool false ∧ Sep wx [pts gi (.cells #[i64 p, i64 i, i64 pa, i64 ia, i64 (-1)] 3), pts bs (.cells #[i64 players, .slice ba bodies.length bc, i64 x0, i64 y0, i64 x1, i64 y1, .slice ra rooms.length rc, .slice da doors.length dc, i64 fog, i64 gx, i64 gy, i64 push, i64 drag, i64 rest, i64 rounds, i64 fuel] 31), old w1] ∧ Stable w1 wx)
      case first =>
        refine wp_region_dag (w0 := w1) 28 [some 23, some 24, some 25, some 26, some 27, some 28, some 29, some 30, some 31, some 32, some 33, some 34, some 35, some 36, some 37, some 38, some 39, some 40, some 41, some 42, some 43, some 44, some 45, some 46, some 47, some 48, some 49, some 50] [.det [] (.agg #[i64 players, .slice ba bodies.length bc, i64 x0, i64 y0, i64 x1, i64 y1, .slice ra rooms.length rc, .slice da doors.length dc, i64 fog, i64 gx, i64 gy, i64 push, i64 drag, i64 rest, i64 rounds, i64 fuel]), .det [] (.slice (some ⟨gi, 0, none⟩) 5 5), .det [] (.int .i64 k), .det [1, 2] (.pointer (some ⟨gi, k, none⟩)), .det [3] (i64 y), .det [0, 4] (i64 (qp y)), .det [] (.agg #[i64 players, .slice ba bodies.length bc, i64 x0, i64 y0, i64 x1, i64 y1, .slice ra rooms.length rc, .slice da doors.length dc, i64 fog, i64 gx, i64 gy, i64 push, i64 drag, i64 rest, i64 rounds, i64 fuel]), .det [] (.slice (some ⟨gi, 0, none⟩) 5 5), .det [] (.int .i64 k), .det [7, 8] (.pointer (some ⟨gi, k, none⟩)), .det [9] (i64 y), .det [6, 10] (i64 (qp y)), .det [5, 11] (.bool false), .det [12] (.bool false), .det [13] (.agg #[i64 players, .slice ba bodies.length bc, i64 x0, i64 y0, i64 x1, i64 y1, .slice ra rooms.length rc, .slice da doors.length dc, i64 fog, i64 gx, i64 gy, i64 push, i64 drag, i64 rest, i64 rounds, i64 fuel]), .det [13] (.slice (some ⟨gi, 0, none⟩) 5 5), .det [13] (.int .i64 k), .det [15, 16, 13] (.pointer (some ⟨gi, k, none⟩)), .det [17, 13] (i64 y), .det [14, 18, 13] (i64 (qb y)), .det [13] (.agg #[i64 players, .slice ba bodies.length bc, i64 x0, i64 y0, i64 x1, i64 y1, .slice ra rooms.length rc, .slice da doors.length dc, i64 fog, i64 gx, i64 gy, i64 push, i64 drag, i64 rest, i64 rounds, i64 fuel]), .det [13] (.slice (some ⟨gi, 0, none⟩) 5 5), .det [13] (.int .i64 k), .det [21, 22, 13] (.pointer (some ⟨gi, k, none⟩)), .det [23, 13] (i64 y), .det [20, 24, 13] (i64 (qb y)), .det [19, 25, 13] (.bool false), .det [13, 26] (.bool false)] [pts gi (.cells #[i64 p, i64 i, i64 pa, i64 ia, i64 (-1)] 3), pts bs (.cells #[i64 players, .slice ba bodies.length bc, i64 x0, i64 y0, i64 x1, i64 y1, .slice ra rooms.length rc, .slice da doors.length dc, i64 fog, i64 gx, i64 gy, i64 push, i64 drag, i64 rest, i64 rounds, i64 fuel] 31), old w1] [] rfl (by kernel_rfl) (by kernel_rfl) (by kernel_rfl) (by kernel_rfl) (HR.out.1) (HR.out.2) ⟨⟨⟨⟨⟨⟨⟨⟨⟨⟨⟨⟨⟨⟨⟨⟨⟨⟨⟨⟨⟨⟨⟨⟨⟨⟨⟨⟨trivial, ?_⟩, ?_⟩, ?_⟩, ?_⟩, ?_⟩, ?_⟩, ?_⟩, ?_⟩, ?_⟩, ?_⟩, ?_⟩, ?_⟩, ?_⟩, ?_⟩, ?_⟩, ?_⟩, ?_⟩, ?_⟩, ?_⟩, ?_⟩, ?_⟩, ?_⟩, ?_⟩, ?_⟩, ?_⟩, ?_⟩, ?_⟩, ?_⟩ ?_
        · refine all28 fun z0 z1 z2 z3 z4 z5 z6 z7 z8 z9 z10 z11 z12 z13 z14 z15 z16 z17 z18 z19 z20 z21 z22 z23 z24 z25 z26 z27 W L hv hS hst a ha K hK => ?_
          simp only [dagPut, Act.put, List.setIfInBounds_toArray, List.set_cons_zero, List.set_cons_succ] at ha
          subst ha
          refine wpOp_plain rfl rfl ?_
          simp only [Act.put, List.setIfInBounds_toArray, List.set_cons_zero, List.set_cons_succ, List.getD_cons_zero] at hK
          refine wp_load_row 31 _ rfl _ rfl _ _ _ _ (Sep.get (L := _) (Sep.pick 1 hS)) Try.underlying31 rfl (by kernel_rfl) ?_
          exact hK.out _ _ rfl (sepEmp hS) hst
        · refine all28 fun z0 z1 z2 z3 z4 z5 z6 z7 z8 z9 z10 z11 z12 z13 z14 z15 z16 z17 z18 z19 z20 z21 z22 z23 z24 z25 z26 z27 W L hv hS hst a ha K hK => ?_
          simp only [dagPut, Act.put, List.setIfInBounds_toArray, List.set_cons_zero, List.set_cons_succ] at ha
          subst ha
          refine wpOp_plain rfl rfl ?_
          simp only [Act.put, List.setIfInBounds_toArray, List.set_cons_zero, List.set_cons_succ, List.getD_cons_succ, List.getD_cons_zero] at hK
          go_simp
          exact hK.out _ _ rfl (sepEmp hS) hst
        · refine all28 fun z0 z1 z2 z3 z4 z5 z6 z7 z8 z9 z10 z11 z12 z13 z14 z15 z16 z17 z18 z19 z20 z21 z22 z23 z24 z25 z26 z27 W L hv hS hst a ha K hK => ?_
          simp only [dagPut, Act.put, List.setIfInBounds_toArray, List.set_cons_zero, List.set_cons_succ] at ha
          subst ha
          refine wpOp_plain rfl rfl ?_
          simp only [Act.put, List.setIfInBounds_toArray, List.set_cons_zero, List.set_cons_succ, List.getD_cons_succ, List.getD_cons_zero] at hK
          go_simp
          exact hK.out _ _ rfl (sepEmp hS) hst
        · refine all28 fun z0 z1 z2 z3 z4 z5 z6 z7 z8 z9 z10 z11 z12 z13 z14 z15 z16 z17 z18 z19 z20 z21 z22 z23 z24 z25 z26 z27 W L hv hS hst a ha K hK => ?_
          obtain ⟨v1, v2, _⟩ := hv
          obtain rfl : z1 = _ := v1
          obtain rfl : z2 = _ := v2
          simp only [dagPut, Act.put, List.setIfInBounds_toArray, List.set_cons_zero, List.set_cons_succ] at ha
          subst ha
          refine wpOp_plain rfl rfl ?_
          simp only [Act.put, List.setIfInBounds_toArray, List.set_cons_zero, List.set_cons_succ, List.getD_cons_succ, List.getD_cons_zero] at hK
          go_simp
          exact hK.out _ _ rfl (sepEmp hS) hst
        · refine all28 fun z0 z1 z2 z3 z4 z5 z6 z7 z8 z9 z10 z11 z12 z13 z14 z15 z16 z17 z18 z19 z20 z21 z22 z23 z24 z25 z26 z27 W L hv hS hst a ha K hK => ?_
          obtain ⟨v3, _⟩ := hv
          obtain rfl : z3 = _ := v3
          have c0 := HX.out W _ hS
          simp only [dagPut, Act.put, List.setIfInBounds_toArray, List.set_cons_zero, List.set_cons_succ] at ha
          subst ha
          refine wpOp_plain rfl rfl ?_
          simp only [Act.put, List.setIfInBounds_toArray, List.set_cons_zero, List.set_cons_succ, List.getD_cons_succ, List.getD_cons_zero] at hK
          go_simp
          exact hK.out _ _ rfl (sepEmp hS) hst
        · refine all28 fun z0 z1 z2 z3 z4 z5 z6 z7 z8 z9 z10 z11 z12 z13 z14 z15 z16 z17 z18 z19 z20 z21 z22 z23 z24 z25 z26 z27 W L hv hS hst a ha K hK => ?_
          obtain ⟨v0, v4, _⟩ := hv
          obtain rfl : z0 = _ := v0
          obtain rfl : z4 = _ := v4
          simp only [dagPut, Act.put, List.setIfInBounds_toArray, List.set_cons_zero, List.set_cons_succ] at ha
          subst ha
          refine wpOp_plain rfl rfl ?_
          simp only [Act.put, List.setIfInBounds_toArray, List.set_cons_zero, List.set_cons_succ, List.getD_cons_succ, List.getD_cons_zero] at hK
          go_simp
          refine (HC.out.1 W y).mono ?_
          rintro e w3 ⟨rfl, hS3, hst3⟩
          exact hK.out _ _ rfl (sepEmp (Sep.mount (M := []) hS hS3)) (hst.trans hst3)
        · refine all28 fun z0 z1 z2 z3 z4 z5 z6 z7 z8 z9 z10 z11 z12 z13 z14 z15 z16 z17 z18 z19 z20 z21 z22 z23 z24 z25 z26 z27 W L hv hS hst a ha K hK => ?_
          simp only [dagPut, Act.put, List.setIfInBounds_toArray, List.set_cons_zero, List.set_cons_succ] at ha
          subst ha
          refine wpOp_plain rfl rfl ?_
          simp only [Act.put, List.setIfInBounds_toArray, List.set_cons_zero, List.set_cons_succ, List.getD_cons_succ, List.getD_cons_zero] at hK
          refine wp_load_row 31 _ rfl _ rfl _ _ _ _ (Sep.get (L := _) (Sep.pick 1 hS)) Try.underlying31 rfl (by kernel_rfl) ?_
          exact hK.out _ _ rfl (sepEmp hS) hst
        · refine all28 fun z0 z1 z2 z3 z4 z5 z6 z7 z8 z9 z10 z11 z12 z13 z14 z15 z16 z17 z18 z19 z20 z21 z22 z23 z24 z25 z26 z27 W L hv hS hst a ha K hK => ?_
          simp only [dagPut, Act.put, List.setIfInBounds_toArray, List.set_cons_zero, List.set_cons_succ] at ha
          subst ha
          refine wpOp_plain rfl rfl ?_
          simp only [Act.put, List.setIfInBounds_toArray, List.set_cons_zero, List.set_cons_succ, List.getD_cons_succ, List.getD_cons_zero] at hK
          go_simp
          exact hK.out _ _ rfl (sepEmp hS) hst
        · refine all28 fun z0 z1 z2 z3 z4 z5 z6 z7 z8 z9 z10 z11 z12 z13 z14 z15 z16 z17 z18 z19 z20 z21 z22 z23 z24 z25 z26 z27 W L hv hS hst a ha K hK => ?_
          simp only [dagPut, Act.put, List.setIfInBounds_toArray, List.set_cons_zero, List.set_cons_succ] at ha
          subst ha
          refine wpOp_plain rfl rfl ?_
          simp only [Act.put, List.setIfInBounds_toArray, List.set_cons_zero, List.set_cons_succ, List.getD_cons_succ, List.getD_cons_zero] at hK
          go_simp
          exact hK.out _ _ rfl (sepEmp hS) hst
        · refine all28 fun z0 z1 z2 z3 z4 z5 z6 z7 z8 z9 z10 z11 z12 z13 z14 z15 z16 z17 z18 z19 z20 z21 z22 z23 z24 z25 z26 z27 W L hv hS hst a ha K hK => ?_
          obtain ⟨v7, v8, _⟩ := hv
          obtain rfl : z7 = _ := v7
          obtain rfl : z8 = _ := v8
          simp only [dagPut, Act.put, List.setIfInBounds_toArray, List.set_cons_zero, List.set_cons_succ] at ha
          subst ha
          refine wpOp_plain rfl rfl ?_
          simp only [Act.put, List.setIfInBounds_toArray, List.set_cons_zero, List.set_cons_succ, List.getD_cons_succ, List.getD_cons_zero] at hK
          go_simp
          exact hK.out _ _ rfl (sepEmp hS) hst
        · refine all28 fun z0 z1 z2 z3 z4 z5 z6 z7 z8 z9 z10 z11 z12 z13 z14 z15 z16 z17 z18 z19 z20 z21 z22 z23 z24 z25 z26 z27 W L hv hS hst a ha K hK => ?_
          obtain ⟨v9, _⟩ := hv
          obtain rfl : z9 = _ := v9
          have c0 := HX.out W _ hS
          simp only [dagPut, Act.put, List.setIfInBounds_toArray, List.set_cons_zero, List.set_cons_succ] at ha
          subst ha
          refine wpOp_plain rfl rfl ?_
          simp only [Act.put, List.setIfInBounds_toArray, List.set_cons_zero, List.set_cons_succ, List.getD_cons_succ, List.getD_cons_zero] at hK
          go_simp
          exact hK.out _ _ rfl (sepEmp hS) hst
        · refine all28 fun z0 z1 z2 z3 z4 z5 z6 z7 z8 z9 z10 z11 z12 z13 z14 z15 z16 z17 z18 z19 z20 z21 z22 z23 z24 z25 z26 z27 W L hv hS hst a ha K hK => ?_
          obtain ⟨v6, v10, _⟩ := hv
          obtain rfl : z6 = _ := v6
          obtain rfl : z10 = _ := v10
          simp only [dagPut, Act.put, List.setIfInBounds_toArray, List.set_cons_zero, List.set_cons_succ] at ha
          subst ha
          refine wpOp_plain rfl rfl ?_
          simp only [Act.put, List.setIfInBounds_toArray, List.set_cons_zero, List.set_cons_succ, List.getD_cons_succ, List.getD_cons_zero] at hK
          go_simp
          refine (HC.out.2.1 W y).mono ?_
          rintro e w3 ⟨rfl, hS3, hst3⟩
          exact hK.out _ _ rfl (sepEmp (Sep.mount (M := []) hS hS3)) (hst.trans hst3)
        · refine all28 fun z0 z1 z2 z3 z4 z5 z6 z7 z8 z9 z10 z11 z12 z13 z14 z15 z16 z17 z18 z19 z20 z21 z22 z23 z24 z25 z26 z27 W L hv hS hst a ha K hK => ?_
          obtain ⟨v5, v11, _⟩ := hv
          obtain rfl : z5 = _ := v5
          obtain rfl : z11 = _ := v11
          simp only [dagPut, Act.put, List.setIfInBounds_toArray, List.set_cons_zero, List.set_cons_succ] at ha
          subst ha
          refine wpOp_plain rfl rfl ?_
          simp only [Act.put, List.setIfInBounds_toArray, List.set_cons_zero, List.set_cons_succ, List.getD_cons_succ, List.getD_cons_zero] at hK
          go_simp
          exact hK.out _ _ rfl (sepEmp hS) hst
        · refine all28 fun z0 z1 z2 z3 z4 z5 z6 z7 z8 z9 z10 z11 z12 z13 z14 z15 z16 z17 z18 z19 z20 z21 z22 z23 z24 z25 z26 z27 W L hv hS hst a ha K hK => ?_
          obtain ⟨v12, _⟩ := hv
          obtain rfl : z12 = _ := v12
          simp only [dagPut, Act.put, List.setIfInBounds_toArray, List.set_cons_zero, List.set_cons_succ] at ha
          subst ha
          refine wpOp_plain rfl rfl ?_
          simp only [Act.put, List.setIfInBounds_toArray, List.set_cons_zero, List.set_cons_succ, List.getD_cons_succ, List.getD_cons_zero] at hK
          go_simp
          exact hK.out _ _ rfl (sepEmp hS) hst
        · refine all28 fun z0 z1 z2 z3 z4 z5 z6 z7 z8 z9 z10 z11 z12 z13 z14 z15 z16 z17 z18 z19 z20 z21 z22 z23 z24 z25 z26 z27 W L hv hS hst a ha K hK => ?_
          obtain ⟨v13, _⟩ := hv
          obtain rfl : z13 = _ := v13
          simp only [dagPut, Act.put, List.setIfInBounds_toArray, List.set_cons_zero, List.set_cons_succ] at ha
          subst ha
          refine wpOp_on rfl rfl ?_
          simp only [Act.put, List.setIfInBounds_toArray, List.set_cons_zero, List.set_cons_succ, List.getD_cons_succ, List.getD_cons_zero] at hK
          refine wp_load_row 31 _ rfl _ rfl _ _ _ _ (Sep.get (L := _) (Sep.pick 1 hS)) Try.underlying31 rfl (by kernel_rfl) ?_
          exact hK.out _ _ rfl (sepEmp hS) hst
        · refine all28 fun z0 z1 z2 z3 z4 z5 z6 z7 z8 z9 z10 z11 z12 z13 z14 z15 z16 z17 z18 z19 z20 z21 z22 z23 z24 z25 z26 z27 W L hv hS hst a ha K hK => ?_
          obtain ⟨v13, _⟩ := hv
          obtain rfl : z13 = _ := v13
          simp only [dagPut, Act.put, List.setIfInBounds_toArray, List.set_cons_zero, List.set_cons_succ] at ha
          subst ha
          refine wpOp_on rfl rfl ?_
          simp only [Act.put, List.setIfInBounds_toArray, List.set_cons_zero, List.set_cons_succ, List.getD_cons_succ, List.getD_cons_zero] at hK
          go_simp
          exact hK.out _ _ rfl (sepEmp hS) hst
        · refine all28 fun z0 z1 z2 z3 z4 z5 z6 z7 z8 z9 z10 z11 z12 z13 z14 z15 z16 z17 z18 z19 z20 z21 z22 z23 z24 z25 z26 z27 W L hv hS hst a ha K hK => ?_
          obtain ⟨v13, _⟩ := hv
          obtain rfl : z13 = _ := v13
          simp only [dagPut, Act.put, List.setIfInBounds_toArray, List.set_cons_zero, List.set_cons_succ] at ha
          subst ha
          refine wpOp_on rfl rfl ?_
          simp only [Act.put, List.setIfInBounds_toArray, List.set_cons_zero, List.set_cons_succ, List.getD_cons_succ, List.getD_cons_zero] at hK
          go_simp
          exact hK.out _ _ rfl (sepEmp hS) hst
        · refine all28 fun z0 z1 z2 z3 z4 z5 z6 z7 z8 z9 z10 z11 z12 z13 z14 z15 z16 z17 z18 z19 z20 z21 z22 z23 z24 z25 z26 z27 W L hv hS hst a ha K hK => ?_
          obtain ⟨v15, v16, v13, _⟩ := hv
          obtain rfl : z15 = _ := v15
          obtain rfl : z16 = _ := v16
          obtain rfl : z13 = _ := v13
          simp only [dagPut, Act.put, List.setIfInBounds_toArray, List.set_cons_zero, List.set_cons_succ] at ha
          subst ha
          refine wpOp_on rfl rfl ?_
          simp only [Act.put, List.setIfInBounds_toArray, List.set_cons_zero, List.set_cons_succ, List.getD_cons_succ, List.getD_cons_zero] at hK
          go_simp
          exact hK.out _ _ rfl (sepEmp hS) hst
        · refine all28 fun z0 z1 z2 z3 z4 z5 z6 z7 z8 z9 z10 z11 z12 z13 z14 z15 z16 z17 z18 z19 z20 z21 z22 z23 z24 z25 z26 z27 W L hv hS hst a ha K hK => ?_
          obtain ⟨v17, v13, _⟩ := hv
          obtain rfl : z17 = _ := v17
          obtain rfl : z13 = _ := v13
          have c0 := HX.out W _ hS
          simp only [dagPut, Act.put, List.setIfInBounds_toArray, List.set_cons_zero, List.set_cons_succ] at ha
          subst ha
          refine wpOp_on rfl rfl ?_
          simp only [Act.put, List.setIfInBounds_toArray, List.set_cons_zero, List.set_cons_succ, List.getD_cons_succ, List.getD_cons_zero] at hK
          go_simp
          exact hK.out _ _ rfl (sepEmp hS) hst
        · refine all28 fun z0 z1 z2 z3 z4 z5 z6 z7 z8 z9 z10 z11 z12 z13 z14 z15 z16 z17 z18 z19 z20 z21 z22 z23 z24 z25 z26 z27 W L hv hS hst a ha K hK => ?_
          obtain ⟨v14, v18, v13, _⟩ := hv
          obtain rfl : z14 = _ := v14
          obtain rfl : z18 = _ := v18
          obtain rfl : z13 = _ := v13
          simp only [dagPut, Act.put, List.setIfInBounds_toArray, List.set_cons_zero, List.set_cons_succ] at ha
          subst ha
          refine wpOp_on rfl rfl ?_
          simp only [Act.put, List.setIfInBounds_toArray, List.set_cons_zero, List.set_cons_succ, List.getD_cons_succ, List.getD_cons_zero] at hK
          go_simp
          refine (HC.out.2.2.1 W y).mono ?_
          rintro e w3 ⟨rfl, hS3, hst3⟩
          exact hK.out _ _ rfl (sepEmp (Sep.mount (M := []) hS hS3)) (hst.trans hst3)
        · refine all28 fun z0 z1 z2 z3 z4 z5 z6 z7 z8 z9 z10 z11 z12 z13 z14 z15 z16 z17 z18 z19 z20 z21 z22 z23 z24 z25 z26 z27 W L hv hS hst a ha K hK => ?_
          obtain ⟨v13, _⟩ := hv
          obtain rfl : z13 = _ := v13
          simp only [dagPut, Act.put, List.setIfInBounds_toArray, List.set_cons_zero, List.set_cons_succ] at ha
          subst ha
          refine wpOp_on rfl rfl ?_
          simp only [Act.put, List.setIfInBounds_toArray, List.set_cons_zero, List.set_cons_succ, List.getD_cons_succ, List.getD_cons_zero] at hK
          refine wp_load_row 31 _ rfl _ rfl _ _ _ _ (Sep.get (L := _) (Sep.pick 1 hS)) Try.underlying31 rfl (by kernel_rfl) ?_
          exact hK.out _ _ rfl (sepEmp hS) hst
        · refine all28 fun z0 z1 z2 z3 z4 z5 z6 z7 z8 z9 z10 z11 z12 z13 z14 z15 z16 z17 z18 z19 z20 z21 z22 z23 z24 z25 z26 z27 W L hv hS hst a ha K hK => ?_
          obtain ⟨v13, _⟩ := hv
          obtain rfl : z13 = _ := v13
          simp only [dagPut, Act.put, List.setIfInBounds_toArray, List.set_cons_zero, List.set_cons_succ] at ha
          subst ha
          refine wpOp_on rfl rfl ?_
          simp only [Act.put, List.setIfInBounds_toArray, List.set_cons_zero, List.set_cons_succ, List.getD_cons_succ, List.getD_cons_zero] at hK
          go_simp
          exact hK.out _ _ rfl (sepEmp hS) hst
        · refine all28 fun z0 z1 z2 z3 z4 z5 z6 z7 z8 z9 z10 z11 z12 z13 z14 z15 z16 z17 z18 z19 z20 z21 z22 z23 z24 z25 z26 z27 W L hv hS hst a ha K hK => ?_
          obtain ⟨v13, _⟩ := hv
          obtain rfl : z13 = _ := v13
          simp only [dagPut, Act.put, List.setIfInBounds_toArray, List.set_cons_zero, List.set_cons_succ] at ha
          subst ha
          refine wpOp_on rfl rfl ?_
          simp only [Act.put, List.setIfInBounds_toArray, List.set_cons_zero, List.set_cons_succ, List.getD_cons_succ, List.getD_cons_zero] at hK
          go_simp
          exact hK.out _ _ rfl (sepEmp hS) hst
        · refine all28 fun z0 z1 z2 z3 z4 z5 z6 z7 z8 z9 z10 z11 z12 z13 z14 z15 z16 z17 z18 z19 z20 z21 z22 z23 z24 z25 z26 z27 W L hv hS hst a ha K hK => ?_
          obtain ⟨v21, v22, v13, _⟩ := hv
          obtain rfl : z21 = _ := v21
          obtain rfl : z22 = _ := v22
          obtain rfl : z13 = _ := v13
          simp only [dagPut, Act.put, List.setIfInBounds_toArray, List.set_cons_zero, List.set_cons_succ] at ha
          subst ha
          refine wpOp_on rfl rfl ?_
          simp only [Act.put, List.setIfInBounds_toArray, List.set_cons_zero, List.set_cons_succ, List.getD_cons_succ, List.getD_cons_zero] at hK
          go_simp
          exact hK.out _ _ rfl (sepEmp hS) hst
        · refine all28 fun z0 z1 z2 z3 z4 z5 z6 z7 z8 z9 z10 z11 z12 z13 z14 z15 z16 z17 z18 z19 z20 z21 z22 z23 z24 z25 z26 z27 W L hv hS hst a ha K hK => ?_
          obtain ⟨v23, v13, _⟩ := hv
          obtain rfl : z23 = _ := v23
          obtain rfl : z13 = _ := v13
          have c0 := HX.out W _ hS
          simp only [dagPut, Act.put, List.setIfInBounds_toArray, List.set_cons_zero, List.set_cons_succ] at ha
          subst ha
          refine wpOp_on rfl rfl ?_
          simp only [Act.put, List.setIfInBounds_toArray, List.set_cons_zero, List.set_cons_succ, List.getD_cons_succ, List.getD_cons_zero] at hK
          go_simp
          exact hK.out _ _ rfl (sepEmp hS) hst
        · refine all28 fun z0 z1 z2 z3 z4 z5 z6 z7 z8 z9 z10 z11 z12 z13 z14 z15 z16 z17 z18 z19 z20 z21 z22 z23 z24 z25 z26 z27 W L hv hS hst a ha K hK => ?_
          obtain ⟨v20, v24, v13, _⟩ := hv
          obtain rfl : z20 = _ := v20
          obtain rfl : z24 = _ := v24
          obtain rfl : z13 = _ := v13
          simp only [dagPut, Act.put, List.setIfInBounds_toArray, List.set_cons_zero, List.set_cons_succ] at ha
          subst ha
          refine wpOp_on rfl rfl ?_
          simp only [Act.put, List.setIfInBounds_toArray, List.set_cons_zero, List.set_cons_succ, List.getD_cons_succ, List.getD_cons_zero] at hK
          go_simp
          refine (HC.out.2.2.2.1 W y).mono ?_
          rintro e w3 ⟨rfl, hS3, hst3⟩
          exact hK.out _ _ rfl (sepEmp (Sep.mount (M := []) hS hS3)) (hst.trans hst3)
        · refine all28 fun z0 z1 z2 z3 z4 z5 z6 z7 z8 z9 z10 z11 z12 z13 z14 z15 z16 z17 z18 z19 z20 z21 z22 z23 z24 z25 z26 z27 W L hv hS hst a ha K hK => ?_
          obtain ⟨v19, v25, v13, _⟩ := hv
          obtain rfl : z19 = _ := v19
          obtain rfl : z25 = _ := v25
          obtain rfl : z13 = _ := v13
          simp only [dagPut, Act.put, List.setIfInBounds_toArray, List.set_cons_zero, List.set_cons_succ] at ha
          subst ha
          refine wpOp_on rfl rfl ?_
          simp only [Act.put, List.setIfInBounds_toArray, List.set_cons_zero, List.set_cons_succ, List.getD_cons_succ, List.getD_cons_zero] at hK
          go_simp
          exact hK.out _ _ rfl (sepEmp hS) hst
        · refine all28 fun z0 z1 z2 z3 z4 z5 z6 z7 z8 z9 z10 z11 z12 z13 z14 z15 z16 z17 z18 z19 z20 z21 z22 z23 z24 z25 z26 z27 W L hv hS hst a ha K hK => ?_
          obtain ⟨v13, v26, _⟩ := hv
          obtain rfl : z13 = _ := v13
          obtain rfl : z26 = _ := v26
          simp only [dagPut, Act.put, List.setIfInBounds_toArray, List.set_cons_zero, List.set_cons_succ] at ha
          subst ha
          refine wpOp_plain rfl rfl ?_
          simp only [Act.put, List.setIfInBounds_toArray, List.set_cons_zero, List.set_cons_succ, List.getD_cons_succ, List.getD_cons_zero] at hK
          go_simp
          exact hK.out _ _ rfl (sepEmp hS) hst
        · refine all28 fun z0 z1 z2 z3 z4 z5 z6 z7 z8 z9 z10 z11 z12 z13 z14 z15 z16 z17 z18 z19 z20 z21 z22 z23 z24 z25 z26 z27 W hv hS hst a ha => ?_
          obtain ⟨⟨⟨⟨⟨⟨⟨⟨⟨⟨⟨⟨⟨⟨⟨⟨⟨⟨⟨⟨⟨⟨⟨⟨⟨⟨⟨⟨_, v0⟩, v1⟩, v2⟩, v3⟩, v4⟩, v5⟩, v6⟩, v7⟩, v8⟩, v9⟩, v10⟩, v11⟩, v12⟩, v13⟩, v14⟩, v15⟩, v16⟩, v17⟩, v18⟩, v19⟩, v20⟩, v21⟩, v22⟩, v23⟩, v24⟩, v25⟩, v26⟩, v27⟩ := hv
          obtain rfl : z0 = _ := v0
          obtain rfl : z1 = _ := v1
          obtain rfl : z2 = _ := v2
          obtain rfl : z3 = _ := v3
          obtain rfl : z4 = _ := v4
          obtain rfl : z5 = _ := v5
          obtain rfl : z6 = _ := v6
          obtain rfl : z7 = _ := v7
          obtain rfl : z8 = _ := v8
          obtain rfl : z9 = _ := v9
          obtain rfl : z10 = _ := v10
          obtain rfl : z11 = _ := v11
          obtain rfl : z12 = _ := v12
          obtain rfl : z13 = _ := v13
          obtain rfl : z14 = _ := v14
          obtain rfl : z15 = _ := v15
          obtain rfl : z16 = _ := v16
          obtain rfl : z17 = _ := v17
          obtain rfl : z18 = _ := v18
          obtain rfl : z19 = _ := v19
          obtain rfl : z20 = _ := v20
          obtain rfl : z21 = _ := v21
          obtain rfl : z22 = _ := v22
          obtain rfl : z23 = _ := v23
          obtain rfl : z24 = _ := v24
          obtain rfl : z25 = _ := v25
          obtain rfl : z26 = _ := v26
          obtain rfl : z27 = _ := v27
          simp only [dagPut, Act.put, List.setIfInBounds_toArray, List.set_cons_zero, List.set_cons_succ] at ha; subst ha
          go_wp2_with fail
          go_meet
          exact ⟨rfl, hS, hst⟩
      case rest =>
        obtain ⟨rfl, hS, hst⟩ := hcut
        have H6 := Lib.hid (And.intro hS hst)
        clear hS hst
        go_wp2_with fail
        go_roundw
        case rel => exact ⟨k + 1, by omega, by go_num, H6.out.1, H6.out.2⟩
        case measure => simp [intOf]; omega
    · obtain rfl : k = 5 := by omega
      go_upto_region 8 with fail
      refine wp_region_dag (w0 := w1) 9 [some 51, some 52, some 53, some 54, some 55, some 56, some 57, some 58, some 6] [.det [] (.agg #[i64 players, .slice ba bodies.length bc, i64 x0, i64 y0, i64 x1, i64 y1, .slice ra rooms.length rc, .slice da doors.length dc, i64 fog, i64 gx, i64 gy, i64 push, i64 drag, i64 rest, i64 rounds, i64 fuel]), .det [0] (i64 sz), .det [] (.agg #[i64 players, .slice ba bodies.length bc, i64 x0, i64 y0, i64 x1, i64 y1, .slice ra rooms.length rc, .slice da doors.length dc, i64 fog, i64 gx, i64 gy, i64 push, i64 drag, i64 rest, i64 rounds, i64 fuel]), .det [2] (i64 sz), .det [1, 3] (.bool true), .det [4] (.bool true), .det [5] (.bool true), .det [5, 6] (.bool true), .det [7] (.bool true)] [pts gi (.cells #[i64 p, i64 i, i64 pa, i64 ia, i64 (-1)] 3), pts bs (.cells #[i64 players, .slice ba bodies.length bc, i64 x0, i64 y0, i64 x1, i64 y1, .slice ra rooms.length rc, .slice da doors.length dc, i64 fog, i64 gx, i64 gy, i64 push, i64 drag, i64 rest, i64 rounds, i64 fuel] 31), old w1] [] rfl (by kernel_rfl) (by kernel_rfl) (by kernel_rfl) (by kernel_rfl) (HR.out.1) (HR.out.2) ⟨⟨⟨⟨⟨⟨⟨⟨⟨trivial, ?_⟩, ?_⟩, ?_⟩, ?_⟩, ?_⟩, ?_⟩, ?_⟩, ?_⟩, ?_⟩ ?_
      · refine all9 fun z0 z1 z2 z3 z4 z5 z6 z7 z8 W L hv hS hst a ha K hK => ?_
        simp only [dagPut, Act.put, List.setIfInBounds_toArray, List.set_cons_zero, List.set_cons_succ] at ha
        subst ha
        refine wpOp_plain rfl rfl ?_
        simp only [Act.put, List.setIfInBounds_toArray, List.set_cons_zero, List.set_cons_succ, List.getD_cons_zero] at hK
        refine wp_load_row 31 _ rfl _ rfl _ _ _ _ (Sep.get (L := _) (Sep.pick 1 hS)) Try.underlying31 rfl (by kernel_rfl) ?_
        exact hK.out _ _ rfl (sepEmp hS) hst
      · refine all9 fun z0 z1 z2 z3 z4 z5 z6 z7 z8 W L hv hS hst a ha K hK => ?_
        obtain ⟨v0, _⟩ := hv
        obtain rfl : z0 = _ := v0
        simp only [dagPut, Act.put, List.setIfInBounds_toArray, List.set_cons_zero, List.set_cons_succ] at ha
        subst ha
        refine wpOp_plain rfl rfl ?_
        simp only [Act.put, List.setIfInBounds_toArray, List.set_cons_zero, List.set_cons_succ, List.getD_cons_succ, List.getD_cons_zero] at hK
        go_simp
        refine (HC.out.2.2.2.2.1 W).mono ?_
        rintro e w3 ⟨rfl, hS3, hst3⟩
        exact hK.out _ _ rfl (sepEmp (Sep.mount (M := []) hS hS3)) (hst.trans hst3)
      · refine all9 fun z0 z1 z2 z3 z4 z5 z6 z7 z8 W L hv hS hst a ha K hK => ?_
        simp only [dagPut, Act.put, List.setIfInBounds_toArray, List.set_cons_zero, List.set_cons_succ] at ha
        subst ha
        refine wpOp_plain rfl rfl ?_
        simp only [Act.put, List.setIfInBounds_toArray, List.set_cons_zero, List.set_cons_succ, List.getD_cons_succ, List.getD_cons_zero] at hK
        refine wp_load_row 31 _ rfl _ rfl _ _ _ _ (Sep.get (L := _) (Sep.pick 1 hS)) Try.underlying31 rfl (by kernel_rfl) ?_
        exact hK.out _ _ rfl (sepEmp hS) hst
      · refine all9 fun z0 z1 z2 z3 z4 z5 z6 z7 z8 W L hv hS hst a ha K hK => ?_
        obtain ⟨v2, _⟩ := hv
        obtain rfl : z2 = _ := v2
        simp only [dagPut, Act.put, List.setIfInBounds_toArray, List.set_cons_zero, List.set_cons_succ] at ha
        subst ha
        refine wpOp_plain rfl rfl ?_
        simp only [Act.put, List.setIfInBounds_toArray, List.set_cons_zero, List.set_cons_succ, List.getD_cons_succ, List.getD_cons_zero] at hK
        go_simp
        refine (HC.out.2.2.2.2.2 W).mono ?_
        rintro e w3 ⟨rfl, hS3, hst3⟩
        exact hK.out _ _ rfl (sepEmp (Sep.mount (M := []) hS hS3)) (hst.trans hst3)
      · refine all9 fun z0 z1 z2 z3 z4 z5 z6 z7 z8 W L hv hS hst a ha K hK => ?_
        obtain ⟨v1, v3, _⟩ := hv
        obtain rfl : z1 = _ := v1
        obtain rfl : z3 = _ := v3
        simp only [dagPut, Act.put, List.setIfInBounds_toArray, List.set_cons_zero, List.set_cons_succ] at ha
        subst ha
        refine wpOp_plain rfl rfl ?_
        simp only [Act.put, List.setIfInBounds_toArray, List.set_cons_zero, List.set_cons_succ, List.getD_cons_succ, List.getD_cons_zero] at hK
        go_simp
        exact hK.out _ _ rfl (sepEmp hS) hst
      · refine all9 fun z0 z1 z2 z3 z4 z5 z6 z7 z8 W L hv hS hst a ha K hK => ?_
        obtain ⟨v4, _⟩ := hv
        obtain rfl : z4 = _ := v4
        simp only [dagPut, Act.put, List.setIfInBounds_toArray, List.set_cons_zero, List.set_cons_succ] at ha
        subst ha
        refine wpOp_plain rfl rfl ?_
        simp only [Act.put, List.setIfInBounds_toArray, List.set_cons_zero, List.set_cons_succ, List.getD_cons_succ, List.getD_cons_zero] at hK
        go_simp
        exact hK.out _ _ rfl (sepEmp hS) hst
      · refine all9 fun z0 z1 z2 z3 z4 z5 z6 z7 z8 W L hv hS hst a ha K hK => ?_
        obtain ⟨v5, _⟩ := hv
        obtain rfl : z5 = _ := v5
        simp only [dagPut, Act.put, List.setIfInBounds_toArray, List.set_cons_zero, List.set_cons_succ] at ha
        subst ha
        refine wpOp_on rfl rfl ?_
        simp only [Act.put, List.setIfInBounds_toArray, List.set_cons_zero, List.set_cons_succ, List.getD_cons_succ, List.getD_cons_zero] at hK
        go_simp
        refine (lives_spec (Sep.start W)).mono ?_
        rintro e w3 ⟨rfl, hS3, hst3⟩
        exact hK.out _ _ rfl (sepEmp (Sep.mount (M := []) hS hS3)) (hst.trans hst3)
      · refine all9 fun z0 z1 z2 z3 z4 z5 z6 z7 z8 W L hv hS hst a ha K hK => ?_
        obtain ⟨v5, v6, _⟩ := hv
        obtain rfl : z5 = _ := v5
        obtain rfl : z6 = _ := v6
        simp only [dagPut, Act.put, List.setIfInBounds_toArray, List.set_cons_zero, List.set_cons_succ] at ha
        subst ha
        refine wpOp_plain rfl rfl ?_
        simp only [Act.put, List.setIfInBounds_toArray, List.set_cons_zero, List.set_cons_succ, List.getD_cons_succ, List.getD_cons_zero] at hK
        go_simp
        exact hK.out _ _ rfl (sepEmp hS) hst
      · refine all9 fun z0 z1 z2 z3 z4 z5 z6 z7 z8 W L hv hS hst a ha K hK => ?_
        obtain ⟨v7, _⟩ := hv
        obtain rfl : z7 = _ := v7
        simp only [dagPut, Act.put, List.setIfInBounds_toArray, List.set_cons_zero, List.set_cons_succ] at ha
        subst ha
        refine wpOp_plain rfl rfl ?_
        simp only [Act.put, List.setIfInBounds_toArray, List.set_cons_zero, List.set_cons_succ, List.getD_cons_succ, List.getD_cons_zero] at hK
        go_simp
        exact hK.out _ _ rfl (sepEmp hS) hst
      · refine all9 fun z0 z1 z2 z3 z4 z5 z6 z7 z8 W hv hS hst a ha => ?_
        obtain ⟨⟨⟨⟨⟨⟨⟨⟨⟨_, v0⟩, v1⟩, v2⟩, v3⟩, v4⟩, v5⟩, v6⟩, v7⟩, v8⟩ := hv
        obtain rfl : z0 = _ := v0
        obtain rfl : z1 = _ := v1
        obtain rfl : z2 = _ := v2
        obtain rfl : z3 = _ := v3
        obtain rfl : z4 = _ := v4
        obtain rfl : z5 = _ := v5
        obtain rfl : z6 = _ := v6
        obtain rfl : z7 = _ := v7
        obtain rfl : z8 = _ := v8
        have H6 := Lib.hid (And.intro hS hst)
        clear hS hst
        simp only [dagPut, Act.put, List.setIfInBounds_toArray, List.set_cons_zero, List.set_cons_succ] at ha; subst ha
        go_wp2_with fail
        go_ret
        exact ⟨rfl, rebase HB.out (Sep.below H6.out.1.drop.drop H6.out.2)⟩

end Go.Proofs.Ytkalpgngoijdmaa
