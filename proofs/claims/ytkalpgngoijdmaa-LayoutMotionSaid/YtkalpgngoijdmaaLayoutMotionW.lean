/- The walk of LayoutMotion. -/
import Derived.Test.YtkalpgngoijdmaaMotion2
import Derived.Test.YtkalpgngoijdmaaInts
namespace Go.Proofs.Ytkalpgngoijdmaa
open Go.RowKit Go.Sl

theorem motE_cells (s : Su) (cs : List Int) (i : Int) : ∃ m0 m1 m2 m3 m4, motE s cs i = #[i64 m0, i64 m1, i64 m2, i64 m3, i64 m4] := by
  unfold motE
  split
  · exact ⟨_, _, _, _, _, rfl⟩
  · exact ⟨_, _, _, _, _, rfl⟩

set_option maxRecDepth 100000 in
set_option maxHeartbeats 8000000 in
theorem layoutMotion_walk {w : World} {u vc : Value} {l cl : List Int} {i : Int} (e0 : readsI w u l) (b0 : l.length ≤ 9223372036854775807) (w0 : ∀ x ∈ l, inI64 x) (e1 : readsI w vc cl) (b1 : cl.length ≤ 9223372036854775807) (_w1 : ∀ x ∈ cl, inI64 x) (hi : inI64 i) :
    Calls Try.prog 8 #[u, vc, i64 i] w fun e w' => e = .returned (.bool true) ∧ Below w.heap.size w w' := by
  clear _w1
  have hSet := Setup12_spec e0 w0 b0
  have hA1 := fun w => Around_spec i 6 w (by omega) (by omega) hi
  generalize around i 6 = ia at *
  have HS := Lib.hid (And.intro hSet (And.intro hA1 (And.intro e1 b1)))
  clear hSet e0 b0 w0 hA1 hi e1 b1
  go_enter Try.func8, Try.ntmps8
  go_wp2_with fail
  refine HS.out.1.mono ?_
  rintro e w1 ⟨su, rfl, hg, hS1, hst1⟩
  have hB1 : Below w.heap.size w w1 := (Su.oldPart hS1).below hst1
  have hbr := Su.bodiesRead hS1
  have hcl : readsI w1 vc cl := HS.out.2.2.1.of_heap (Su.oldPart hS1).oldGet
  obtain ⟨np, hnp, hnp3⟩ := hg.base.players_nat
  have hpb : 0 ≤ su.st.players ∧ su.st.players ≤ 1000 := by omega
  have hnb := hg.base.nb
  have hfew := hg.base.few
  have hMo := fun (W : World) (M : List Asn) (hW : Sep W (old w1 :: M)) (cv : Value) (cs : List Int) (hr : readsI W cv cs) (hl : cs.length ≤ 1000000) (j : Int) => Motion_spec su hpb hnb (by omega) (hbr.of_heap hW.oldGet) hr hl j
  have hmc := fun (cs : List Int) (j : Int) => motE_cells su cs j
  have hIn := fun (W : World) (M : List Asn) (hW : Sep W (old w1 :: M)) => InitialR_spec su np hnp (by omega) hnb (by omega) (hbr.of_heap hW.oldGet)
  have HB := Lib.hid (And.intro hB1 hcl)
  clear hS1 hst1 hB1 hg hpb hbr hcl
  obtain ⟨s, bodies⟩ := su
  obtain ⟨players, nb, ba, bc, x0, y0, x1, y1, rooms, ra, rc, doors, da, dc, fog, gx, gy, push, drag, rest, rounds, fuel⟩ := s
  dsimp only [St.val] at *
  subst hnb
  subst hnp
  generalize motE ⟨⟨(np : Int), bodies.length, ba, bc, x0, y0, x1, y1, rooms, ra, rc, doors, da, dc, fog, gx, gy, push, drag, rest, rounds, fuel⟩, bodies⟩ = mo at *
  have hinl : (initL np bodies).length = 48 + 4 * np + 8 * bodies.length := by have := initTo_length np bodies bodies.length (by omega); rwa [initTo_all] at this
  generalize initL np bodies = il at *
  have HC := Lib.hid (And.intro hMo (And.intro hmc hIn))
  clear hMo hmc hIn
  have H1 := Lib.hid (And.intro ((Sep.start w1).alloc (.cells #[i64 0, .slice none 0 0, i64 0, i64 0, i64 0, i64 0, .slice none 0 0, .slice none 0 0, i64 0, i64 0, i64 0, i64 0, i64 0, i64 0, i64 0, i64 0] 31)) ((Stable.refl w1).alloc (.cells #[i64 0, .slice none 0 0, i64 0, i64 0, i64 0, i64 0, .slice none 0 0, .slice none 0 0, i64 0, i64 0, i64 0, i64 0, i64 0, i64 0, i64 0, i64 0] 31)))
  go_upto_region 2 with (refine wpList_store_sep rfl 31 _ _ rfl w1.heap.size #[i64 (np : Int), .slice ba bodies.length bc, i64 x0, i64 y0, i64 x1, i64 y1, .slice ra rooms.length rc, .slice da doors.length dc, i64 fog, i64 gx, i64 gy, i64 push, i64 drag, i64 rest, i64 rounds, i64 fuel] rfl rfl H1.out.1 (by kernel_rfl) rfl (by kernel_rfl) ?_; intro w2 hS2 hst2)
  generalize w1.heap.size = bs at *
  have H2 := Lib.hid (And.intro hS2 (H1.out.2.trans hst2))
  clear hS2 hst2 H1
  go_wp2_with fail
  refine (Ints_spec 100 (show readsI w2 vc cl from HB.out.2.of_heap (H2.out.1.pick 1).oldGet) HS.out.2.2.2 (by omega)).mono ?_
  rintro e w3 ⟨ev, rfl, hS3, hst3⟩
  have hfl : (cl.take 100).length ≤ 100 := by rw [List.length_take]; omega
  generalize cl.take 100 = few at *
  obtain ⟨ea, ec, rfl, _, _⟩ := (hS3.pick 1).rowShape
  have H3 := Lib.hid (And.intro (H2.out.1.mount hS3) (H2.out.2.trans hst3))
  clear hS3 hst3 H2
  go_wp2_with (refine wpList_load_g 31 _ rfl _ rfl _ _ _ _ (Sep.get (H3.out.1.pick 1)) Try.underlying31 rfl (by kernel_rfl) (by first | rfl | (go_simp; done) | (go_simp; omega)) ?_)
  refine (HC.out.2.2 _ _ (H3.out.1.pick 2)).mono ?_
  rintro e w4 ⟨fv, rfl, hS4, hst4⟩
  obtain ⟨gf, fc, rfl, _, _, _⟩ := rowI_at hS4 (by omega)
  have hS4' := H3.out.1.mount (hS4.pick 1)
  obtain ⟨N, hN⟩ : ∃ N, il.length = N := ⟨_, rfl⟩
  rw [hN] at hS4' hinl ⊢
  have H4 := Lib.hid (And.intro (show Sep w4 [rowI (.slice (some ⟨gf, 0, none⟩) N fc) il, rowI (.slice ea few.length ec) few, pts bs (.cells #[i64 (np : Int), .slice ba bodies.length bc, i64 x0, i64 y0, i64 x1, i64 y1, .slice ra rooms.length rc, .slice da doors.length dc, i64 fog, i64 gx, i64 gy, i64 push, i64 drag, i64 rest, i64 rounds, i64 fuel] 31), old w1] from hS4') (And.intro (H3.out.2.trans hst4) hN))
  have HIL := Lib.hid hinl
  have hN1 : 48 ≤ N ∧ N ≤ 1000 := by omega
  clear hS4 hS4' hst4 H3 hinl hN
  go_wp2_with fail
  go_loopw [10] (fun j wr => ∃ (k : Nat) (fl : List Int), k ≤ few.length ∧ k ≤ N ∧ fl.length = N ∧ j = .int .i64 k ∧ Sep wr [rowI (.slice (some ⟨gf, 0, none⟩) N fc) fl, rowI (.slice ea few.length ec) few, pts bs (.cells #[i64 (np : Int), .slice ba bodies.length bc, i64 x0, i64 y0, i64 x1, i64 y1, .slice ra rooms.length rc, .slice da doors.length dc, i64 fog, i64 gx, i64 gy, i64 push, i64 drag, i64 rest, i64 rounds, i64 fuel] 31), old w1] ∧ Stable w1 wr) (fun j _ => few.length - (intOf j).toNat)
  case atStart => exact ⟨0, il, by omega, by omega, H4.out.2.2, rfl, H4.out.1, H4.out.2.1⟩
  case round =>
    clear H4
    obtain ⟨k, fl, hk, hkN, hfN, rfl, hSr, hst⟩ := hrel
    by_cases hlt : k < few.length ∧ k < N
    · obtain ⟨hlt, hltN⟩ := hlt
      obtain ⟨g', cap', hv, _, _, hcw, _, _⟩ := rowI_at (hSr.pick 1) (by omega)
      obtain ⟨rfl, rfl⟩ : ea = some ⟨g', 0, none⟩ ∧ ec = cap' := by simpa using hv
      have hck := hcw k hlt
      obtain ⟨g2, cap2, hv2, _, _, hcf, hff, _⟩ := rowI_at hSr (by omega)
      have hgg : gf = g2 := by have := congrArg (fun v => match v with | Value.slice (some a) _ _ => a.block | _ => 0) hv2; simpa using this
      subst hgg
      have hcd := hcf (N - 1 - k) (by omega)
      have hfd := hff (N - 1 - k)
      have hset := rowI_set hSr (N - 1 - k) (few.getD k 0) (by omega)
      have H5 := Lib.hid (And.intro hset (And.intro hst hfN))
      clear hSr hst hv hcw hset hfN hv2 hcf hff
      generalize few.getD k 0 = y at *
      have ht : ((N : Int) - 1 - k).toNat = N - 1 - k := by omega
      have hz : (0 : Int) ≤ (N : Int) - 1 - k := by omega
      have hzn : (N : Int) - 1 - k < N := by omega
      go_wp2_with fail
      exact ⟨⟨k + 1, fl.set (N - 1 - k) y, by omega, by omega, by rw [List.length_set]; exact H5.out.2.2, by go_num, H5.out.1, H5.out.2.1.setCell _ _⟩, by simp [intOf]; omega⟩
    · have HR := Lib.hid (And.intro hSr (And.intro hst hfN))
      clear hSr hst hfN
      have hor : ((k : Int) < few.length ∧ ¬ (k : Int) < N) ∨ ¬ (k : Int) < few.length := by omega
      clear hlt
      rcases hor with ⟨h1, h2⟩ | h1
      all_goals
        go_wp2_with fail
        refine (HS.out.2.1 _).mono ?_
        rintro e w5 ⟨rfl, rfl⟩
        have H6 := Lib.hid (And.intro (HR.out.1.alloc (.cells #[i64 i, i64 ia] 3)) (HR.out.2.1.alloc (.cells #[i64 i, i64 ia] 3)))
        have HFN := Lib.hid HR.out.2.2
        clear HR
        go_wp2_with fail
        generalize wr.heap.size = gi at H6 ⊢
        go_loopw [12] (fun j wq => ∃ k : Nat, k ≤ 2 ∧ j = .int .i64 k ∧ Sep wq [pts gi (.cells #[i64 i, i64 ia] 3), rowI (.slice (some ⟨gf, 0, none⟩) N fc) fl, rowI (.slice ea few.length ec) few, pts bs (.cells #[i64 (np : Int), .slice ba bodies.length bc, i64 x0, i64 y0, i64 x1, i64 y1, .slice ra rooms.length rc, .slice da doors.length dc, i64 fog, i64 gx, i64 gy, i64 push, i64 drag, i64 rest, i64 rounds, i64 fuel] 31), old w1] ∧ Stable w1 wq) (fun j _ => 2 - (intOf j).toNat)
        case atStart => exact ⟨0, by omega, rfl, H6.out.1, H6.out.2⟩
        case round =>
          clear H6
          obtain ⟨k, hk, rfl, hSq, hstq⟩ := hrel
          have HQ := Lib.hid (And.intro hSq hstq)
          clear hSq hstq
          by_cases hlt : k < 2
          · obtain ⟨y, hx⟩ : ∃ y : Int, ∀ (W : World) (M : List Asn), Sep W (pts gi (.cells #[i64 i, i64 ia] 3) :: M) → W.cell? ⟨gi, k, none⟩ = some (i64 y) := by
              have hcase : k = 0 ∨ k = 1 := by omega
              rcases hcase with rfl | rfl
              · exact ⟨i, fun W M hW => cellD hW 0⟩
              · exact ⟨ia, fun W M hW => cellD hW 1⟩
            have HX := Lib.hid hx
            clear hx
            obtain ⟨f0, f1, f2, f3, f4, hf⟩ := HC.out.2.1 few y
            obtain ⟨h0, h1, h2, h3, h4, hh⟩ := HC.out.2.1 fl y
            have hM := fun (W : World) (M : List Asn) (hW : Sep W (pts gi (.cells #[i64 i, i64 ia] 3) :: rowI (.slice (some ⟨gf, 0, none⟩) N fc) fl :: rowI (.slice ea few.length ec) few :: pts bs (.cells #[i64 (np : Int), .slice ba bodies.length bc, i64 x0, i64 y0, i64 x1, i64 y1, .slice ra rooms.length rc, .slice da doors.length dc, i64 fog, i64 gx, i64 gy, i64 push, i64 drag, i64 rest, i64 rounds, i64 fuel] 31) :: old w1 :: M)) =>
              And.intro (HC.out.1 W _ (hW.pick 4) _ _ (Sep.pick 2 hW).reads (by omega) y).1 (And.intro (HC.out.1 W _ (hW.pick 4) _ _ (Sep.pick 2 hW).reads (by omega) y).2
                (And.intro (HC.out.1 W _ (hW.pick 4) _ _ (Sep.pick 1 hW).reads (by rw [HFN.out]; omega) y).1 (HC.out.1 W _ (hW.pick 4) _ _ (Sep.pick 1 hW).reads (by rw [HFN.out]; omega) y).2))
            rw [hf, hh] at hM
            have HM := Lib.hid hM
            clear hM hf hh
            have hlk : (k : Int) < 2 := by omega
            have gk : decide ((k : Int) < 2) = true := by rw [decide_eq_true_eq]; omega
            go_upto_region 12 with fail
            go_cut [81] from 50 to 80 (fun x81 wx => x81 = .bool false ∧ Sep wx [pts gi (.cells #[i64 i, i64 ia] 3), rowI (.slice (some ⟨gf, 0, none⟩) N fc) fl, rowI (.slice ea few.length ec) few, pts bs (.cells #[i64 (np : Int), .slice ba bodies.length bc, i64 x0, i64 y0, i64 x1, i64 y1, .slice ra rooms.length rc, .slice da doors.length dc, i64 fog, i64 gx, i64 gy, i64 push, i64 drag, i64 rest, i64 rounds, i64 fuel] 31), old w1] ∧ Stable w1 wx)
            case first =>
              refine wp_region_dag (w0 := w1) 32 [some 50, some 51, some 52, some 53, some 54, some 55, some 56, some 57, some 58, some 59, some 60, some 61, some 62, some 63, some 64, some 65, some 66, some 67, some 68, some 69, some 70, some 71, some 72, some 73, some 74, some 75, some 76, some 77, some 78, some 79, some 80, some 81] [.det [] (.agg #[i64 (np : Int), .slice ba bodies.length bc, i64 x0, i64 y0, i64 x1, i64 y1, .slice ra rooms.length rc, .slice da doors.length dc, i64 fog, i64 gx, i64 gy, i64 push, i64 drag, i64 rest, i64 rounds, i64 fuel]), .det [] ((.slice ea few.length ec)), .det [] (.slice (some ⟨gi, 0, none⟩) 2 2), .det [] (.int .i64 k), .det [2, 3] (.pointer (some ⟨gi, k, none⟩)), .det [4] (i64 y), .det [0, 1, 5] (.agg #[i64 f0, i64 f1, i64 f2, i64 f3, i64 f4]), .det [] (.agg #[i64 (np : Int), .slice ba bodies.length bc, i64 x0, i64 y0, i64 x1, i64 y1, .slice ra rooms.length rc, .slice da doors.length dc, i64 fog, i64 gx, i64 gy, i64 push, i64 drag, i64 rest, i64 rounds, i64 fuel]), .det [] ((.slice ea few.length ec)), .det [] (.slice (some ⟨gi, 0, none⟩) 2 2), .det [] (.int .i64 k), .det [9, 10] (.pointer (some ⟨gi, k, none⟩)), .det [11] (i64 y), .det [7, 8, 12] (.agg #[i64 f0, i64 f1, i64 f2, i64 f3, i64 f4]), .det [6, 13] (.bool false), .det [14] (.bool false), .det [15] (.agg #[i64 (np : Int), .slice ba bodies.length bc, i64 x0, i64 y0, i64 x1, i64 y1, .slice ra rooms.length rc, .slice da doors.length dc, i64 fog, i64 gx, i64 gy, i64 push, i64 drag, i64 rest, i64 rounds, i64 fuel]), .det [15] ((.slice (some ⟨gf, 0, none⟩) N fc)), .det [15] (.slice (some ⟨gi, 0, none⟩) 2 2), .det [15] (.int .i64 k), .det [18, 19, 15] (.pointer (some ⟨gi, k, none⟩)), .det [20, 15] (i64 y), .det [16, 17, 21, 15] (.agg #[i64 h0, i64 h1, i64 h2, i64 h3, i64 h4]), .det [15] (.agg #[i64 (np : Int), .slice ba bodies.length bc, i64 x0, i64 y0, i64 x1, i64 y1, .slice ra rooms.length rc, .slice da doors.length dc, i64 fog, i64 gx, i64 gy, i64 push, i64 drag, i64 rest, i64 rounds, i64 fuel]), .det [15] ((.slice (some ⟨gf, 0, none⟩) N fc)), .det [15] (.slice (some ⟨gi, 0, none⟩) 2 2), .det [15] (.int .i64 k), .det [25, 26, 15] (.pointer (some ⟨gi, k, none⟩)), .det [27, 15] (i64 y), .det [23, 24, 28, 15] (.agg #[i64 h0, i64 h1, i64 h2, i64 h3, i64 h4]), .det [22, 29, 15] (.bool false), .det [15, 30] (.bool false)] [pts gi (.cells #[i64 i, i64 ia] 3), rowI (.slice (some ⟨gf, 0, none⟩) N fc) fl, rowI (.slice ea few.length ec) few, pts bs (.cells #[i64 (np : Int), .slice ba bodies.length bc, i64 x0, i64 y0, i64 x1, i64 y1, .slice ra rooms.length rc, .slice da doors.length dc, i64 fog, i64 gx, i64 gy, i64 push, i64 drag, i64 rest, i64 rounds, i64 fuel] 31), old w1] [] rfl (by kernel_rfl) (by kernel_rfl) (by kernel_rfl) (by kernel_rfl) (HQ.out.1) (HQ.out.2) ⟨⟨⟨⟨⟨⟨⟨⟨⟨⟨⟨⟨⟨⟨⟨⟨⟨⟨⟨⟨⟨⟨⟨⟨⟨⟨⟨⟨⟨⟨⟨⟨trivial, ?_⟩, ?_⟩, ?_⟩, ?_⟩, ?_⟩, ?_⟩, ?_⟩, ?_⟩, ?_⟩, ?_⟩, ?_⟩, ?_⟩, ?_⟩, ?_⟩, ?_⟩, ?_⟩, ?_⟩, ?_⟩, ?_⟩, ?_⟩, ?_⟩, ?_⟩, ?_⟩, ?_⟩, ?_⟩, ?_⟩, ?_⟩, ?_⟩, ?_⟩, ?_⟩, ?_⟩, ?_⟩ ?_
              · refine all32 fun z0 z1 z2 z3 z4 z5 z6 z7 z8 z9 z10 z11 z12 z13 z14 z15 z16 z17 z18 z19 z20 z21 z22 z23 z24 z25 z26 z27 z28 z29 z30 z31 W L hv hS hst a ha K hK => ?_
                simp only [dagPut, Act.put, List.setIfInBounds_toArray, List.set_cons_zero, List.set_cons_succ] at ha
                subst ha
                refine wpOp_plain rfl rfl ?_
                simp only [Act.put, List.setIfInBounds_toArray, List.set_cons_zero, List.set_cons_succ, List.getD_cons_zero] at hK
                refine wp_load_row 31 _ rfl _ rfl _ _ _ _ (Sep.get (L := _) (Sep.pick 3 hS)) Try.underlying31 rfl (by kernel_rfl) ?_
                exact hK.out _ _ rfl (sepEmp hS) hst
              · refine all32 fun z0 z1 z2 z3 z4 z5 z6 z7 z8 z9 z10 z11 z12 z13 z14 z15 z16 z17 z18 z19 z20 z21 z22 z23 z24 z25 z26 z27 z28 z29 z30 z31 W L hv hS hst a ha K hK => ?_
                simp only [dagPut, Act.put, List.setIfInBounds_toArray, List.set_cons_zero, List.set_cons_succ] at ha
                subst ha
                refine wpOp_plain rfl rfl ?_
                simp only [Act.put, List.setIfInBounds_toArray, List.set_cons_zero, List.set_cons_succ, List.getD_cons_succ, List.getD_cons_zero] at hK
                go_simp
                exact hK.out _ _ rfl (sepEmp hS) hst
              · refine all32 fun z0 z1 z2 z3 z4 z5 z6 z7 z8 z9 z10 z11 z12 z13 z14 z15 z16 z17 z18 z19 z20 z21 z22 z23 z24 z25 z26 z27 z28 z29 z30 z31 W L hv hS hst a ha K hK => ?_
                simp only [dagPut, Act.put, List.setIfInBounds_toArray, List.set_cons_zero, List.set_cons_succ] at ha
                subst ha
                refine wpOp_plain rfl rfl ?_
                simp only [Act.put, List.setIfInBounds_toArray, List.set_cons_zero, List.set_cons_succ, List.getD_cons_succ, List.getD_cons_zero] at hK
                go_simp
                exact hK.out _ _ rfl (sepEmp hS) hst
              · refine all32 fun z0 z1 z2 z3 z4 z5 z6 z7 z8 z9 z10 z11 z12 z13 z14 z15 z16 z17 z18 z19 z20 z21 z22 z23 z24 z25 z26 z27 z28 z29 z30 z31 W L hv hS hst a ha K hK => ?_
                simp only [dagPut, Act.put, List.setIfInBounds_toArray, List.set_cons_zero, List.set_cons_succ] at ha
                subst ha
                refine wpOp_plain rfl rfl ?_
                simp only [Act.put, List.setIfInBounds_toArray, List.set_cons_zero, List.set_cons_succ, List.getD_cons_succ, List.getD_cons_zero] at hK
                go_simp
                exact hK.out _ _ rfl (sepEmp hS) hst
              · refine all32 fun z0 z1 z2 z3 z4 z5 z6 z7 z8 z9 z10 z11 z12 z13 z14 z15 z16 z17 z18 z19 z20 z21 z22 z23 z24 z25 z26 z27 z28 z29 z30 z31 W L hv hS hst a ha K hK => ?_
                obtain ⟨v2, v3, _⟩ := hv
                obtain rfl : z2 = _ := v2
                obtain rfl : z3 = _ := v3
                simp only [dagPut, Act.put, List.setIfInBounds_toArray, List.set_cons_zero, List.set_cons_succ] at ha
                subst ha
                refine wpOp_plain rfl rfl ?_
                simp only [Act.put, List.setIfInBounds_toArray, List.set_cons_zero, List.set_cons_succ, List.getD_cons_succ, List.getD_cons_zero] at hK
                go_simp
                exact hK.out _ _ rfl (sepEmp hS) hst
              · refine all32 fun z0 z1 z2 z3 z4 z5 z6 z7 z8 z9 z10 z11 z12 z13 z14 z15 z16 z17 z18 z19 z20 z21 z22 z23 z24 z25 z26 z27 z28 z29 z30 z31 W L hv hS hst a ha K hK => ?_
                obtain ⟨v4, _⟩ := hv
                obtain rfl : z4 = _ := v4
                have c0 := HX.out W _ hS
                simp only [dagPut, Act.put, List.setIfInBounds_toArray, List.set_cons_zero, List.set_cons_succ] at ha
                subst ha
                refine wpOp_plain rfl rfl ?_
                simp only [Act.put, List.setIfInBounds_toArray, List.set_cons_zero, List.set_cons_succ, List.getD_cons_succ, List.getD_cons_zero] at hK
                go_simp
                exact hK.out _ _ rfl (sepEmp hS) hst
              · refine all32 fun z0 z1 z2 z3 z4 z5 z6 z7 z8 z9 z10 z11 z12 z13 z14 z15 z16 z17 z18 z19 z20 z21 z22 z23 z24 z25 z26 z27 z28 z29 z30 z31 W L hv hS hst a ha K hK => ?_
                obtain ⟨v0, v1, v5, _⟩ := hv
                obtain rfl : z0 = _ := v0
                obtain rfl : z1 = _ := v1
                obtain rfl : z5 = _ := v5
                simp only [dagPut, Act.put, List.setIfInBounds_toArray, List.set_cons_zero, List.set_cons_succ] at ha
                subst ha
                refine wpOp_plain rfl rfl ?_
                simp only [Act.put, List.setIfInBounds_toArray, List.set_cons_zero, List.set_cons_succ, List.getD_cons_succ, List.getD_cons_zero] at hK
                go_simp
                refine ((HM.out W _ hS).1).mono ?_
                rintro e w3 ⟨rfl, hS3, hst3⟩
                exact hK.out _ _ rfl (sepEmp (Sep.mount (M := []) hS hS3)) (hst.trans hst3)
              · refine all32 fun z0 z1 z2 z3 z4 z5 z6 z7 z8 z9 z10 z11 z12 z13 z14 z15 z16 z17 z18 z19 z20 z21 z22 z23 z24 z25 z26 z27 z28 z29 z30 z31 W L hv hS hst a ha K hK => ?_
                simp only [dagPut, Act.put, List.setIfInBounds_toArray, List.set_cons_zero, List.set_cons_succ] at ha
                subst ha
                refine wpOp_plain rfl rfl ?_
                simp only [Act.put, List.setIfInBounds_toArray, List.set_cons_zero, List.set_cons_succ, List.getD_cons_succ, List.getD_cons_zero] at hK
                refine wp_load_row 31 _ rfl _ rfl _ _ _ _ (Sep.get (L := _) (Sep.pick 3 hS)) Try.underlying31 rfl (by kernel_rfl) ?_
                exact hK.out _ _ rfl (sepEmp hS) hst
              · refine all32 fun z0 z1 z2 z3 z4 z5 z6 z7 z8 z9 z10 z11 z12 z13 z14 z15 z16 z17 z18 z19 z20 z21 z22 z23 z24 z25 z26 z27 z28 z29 z30 z31 W L hv hS hst a ha K hK => ?_
                simp only [dagPut, Act.put, List.setIfInBounds_toArray, List.set_cons_zero, List.set_cons_succ] at ha
                subst ha
                refine wpOp_plain rfl rfl ?_
                simp only [Act.put, List.setIfInBounds_toArray, List.set_cons_zero, List.set_cons_succ, List.getD_cons_succ, List.getD_cons_zero] at hK
                go_simp
                exact hK.out _ _ rfl (sepEmp hS) hst
              · refine all32 fun z0 z1 z2 z3 z4 z5 z6 z7 z8 z9 z10 z11 z12 z13 z14 z15 z16 z17 z18 z19 z20 z21 z22 z23 z24 z25 z26 z27 z28 z29 z30 z31 W L hv hS hst a ha K hK => ?_
                simp only [dagPut, Act.put, List.setIfInBounds_toArray, List.set_cons_zero, List.set_cons_succ] at ha
                subst ha
                refine wpOp_plain rfl rfl ?_
                simp only [Act.put, List.setIfInBounds_toArray, List.set_cons_zero, List.set_cons_succ, List.getD_cons_succ, List.getD_cons_zero] at hK
                go_simp
                exact hK.out _ _ rfl (sepEmp hS) hst
              · refine all32 fun z0 z1 z2 z3 z4 z5 z6 z7 z8 z9 z10 z11 z12 z13 z14 z15 z16 z17 z18 z19 z20 z21 z22 z23 z24 z25 z26 z27 z28 z29 z30 z31 W L hv hS hst a ha K hK => ?_
                simp only [dagPut, Act.put, List.setIfInBounds_toArray, List.set_cons_zero, List.set_cons_succ] at ha
                subst ha
                refine wpOp_plain rfl rfl ?_
                simp only [Act.put, List.setIfInBounds_toArray, List.set_cons_zero, List.set_cons_succ, List.getD_cons_succ, List.getD_cons_zero] at hK
                go_simp
                exact hK.out _ _ rfl (sepEmp hS) hst
              · refine all32 fun z0 z1 z2 z3 z4 z5 z6 z7 z8 z9 z10 z11 z12 z13 z14 z15 z16 z17 z18 z19 z20 z21 z22 z23 z24 z25 z26 z27 z28 z29 z30 z31 W L hv hS hst a ha K hK => ?_
                obtain ⟨v9, v10, _⟩ := hv
                obtain rfl : z9 = _ := v9
                obtain rfl : z10 = _ := v10
                simp only [dagPut, Act.put, List.setIfInBounds_toArray, List.set_cons_zero, List.set_cons_succ] at ha
                subst ha
                refine wpOp_plain rfl rfl ?_
                simp only [Act.put, List.setIfInBounds_toArray, List.set_cons_zero, List.set_cons_succ, List.getD_cons_succ, List.getD_cons_zero] at hK
                go_simp
                exact hK.out _ _ rfl (sepEmp hS) hst
              · refine all32 fun z0 z1 z2 z3 z4 z5 z6 z7 z8 z9 z10 z11 z12 z13 z14 z15 z16 z17 z18 z19 z20 z21 z22 z23 z24 z25 z26 z27 z28 z29 z30 z31 W L hv hS hst a ha K hK => ?_
                obtain ⟨v11, _⟩ := hv
                obtain rfl : z11 = _ := v11
                have c0 := HX.out W _ hS
                simp only [dagPut, Act.put, List.setIfInBounds_toArray, List.set_cons_zero, List.set_cons_succ] at ha
                subst ha
                refine wpOp_plain rfl rfl ?_
                simp only [Act.put, List.setIfInBounds_toArray, List.set_cons_zero, List.set_cons_succ, List.getD_cons_succ, List.getD_cons_zero] at hK
                go_simp
                exact hK.out _ _ rfl (sepEmp hS) hst
              · refine all32 fun z0 z1 z2 z3 z4 z5 z6 z7 z8 z9 z10 z11 z12 z13 z14 z15 z16 z17 z18 z19 z20 z21 z22 z23 z24 z25 z26 z27 z28 z29 z30 z31 W L hv hS hst a ha K hK => ?_
                obtain ⟨v7, v8, v12, _⟩ := hv
                obtain rfl : z7 = _ := v7
                obtain rfl : z8 = _ := v8
                obtain rfl : z12 = _ := v12
                simp only [dagPut, Act.put, List.setIfInBounds_toArray, List.set_cons_zero, List.set_cons_succ] at ha
                subst ha
                refine wpOp_plain rfl rfl ?_
                simp only [Act.put, List.setIfInBounds_toArray, List.set_cons_zero, List.set_cons_succ, List.getD_cons_succ, List.getD_cons_zero] at hK
                go_simp
                refine ((HM.out W _ hS).2.1).mono ?_
                rintro e w3 ⟨rfl, hS3, hst3⟩
                exact hK.out _ _ rfl (sepEmp (Sep.mount (M := []) hS hS3)) (hst.trans hst3)
              · refine all32 fun z0 z1 z2 z3 z4 z5 z6 z7 z8 z9 z10 z11 z12 z13 z14 z15 z16 z17 z18 z19 z20 z21 z22 z23 z24 z25 z26 z27 z28 z29 z30 z31 W L hv hS hst a ha K hK => ?_
                obtain ⟨v6, v13, _⟩ := hv
                obtain rfl : z6 = _ := v6
                obtain rfl : z13 = _ := v13
                simp only [dagPut, Act.put, List.setIfInBounds_toArray, List.set_cons_zero, List.set_cons_succ] at ha
                subst ha
                refine wpOp_plain rfl rfl ?_
                simp only [Act.put, List.setIfInBounds_toArray, List.set_cons_zero, List.set_cons_succ, List.getD_cons_succ, List.getD_cons_zero] at hK
                go_simp
                exact hK.out _ _ rfl (sepEmp hS) hst
              · refine all32 fun z0 z1 z2 z3 z4 z5 z6 z7 z8 z9 z10 z11 z12 z13 z14 z15 z16 z17 z18 z19 z20 z21 z22 z23 z24 z25 z26 z27 z28 z29 z30 z31 W L hv hS hst a ha K hK => ?_
                obtain ⟨v14, _⟩ := hv
                obtain rfl : z14 = _ := v14
                simp only [dagPut, Act.put, List.setIfInBounds_toArray, List.set_cons_zero, List.set_cons_succ] at ha
                subst ha
                refine wpOp_plain rfl rfl ?_
                simp only [Act.put, List.setIfInBounds_toArray, List.set_cons_zero, List.set_cons_succ, List.getD_cons_succ, List.getD_cons_zero] at hK
                go_simp
                exact hK.out _ _ rfl (sepEmp hS) hst
              · refine all32 fun z0 z1 z2 z3 z4 z5 z6 z7 z8 z9 z10 z11 z12 z13 z14 z15 z16 z17 z18 z19 z20 z21 z22 z23 z24 z25 z26 z27 z28 z29 z30 z31 W L hv hS hst a ha K hK => ?_
                obtain ⟨v15, _⟩ := hv
                obtain rfl : z15 = _ := v15
                simp only [dagPut, Act.put, List.setIfInBounds_toArray, List.set_cons_zero, List.set_cons_succ] at ha
                subst ha
                refine wpOp_on rfl rfl ?_
                simp only [Act.put, List.setIfInBounds_toArray, List.set_cons_zero, List.set_cons_succ, List.getD_cons_succ, List.getD_cons_zero] at hK
                refine wp_load_row 31 _ rfl _ rfl _ _ _ _ (Sep.get (L := _) (Sep.pick 3 hS)) Try.underlying31 rfl (by kernel_rfl) ?_
                exact hK.out _ _ rfl (sepEmp hS) hst
              · refine all32 fun z0 z1 z2 z3 z4 z5 z6 z7 z8 z9 z10 z11 z12 z13 z14 z15 z16 z17 z18 z19 z20 z21 z22 z23 z24 z25 z26 z27 z28 z29 z30 z31 W L hv hS hst a ha K hK => ?_
                obtain ⟨v15, _⟩ := hv
                obtain rfl : z15 = _ := v15
                simp only [dagPut, Act.put, List.setIfInBounds_toArray, List.set_cons_zero, List.set_cons_succ] at ha
                subst ha
                refine wpOp_on rfl rfl ?_
                simp only [Act.put, List.setIfInBounds_toArray, List.set_cons_zero, List.set_cons_succ, List.getD_cons_succ, List.getD_cons_zero] at hK
                go_simp
                exact hK.out _ _ rfl (sepEmp hS) hst
              · refine all32 fun z0 z1 z2 z3 z4 z5 z6 z7 z8 z9 z10 z11 z12 z13 z14 z15 z16 z17 z18 z19 z20 z21 z22 z23 z24 z25 z26 z27 z28 z29 z30 z31 W L hv hS hst a ha K hK => ?_
                obtain ⟨v15, _⟩ := hv
                obtain rfl : z15 = _ := v15
                simp only [dagPut, Act.put, List.setIfInBounds_toArray, List.set_cons_zero, List.set_cons_succ] at ha
                subst ha
                refine wpOp_on rfl rfl ?_
                simp only [Act.put, List.setIfInBounds_toArray, List.set_cons_zero, List.set_cons_succ, List.getD_cons_succ, List.getD_cons_zero] at hK
                go_simp
                exact hK.out _ _ rfl (sepEmp hS) hst
              · refine all32 fun z0 z1 z2 z3 z4 z5 z6 z7 z8 z9 z10 z11 z12 z13 z14 z15 z16 z17 z18 z19 z20 z21 z22 z23 z24 z25 z26 z27 z28 z29 z30 z31 W L hv hS hst a ha K hK => ?_
                obtain ⟨v15, _⟩ := hv
                obtain rfl : z15 = _ := v15
                simp only [dagPut, Act.put, List.setIfInBounds_toArray, List.set_cons_zero, List.set_cons_succ] at ha
                subst ha
                refine wpOp_on rfl rfl ?_
                simp only [Act.put, List.setIfInBounds_toArray, List.set_cons_zero, List.set_cons_succ, List.getD_cons_succ, List.getD_cons_zero] at hK
                go_simp
                exact hK.out _ _ rfl (sepEmp hS) hst
              · refine all32 fun z0 z1 z2 z3 z4 z5 z6 z7 z8 z9 z10 z11 z12 z13 z14 z15 z16 z17 z18 z19 z20 z21 z22 z23 z24 z25 z26 z27 z28 z29 z30 z31 W L hv hS hst a ha K hK => ?_
                obtain ⟨v18, v19, v15, _⟩ := hv
                obtain rfl : z18 = _ := v18
                obtain rfl : z19 = _ := v19
                obtain rfl : z15 = _ := v15
                simp only [dagPut, Act.put, List.setIfInBounds_toArray, List.set_cons_zero, List.set_cons_succ] at ha
                subst ha
                refine wpOp_on rfl rfl ?_
                simp only [Act.put, List.setIfInBounds_toArray, List.set_cons_zero, List.set_cons_succ, List.getD_cons_succ, List.getD_cons_zero] at hK
                go_simp
                exact hK.out _ _ rfl (sepEmp hS) hst
              · refine all32 fun z0 z1 z2 z3 z4 z5 z6 z7 z8 z9 z10 z11 z12 z13 z14 z15 z16 z17 z18 z19 z20 z21 z22 z23 z24 z25 z26 z27 z28 z29 z30 z31 W L hv hS hst a ha K hK => ?_
                obtain ⟨v20, v15, _⟩ := hv
                obtain rfl : z20 = _ := v20
                obtain rfl : z15 = _ := v15
                have c0 := HX.out W _ hS
                simp only [dagPut, Act.put, List.setIfInBounds_toArray, List.set_cons_zero, List.set_cons_succ] at ha
                subst ha
                refine wpOp_on rfl rfl ?_
                simp only [Act.put, List.setIfInBounds_toArray, List.set_cons_zero, List.set_cons_succ, List.getD_cons_succ, List.getD_cons_zero] at hK
                go_simp
                exact hK.out _ _ rfl (sepEmp hS) hst
              · refine all32 fun z0 z1 z2 z3 z4 z5 z6 z7 z8 z9 z10 z11 z12 z13 z14 z15 z16 z17 z18 z19 z20 z21 z22 z23 z24 z25 z26 z27 z28 z29 z30 z31 W L hv hS hst a ha K hK => ?_
                obtain ⟨v16, v17, v21, v15, _⟩ := hv
                obtain rfl : z16 = _ := v16
                obtain rfl : z17 = _ := v17
                obtain rfl : z21 = _ := v21
                obtain rfl : z15 = _ := v15
                simp only [dagPut, Act.put, List.setIfInBounds_toArray, List.set_cons_zero, List.set_cons_succ] at ha
                subst ha
                refine wpOp_on rfl rfl ?_
                simp only [Act.put, List.setIfInBounds_toArray, List.set_cons_zero, List.set_cons_succ, List.getD_cons_succ, List.getD_cons_zero] at hK
                go_simp
                refine ((HM.out W _ hS).2.2.1).mono ?_
                rintro e w3 ⟨rfl, hS3, hst3⟩
                exact hK.out _ _ rfl (sepEmp (Sep.mount (M := []) hS hS3)) (hst.trans hst3)
              · refine all32 fun z0 z1 z2 z3 z4 z5 z6 z7 z8 z9 z10 z11 z12 z13 z14 z15 z16 z17 z18 z19 z20 z21 z22 z23 z24 z25 z26 z27 z28 z29 z30 z31 W L hv hS hst a ha K hK => ?_
                obtain ⟨v15, _⟩ := hv
                obtain rfl : z15 = _ := v15
                simp only [dagPut, Act.put, List.setIfInBounds_toArray, List.set_cons_zero, List.set_cons_succ] at ha
                subst ha
                refine wpOp_on rfl rfl ?_
                simp only [Act.put, List.setIfInBounds_toArray, List.set_cons_zero, List.set_cons_succ, List.getD_cons_succ, List.getD_cons_zero] at hK
                refine wp_load_row 31 _ rfl _ rfl _ _ _ _ (Sep.get (L := _) (Sep.pick 3 hS)) Try.underlying31 rfl (by kernel_rfl) ?_
                exact hK.out _ _ rfl (sepEmp hS) hst
              · refine all32 fun z0 z1 z2 z3 z4 z5 z6 z7 z8 z9 z10 z11 z12 z13 z14 z15 z16 z17 z18 z19 z20 z21 z22 z23 z24 z25 z26 z27 z28 z29 z30 z31 W L hv hS hst a ha K hK => ?_
                obtain ⟨v15, _⟩ := hv
                obtain rfl : z15 = _ := v15
                simp only [dagPut, Act.put, List.setIfInBounds_toArray, List.set_cons_zero, List.set_cons_succ] at ha
                subst ha
                refine wpOp_on rfl rfl ?_
                simp only [Act.put, List.setIfInBounds_toArray, List.set_cons_zero, List.set_cons_succ, List.getD_cons_succ, List.getD_cons_zero] at hK
                go_simp
                exact hK.out _ _ rfl (sepEmp hS) hst
              · refine all32 fun z0 z1 z2 z3 z4 z5 z6 z7 z8 z9 z10 z11 z12 z13 z14 z15 z16 z17 z18 z19 z20 z21 z22 z23 z24 z25 z26 z27 z28 z29 z30 z31 W L hv hS hst a ha K hK => ?_
                obtain ⟨v15, _⟩ := hv
                obtain rfl : z15 = _ := v15
                simp only [dagPut, Act.put, List.setIfInBounds_toArray, List.set_cons_zero, List.set_cons_succ] at ha
                subst ha
                refine wpOp_on rfl rfl ?_
                simp only [Act.put, List.setIfInBounds_toArray, List.set_cons_zero, List.set_cons_succ, List.getD_cons_succ, List.getD_cons_zero] at hK
                go_simp
                exact hK.out _ _ rfl (sepEmp hS) hst
              · refine all32 fun z0 z1 z2 z3 z4 z5 z6 z7 z8 z9 z10 z11 z12 z13 z14 z15 z16 z17 z18 z19 z20 z21 z22 z23 z24 z25 z26 z27 z28 z29 z30 z31 W L hv hS hst a ha K hK => ?_
                obtain ⟨v15, _⟩ := hv
                obtain rfl : z15 = _ := v15
                simp only [dagPut, Act.put, List.setIfInBounds_toArray, List.set_cons_zero, List.set_cons_succ] at ha
                subst ha
                refine wpOp_on rfl rfl ?_
                simp only [Act.put, List.setIfInBounds_toArray, List.set_cons_zero, List.set_cons_succ, List.getD_cons_succ, List.getD_cons_zero] at hK
                go_simp
                exact hK.out _ _ rfl (sepEmp hS) hst
              · refine all32 fun z0 z1 z2 z3 z4 z5 z6 z7 z8 z9 z10 z11 z12 z13 z14 z15 z16 z17 z18 z19 z20 z21 z22 z23 z24 z25 z26 z27 z28 z29 z30 z31 W L hv hS hst a ha K hK => ?_
                obtain ⟨v25, v26, v15, _⟩ := hv
                obtain rfl : z25 = _ := v25
                obtain rfl : z26 = _ := v26
                obtain rfl : z15 = _ := v15
                simp only [dagPut, Act.put, List.setIfInBounds_toArray, List.set_cons_zero, List.set_cons_succ] at ha
                subst ha
                refine wpOp_on rfl rfl ?_
                simp only [Act.put, List.setIfInBounds_toArray, List.set_cons_zero, List.set_cons_succ, List.getD_cons_succ, List.getD_cons_zero] at hK
                go_simp
                exact hK.out _ _ rfl (sepEmp hS) hst
              · refine all32 fun z0 z1 z2 z3 z4 z5 z6 z7 z8 z9 z10 z11 z12 z13 z14 z15 z16 z17 z18 z19 z20 z21 z22 z23 z24 z25 z26 z27 z28 z29 z30 z31 W L hv hS hst a ha K hK => ?_
                obtain ⟨v27, v15, _⟩ := hv
                obtain rfl : z27 = _ := v27
                obtain rfl : z15 = _ := v15
                have c0 := HX.out W _ hS
                simp only [dagPut, Act.put, List.setIfInBounds_toArray, List.set_cons_zero, List.set_cons_succ] at ha
                subst ha
                refine wpOp_on rfl rfl ?_
                simp only [Act.put, List.setIfInBounds_toArray, List.set_cons_zero, List.set_cons_succ, List.getD_cons_succ, List.getD_cons_zero] at hK
                go_simp
                exact hK.out _ _ rfl (sepEmp hS) hst
              · refine all32 fun z0 z1 z2 z3 z4 z5 z6 z7 z8 z9 z10 z11 z12 z13 z14 z15 z16 z17 z18 z19 z20 z21 z22 z23 z24 z25 z26 z27 z28 z29 z30 z31 W L hv hS hst a ha K hK => ?_
                obtain ⟨v23, v24, v28, v15, _⟩ := hv
                obtain rfl : z23 = _ := v23
                obtain rfl : z24 = _ := v24
                obtain rfl : z28 = _ := v28
                obtain rfl : z15 = _ := v15
                simp only [dagPut, Act.put, List.setIfInBounds_toArray, List.set_cons_zero, List.set_cons_succ] at ha
                subst ha
                refine wpOp_on rfl rfl ?_
                simp only [Act.put, List.setIfInBounds_toArray, List.set_cons_zero, List.set_cons_succ, List.getD_cons_succ, List.getD_cons_zero] at hK
                go_simp
                refine ((HM.out W _ hS).2.2.2).mono ?_
                rintro e w3 ⟨rfl, hS3, hst3⟩
                exact hK.out _ _ rfl (sepEmp (Sep.mount (M := []) hS hS3)) (hst.trans hst3)
              · refine all32 fun z0 z1 z2 z3 z4 z5 z6 z7 z8 z9 z10 z11 z12 z13 z14 z15 z16 z17 z18 z19 z20 z21 z22 z23 z24 z25 z26 z27 z28 z29 z30 z31 W L hv hS hst a ha K hK => ?_
                obtain ⟨v22, v29, v15, _⟩ := hv
                obtain rfl : z22 = _ := v22
                obtain rfl : z29 = _ := v29
                obtain rfl : z15 = _ := v15
                simp only [dagPut, Act.put, List.setIfInBounds_toArray, List.set_cons_zero, List.set_cons_succ] at ha
                subst ha
                refine wpOp_on rfl rfl ?_
                simp only [Act.put, List.setIfInBounds_toArray, List.set_cons_zero, List.set_cons_succ, List.getD_cons_succ, List.getD_cons_zero] at hK
                go_simp
                exact hK.out _ _ rfl (sepEmp hS) hst
              · refine all32 fun z0 z1 z2 z3 z4 z5 z6 z7 z8 z9 z10 z11 z12 z13 z14 z15 z16 z17 z18 z19 z20 z21 z22 z23 z24 z25 z26 z27 z28 z29 z30 z31 W L hv hS hst a ha K hK => ?_
                obtain ⟨v15, v30, _⟩ := hv
                obtain rfl : z15 = _ := v15
                obtain rfl : z30 = _ := v30
                simp only [dagPut, Act.put, List.setIfInBounds_toArray, List.set_cons_zero, List.set_cons_succ] at ha
                subst ha
                refine wpOp_plain rfl rfl ?_
                simp only [Act.put, List.setIfInBounds_toArray, List.set_cons_zero, List.set_cons_succ, List.getD_cons_succ, List.getD_cons_zero] at hK
                go_simp
                exact hK.out _ _ rfl (sepEmp hS) hst
              · refine all32 fun z0 z1 z2 z3 z4 z5 z6 z7 z8 z9 z10 z11 z12 z13 z14 z15 z16 z17 z18 z19 z20 z21 z22 z23 z24 z25 z26 z27 z28 z29 z30 z31 W hv hS hst a ha => ?_
                obtain ⟨⟨⟨⟨⟨⟨⟨⟨⟨⟨⟨⟨⟨⟨⟨⟨⟨⟨⟨⟨⟨⟨⟨⟨⟨⟨⟨⟨⟨⟨⟨⟨_, v0⟩, v1⟩, v2⟩, v3⟩, v4⟩, v5⟩, v6⟩, v7⟩, v8⟩, v9⟩, v10⟩, v11⟩, v12⟩, v13⟩, v14⟩, v15⟩, v16⟩, v17⟩, v18⟩, v19⟩, v20⟩, v21⟩, v22⟩, v23⟩, v24⟩, v25⟩, v26⟩, v27⟩, v28⟩, v29⟩, v30⟩, v31⟩ := hv
                obtain rfl : z0 = _ := v0
                obtain rfl : z1 = _ := v1
                obtain rfl : z2 = _ := v2
                obtain rfl : z3 = _ := v3
                obtain rfl : z4 = _ := v4
                obtain rfl : z5 = _ := v5
                obtain rfl : z6 = _ := v6
                obtain rfl : z7 = _ := v7
                obtain rfl : z8 = _ := v8
                obtain rfl : z9 = _ := v9
                obtain rfl : z10 = _ := v10
                obtain rfl : z11 = _ := v11
                obtain rfl : z12 = _ := v12
                obtain rfl : z13 = _ := v13
                obtain rfl : z14 = _ := v14
                obtain rfl : z15 = _ := v15
                obtain rfl : z16 = _ := v16
                obtain rfl : z17 = _ := v17
                obtain rfl : z18 = _ := v18
                obtain rfl : z19 = _ := v19
                obtain rfl : z20 = _ := v20
                obtain rfl : z21 = _ := v21
                obtain rfl : z22 = _ := v22
                obtain rfl : z23 = _ := v23
                obtain rfl : z24 = _ := v24
                obtain rfl : z25 = _ := v25
                obtain rfl : z26 = _ := v26
                obtain rfl : z27 = _ := v27
                obtain rfl : z28 = _ := v28
                obtain rfl : z29 = _ := v29
                obtain rfl : z30 = _ := v30
                obtain rfl : z31 = _ := v31
                simp only [dagPut, Act.put, List.setIfInBounds_toArray, List.set_cons_zero, List.set_cons_succ] at ha; subst ha
                go_wp2_with fail
                go_meet
                exact ⟨rfl, hS, hst⟩
            case rest =>
              obtain ⟨rfl, hS, hst⟩ := hcut
              have H7 := Lib.hid (And.intro hS hst)
              clear hS hst
              go_wp2_with fail
              go_roundw
              case rel => exact ⟨k + 1, by omega, by go_num, H7.out.1, H7.out.2⟩
              case measure => simp [intOf]; omega
          · obtain rfl : k = 2 := by omega
            go_wp2_with fail
            refine (lives_spec HQ.out.1).mono ?_
            rintro e w9 ⟨rfl, hS9, hst9⟩
            have H9 := Lib.hid (And.intro hS9 (HQ.out.2.trans hst9))
            clear hS9 hst9
            go_wp2_with fail
            go_ret
            exact ⟨rfl, rebase HB.out.1 (Sep.below (H9.out.1.pick 4).one' H9.out.2)⟩

end Go.Proofs.Ytkalpgngoijdmaa
