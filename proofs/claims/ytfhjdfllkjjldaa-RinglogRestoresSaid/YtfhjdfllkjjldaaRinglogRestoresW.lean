/- The walk of RinglogRestores. -/
import Derived.Test.YtfhjdfllkjjldaaRestP
import Derived.Deep.RegionHeld3
namespace Go.Proofs.Ytfhjdfllkjjldaa
open Go.RowKit Go.Sl

theorem v_app (vs : List Value) (x : Value) (i : Nat) : (vs ++ [x]).getD i undef = if i < vs.length then vs.getD i undef else if i = vs.length then x else undef := by
  rw [List.getD_eq_getElem?_getD, List.getElem?_append]
  split
  · rw [List.getD_eq_getElem?_getD]
  · split
    · subst_vars; simp
    · rw [List.getElem?_eq_none (by simp; omega)]; rfl

set_option maxRecDepth 100000 in
set_option maxHeartbeats 4000000 in
theorem ringlogRestores_walk {w : World} {keep back : Int} {v : Value} {l : List Int} (hk : inI64 keep) (h : readsI w v l) (hl : l.length ≤ 9223372036854775807) (hw : ∀ x ∈ l, inI64 x) (hb : inI64 back) :
    Calls Try.prog 6 #[i64 keep, v, i64 back] w fun e w' => e = .returned (.bool true) ∧ Below w.heap.size w w' := by
  have hK := fun w => keeps_spec keep w hk
  have k0 : 0 ≤ around keep 13 := around_lo (by omega)
  have k1 : around keep 13 < 13 := around_hi (by omega)
  obtain ⟨k, hk⟩ : ∃ k : Nat, 1 + around keep 13 = k := Int.eq_ofNat_of_zero_le (by omega)
  rw [hk] at hK
  have kb : 1 ≤ k ∧ k ≤ 13 := by omega
  have HK := Lib.hid hK
  have HA := Lib.hid (And.intro h (And.intro hl hw))
  have HB := Lib.hid hb
  obtain ⟨ia, ic, rfl⟩ := readsI_len h
  clear hK hk k0 k1 h hl hw hb
  go_enter Try.func6, Try.ntmps6
  go_wp2_with fail
  refine (HK.out _).mono ?_
  rintro e w2 ⟨rfl, rfl⟩
  go_wp2_with fail
  refine (made_spec (Sep.start w) k).mono ?_
  rintro e w1 ⟨p0, m0, rfl, hS1, hst1⟩
  have H1 := Lib.hid (And.intro hS1 hst1)
  clear hS1 hst1
  go_wp2_with fail
  refine (Acts_spec (HA.out.1.of_heap H1.out.1.drop.drop.oldGet) HA.out.2.1 HA.out.2.2).mono ?_
  rintro e w2 ⟨va, ac, rfl, hac, hS2, hst2⟩
  obtain ⟨aa, acap, rfl, _, _⟩ := hS2.rowShape
  have hS3 := H1.out.1.mount (hS2.pick 1)
  have hR2 : RSt w2 [pool [], row 36 1 (.slice none 0 0) 0 [], rowA (.slice aa ac.length acap) ac, old w] _ _ k 0 _ [] 0 := RSt.made 0 (by omega) ((((pool_start (hS3.addNil 36 1)).pick 3).pick 4).pick 1)
  have H2 := Lib.hid (And.intro hR2 (H1.out.2.trans hst2))
  have hacl := hac.1
  clear hS3 hS2 hst2 H1 HA HK hac hR2
  go_wp2_with fail
  go_loopw [10, 12] (fun sv iv wr => ∃ (j : Nat) (vs : List Value) (ps : List (Value × List Int)) (st : List (List Int)) (cs : List Int), j ≤ ac.length ∧ iv = .int .i64 j ∧ st.length ≤ j ∧ vs.length = st.length ∧ (∀ i, i < st.length → (vs.getD i undef, st.getD i []) ∈ ps ∧ (st.getD i []).length ≤ 1000000000000) ∧
      RSt wr [pool ps, row 36 1 sv st.length vs, rowA (.slice aa ac.length acap) ac, old w] (.pointer (some ⟨p0, 0, none⟩)) (.pointer (some ⟨m0, 0, none⟩)) k ((st.length - k : Nat) : Int) cs (lastK k st) j ∧ Stable w wr) (fun _ iv _ => ac.length - (intOf iv).toNat)
  case atStart => exact ⟨0, [], [], [], _, Nat.zero_le _, rfl, by simp, rfl, by simp, by simpa [lastK] using H2.out.1, H2.out.2⟩
  case round =>
    clear H2
    obtain ⟨j, vs, ps, st, cs, hj, rfl, hsl, hvl, hvs, hR3, hst3⟩ := hrel
    obtain ⟨na, nc, rfl, _, _⟩ := (hR3.drop.pick 1).rowShape
    by_cases hlt : j < ac.length
    · obtain ⟨g, rfl, c0, c1, c2⟩ := rowA_cells (hR3.drop.pick 2) hlt
      have H3 := Lib.hid (And.intro hR3 hst3)
      have H4 := Lib.hid (And.intro hR3.drew hst3.drew)
      have HV := Lib.hid (And.intro hvl hvs)
      clear hR3 hst3 hvl hvs
      generalize (ac.getD j (0, 0, 0)).1 = oD at *
      generalize (ac.getD j (0, 0, 0)).2.1 = oA at *
      generalize (ac.getD j (0, 0, 0)).2.2 = oB at *
      by_cases hD : oD < 2
      · go_wp2_with fail
        go_still_tail 11, (by kernel_rfl)
        change wpList _ _ _ _ _ wr.drew
        clear H3 c0 c1 c2
        generalize wr.drew = w6 at H4 ⊢
        go_wp2_with fail
        refine (SetRS H4.out.1 (by omega) oA oB).mono ?_
        rintro e w7 ⟨rfl, hR7, hst7⟩
        have H7 := Lib.hid (And.intro hR7 (H4.out.2.trans hst7))
        clear hR7 hst7
        go_wp2_with fail
        exact ⟨⟨j + 1, vs, ps, st, _, by omega, by go_num, by omega, HV.out.1, HV.out.2, H7.out.1, H7.out.2⟩, by simp [intOf]; omega⟩
      · go_wp2_with fail
        refine (CellsRS H3.out.1).mono ?_
        rintro e w7 ⟨x, rfl, hR7, hst7⟩
        obtain ⟨xa, xc, rfl, _, _⟩ := hR7.drop.rowShape
        obtain ⟨base7, log7, es7, hS7, hrest7⟩ := hR7
        have hS8 := (hS7.allocBeside (.cells #[.slice xa cs.length xc] 36)).pick 4
        have H8 := Lib.hid (And.intro hS8 (And.intro hrest7 ((H3.out.2.trans hst7).alloc (.cells #[.slice xa cs.length xc] 36))))
        obtain ⟨iI, hiI, hzI0, hzI1, hzI2⟩ := info_parts infoN
        clear hS7 hS8 hrest7 hst7 H3 H4
        go_wp2_with (at_builtin; refine wpList_append_sep rfl _ _ 51 51 rfl 36 iI _ 1 24 Try.underlying51 hiI hzI0 hzI1 hzI2 rfl _ _ _ rfl H8.out.1 1 [.slice xa cs.length xc] (Src.ofSlice _ Try.underlying51 ⟨_, 0, none⟩ 1 1 _ rfl (fun j u hu => by rw [Addr.add_lit]; exact src_new _ _ _ _ (by simpa using hu) _ _ (by simp) (by simp)) (by intro u hu; simp at hu; subst hu; rfl)) (by unfold maxLen; omega) (by omega) ?_; intro v9 w9 hS9 hst9 hn9; clear hn9; obtain ⟨va9, vc9, rfl, _, _⟩ := hS9.rowShape; have hS10 := ((pool_add ((hS9.pick 4).pick 4)).pick 3).pick 3; have H11 := Lib.hid (And.intro hS10 (And.intro H8.out.2.1 (H8.out.2.2.trans hst9))); clear hS9 hst9 hS10 H8)
        have hR11 : RSt w9 _ _ _ k ((st.length - k : Nat) : Int) cs (lastK k st) _ := ⟨base7, log7, es7, H11.out.1, H11.out.2.1⟩
        have hcl := H11.out.2.1.2.1.cells
        refine (PushRe hR11 (by omega) kb (by omega)).mono ?_
        rintro e w12 ⟨rfl, hR12, hst12⟩
        have H12 := Lib.hid (And.intro hR12 (And.intro hcl (H11.out.2.2.trans hst12)))
        clear hR11 hR12 hcl hst12 H11
        go_wp2_with fail
        refine ⟨⟨j + 1, vs ++ [.slice xa cs.length xc], _, st ++ [cs], cs, by omega, by go_num, by simp; omega, by simp [HV.out.1], ?_, by have := H12.out.1.mono (B' := j + 1) (by omega); simpa using this, H12.out.2.2⟩, by simp [intOf]; omega⟩
        intro i hi
        rw [List.length_append, List.length_cons, List.length_nil] at hi
        by_cases hh : i < st.length
        · rw [sn_app, v_app, HV.out.1, if_pos hh, if_pos hh]
          exact ⟨List.mem_cons_of_mem _ (HV.out.2 i hh).1, (HV.out.2 i hh).2⟩
        · obtain rfl : i = st.length := by omega
          rw [sn_app, v_app, HV.out.1, if_neg (by omega), if_pos rfl, if_neg (by omega), if_pos rfl]
          exact ⟨List.mem_cons_self .., H12.out.2.1⟩
    · obtain rfl : j = ac.length := by omega
      by_cases h0 : st.length = 0
      · obtain rfl : st = [] := List.eq_nil_of_length_eq_zero h0
        have hR4 := hR3
        rw [show lastK k [] = [] by simp [lastK]] at hR4
        have H3 := Lib.hid (And.intro hR4 hst3)
        clear hR3 hst3 hR4 hvs hvl h0
        go_wp2_with fail
        refine (NoneRS H3.out.1 0).mono ?_
        rintro e w4 ⟨rfl, hR4, hst4⟩
        have H4 := Lib.hid (And.intro hR4.drop (H3.out.2.trans hst4))
        clear hR4 hst4
        go_wp2_with fail
        refine (lives_spec H4.out.1).mono ?_
        rintro e w7 ⟨rfl, hS7, hst7⟩
        have H7 := Lib.hid (And.intro hS7 (H4.out.2.trans hst7))
        clear hS7 hst7
        go_wp2_with fail
        go_ret
        exact ⟨rfl, Sep.below H7.out.1.drop.drop.drop H7.out.2⟩
      · obtain ⟨gn, hgn, hq⟩ : ∃ gn, na = some ⟨gn, 0, none⟩ ∧ ∀ (W : World) (M : List Asn), Sep W (row 36 1 (.slice (some ⟨gn, 0, none⟩) st.length nc) st.length vs :: M) → ∀ i, i < st.length → W.cell? ⟨gn, i, none⟩ = some (vs.getD i undef) := by
          obtain ⟨gn, cap, hv, _⟩ := (hR3.drop.pick 1).rowAt (by omega)
          obtain ⟨rfl, rfl⟩ : na = some ⟨gn, 0, none⟩ ∧ nc = cap := by simpa using hv
          refine ⟨gn, rfl, fun W M hW i hi => ?_⟩
          rw [hW.rowCell (by omega)]
          simp [List.getD, show i < vs.length by omega]
        subst hgn
        have hA := fun w => Around_spec back (min (k : Int) st.length) w (by omega) (by omega) HB.out
        have a0 : 0 ≤ around back (min (k : Int) st.length) := around_lo (by omega)
        have a1 : around back (min (k : Int) st.length) < min (k : Int) st.length := around_hi (by omega)
        generalize around back (min (k : Int) st.length) = a at *
        obtain ⟨t, ht⟩ : ∃ t : Nat, (st.length : Int) - 1 - a = t := Int.eq_ofNat_of_zero_le (by omega)
        have h1 : st.length - k ≤ t := by omega
        have h2 : t < st.length := by omega
        have hx := hq
        obtain ⟨hpm, hpl⟩ := hvs t h2
        have HQ := Lib.hid (fun W M hW => hq W M hW t h2)
        have hrw := fun (W : World) (M : List Asn) (B : Nat) (h : RSt W M (.pointer (some ⟨p0, 0, none⟩)) (.pointer (some ⟨m0, 0, none⟩)) k ((st.length - k : Nat) : Int) cs (lastK k st) B) (hB : B ≤ 1000000) => RewRe h hB kb t h1 h2
        have hrw2 := fun (W : World) (M : List Asn) (B : Nat) (h : RSt W M (.pointer (some ⟨p0, 0, none⟩)) (.pointer (some ⟨m0, 0, none⟩)) k ((st.length - k : Nat) : Int) (st.getD t []) ((lastK k st).take (t - (st.length - k) + 1)) B) (hB : B ≤ 1000000) => RewRe2 h hB kb h1 h2
        have hrg := fun (W : World) (M : List Asn) (B : Nat) (h : RSt W M (.pointer (some ⟨p0, 0, none⟩)) (.pointer (some ⟨m0, 0, none⟩)) k ((st.length - k : Nat) : Int) (st.getD t []) ((lastK k st).take (t - (st.length - k) + 1)) B) => RangeRe h kb h1 h2
        have hnw := fun (W : World) (M : List Asn) (B : Nat) (h : RSt W M (.pointer (some ⟨p0, 0, none⟩)) (.pointer (some ⟨m0, 0, none⟩)) k ((st.length - k : Nat) : Int) (st.getD t []) ((lastK k st).take (t - (st.length - k) + 1)) B) => NewestRe h kb h1 h2
        have hpu := fun (W : World) (M : List Asn) (B : Nat) (h : RSt W M (.pointer (some ⟨p0, 0, none⟩)) (.pointer (some ⟨m0, 0, none⟩)) k ((st.length - k : Nat) : Int) (st.getD t []) ((lastK k st).take (t - (st.length - k) + 1)) B) (hB : B ≤ 1000000) => PushRe2 h hB kb h1 h2 (by omega)
        generalize st.getD t [] = ct at *
        generalize (lastK k st).take (t - (st.length - k) + 1) = tk at *
        have HC := Lib.hid (And.intro hrw (And.intro hrw2 (And.intro hrg (And.intro hnw hpu))))
        clear hq hx hrw hrw2 hrg hnw hpu
        generalize vs.getD t undef = x at *
        have hA1 : (k : Int) ≤ st.length → ∀ w, Calls Try.prog 10 #[i64 back, i64 k] w fun e w' => e = .returned (i64 a) ∧ w = w' := fun hh => by rwa [Int.min_eq_left hh] at hA
        have hA2 : (st.length : Int) ≤ k → ∀ w, Calls Try.prog 10 #[i64 back, i64 st.length] w fun e w' => e = .returned (i64 a) ∧ w = w' := fun hh => by rwa [Int.min_eq_right hh] at hA
        have HAR := Lib.hid (And.intro hA1 hA2)
        have HT := Lib.hid ht
        have H3 := Lib.hid (And.intro hR3 hst3)
        have HPM := Lib.hid (And.intro hpm hpl)
        clear hA hA1 hA2 ht hR3 hst3 hpm hpl hvs hvl
        go_wp2_with fail
        refine (HAR.out.2 (by omega) _).mono ?_
        rotate_left
        refine (HAR.out.1 (by omega) _).mono ?_
        all_goals
          rintro e w4 ⟨rfl, rfl⟩
          clear HAR
          go_wp2_with fail
          rw [HT.out]
          have hR0 := H3.out.1.drew
          have hst0 := H3.out.2.drew
          have q0 := HQ.out _ _ (H3.out.1.drew.drop.pick 1)
          go_region_held3 (fun w' => w'.cell? ⟨gn, t, none⟩ = some x) (first | exact q0) (first
            | (go_at_call 15; refine (HC.out.2.2.2.1 _ _ _ hR3).mono ?_; rintro e w14 ⟨rfl, n4, hw4⟩; have hR4 := hR3.drewN n4; rw [← hw4] at hR4; have hst4 := hst3.drewN n4; rw [← hw4] at hst4; clear hw4; have q0 := HQ.out _ _ (hR4.drop.pick 1))
            | (go_at_call 25; refine (SameInts_spec hR2.drop.reads (show readsI w12 x ct from pool_get HPM.out.1 hR2.drop.drop) HPM.out.2 HPM.out.2).mono ?_; rintro e w13 ⟨rfl, n3, hw3⟩; rw [sameE_self]; have hR3 := (hR2.drewN n3).drop1; rw [← hw3] at hR3; have hst3 := hst2.drewN n3; rw [← hw3] at hst3; clear hw3; have q0 := HQ.out _ _ (hR3.drop.pick 1))
            | (go_at_call 20; refine (CellsRS hR1).mono ?_; rintro e w12 ⟨v12, rfl, hR2, hst2'⟩; have hst2 := hst1.trans hst2'; obtain ⟨a12, m12, rfl, _⟩ := hR2.drop.rowShape; have q0 := HQ.out _ _ (hR2.drop.drop.pick 1))
            | (go_at_call 16; refine (HC.out.1 _ _ _ hR0 (by omega)).mono ?_; rintro e w11 ⟨rfl, hR1, hst1'⟩; have hst1 := hst0.trans hst1'; have q0 := HQ.out _ _ (hR1.drop.pick 1)))
          have H4 := Lib.hid (And.intro hR4 hst4)
          clear hR0 hst0 hR1 hst1' hst1 hR2 hst2' hst2 hR3 hst3 hR4 hst4 q0
          go_wp2_with fail
          have hR4 := H4.out.1.drew
          have hst4 := H4.out.2.drew
          have hwr : IntKind.i64.wrap ((t : Int) + 1) = (t : Int) + 1 := IntWalk.i64_in _ (by omega)
          have q0 := HQ.out _ _ (hR4.drop.pick 1)
          go_region_held3 (fun w' => w'.cell? ⟨gn, t, none⟩ = some x) (first | exact q0) (first
            | (go_at_call 19; refine (lives_spec hS9).mono ?_; rintro e w20 ⟨rfl, hS10, hst10'⟩; have hst10 := hst9.trans hst10'; have q0 := HQ.out _ _ (hS10.pick 1))
            | (go_at_call 12; refine (HC.out.2.2.2.2 _ _ _ hR8 (by omega)).mono ?_; rintro e w19 ⟨rfl, hS9, hst9'⟩; have hst9 := hst8.trans hst9'; have q0 := HQ.out _ _ (hS9.pick 1))
            | (go_at_call 16; refine (HC.out.2.2.1 _ _ _ hR7).mono ?_; rintro e w18 ⟨rfl, hR8, hst8'⟩; have hst8 := hst7.trans hst8'; have q0 := HQ.out _ _ (hR8.drop.pick 1))
            | (go_at_call 25; refine (SameInts_spec hR6.drop.reads (show readsI w16 x ct from pool_get HPM.out.1 hR6.drop.drop) HPM.out.2 HPM.out.2).mono ?_; rintro e w17 ⟨rfl, n7, hw7⟩; rw [sameE_self]; have hR7 := (hR6.drewN n7).drop1; rw [← hw7] at hR7; have hst7 := hst6.drewN n7; rw [← hw7] at hst7; clear hw7; have q0 := HQ.out _ _ (hR7.drop.pick 1))
            | (go_at_call 20; refine (CellsRS hR5).mono ?_; rintro e w16 ⟨v16, rfl, hR6, hst6'⟩; have hst6 := hst5.trans hst6'; obtain ⟨a16, m16, rfl, _⟩ := hR6.drop.rowShape; have q0 := HQ.out _ _ (hR6.drop.drop.pick 1))
            | (go_at_call 16; refine (HC.out.2.1 _ _ _ hR4 (by omega)).mono ?_; rintro e w15 ⟨rfl, hR5, hst5'⟩; have hst5 := hst4.trans hst5'; have q0 := HQ.out _ _ (hR5.drop.pick 1)))
          have H10 := Lib.hid (And.intro hS10 hst10)
          go_wp2_with fail
          go_ret
          exact ⟨rfl, Sep.below H10.out.1.drop.drop.drop H10.out.2⟩

end Go.Proofs.Ytfhjdfllkjjldaa
