/- The walk of RinglogAgain. -/
import Derived.Test.YtfhjdfllkjjldaaAgainP
namespace Go.Proofs.Ytfhjdfllkjjldaa
open Go.RowKit Go.Sl

set_option maxRecDepth 100000 in
set_option maxHeartbeats 4000000 in
theorem ringlogAgain_walk {w : World} {v v' : Value} {l l' : List Int} (h : readsI w v l) (hl : l.length ≤ 9223372036854775807) (hw : ∀ x ∈ l, inI64 x) (h' : readsI w v' l') (hl' : l'.length ≤ 9223372036854775807) (hw' : ∀ x ∈ l', inI64 x) :
    Calls Try.prog 8 #[v, v'] w fun e w' => e = .returned (.bool true) ∧ Below w.heap.size w w' := by
  have HA := Lib.hid (And.intro h (And.intro hl hw))
  have HA' := Lib.hid (And.intro h' (And.intro hl' hw'))
  obtain ⟨ia, ic, rfl⟩ := readsI_len h
  obtain ⟨ia', ic', rfl⟩ := readsI_len h'
  clear h hl hw h' hl' hw'
  go_enter Try.func8, Try.ntmps8
  go_wp2_with fail
  refine (made_spec (Sep.start w) 13).mono ?_
  rintro e w1 ⟨p0, m0, rfl, hS1, hst1⟩
  have H1 := Lib.hid (And.intro hS1 hst1)
  clear hS1 hst1
  go_wp2_with fail
  refine (Acts_spec (HA.out.1.of_heap H1.out.1.drop.drop.oldGet) HA.out.2.1 HA.out.2.2).mono ?_
  rintro e w2 ⟨va, ac, rfl, hac, hS2, hst2⟩
  obtain ⟨aa, acap, rfl, _, _⟩ := hS2.rowShape
  have H2 := Lib.hid (And.intro (H1.out.1.mount (hS2.pick 1)) (H1.out.2.trans hst2))
  have hacl := hac.1
  have HAC := Lib.hid hac.2
  clear hS2 hst2 H1 HA hac
  go_wp2_with fail
  refine (Acts_spec (HA'.out.1.of_heap H2.out.1.drop.drop.drop.oldGet) HA'.out.2.1 HA'.out.2.2).mono ?_
  rintro e w3 ⟨vb, bc, rfl, hbc, hS3, hst3⟩
  obtain ⟨ba, bcap, rfl, _, _⟩ := hS3.rowShape
  have hS4 := H2.out.1.mount (hS3.pick 1)
  have hbcl := hbc.1
  have HBC := Lib.hid hbc.2
  have hR : RSt w3 [rowA (.slice ba bc.length bcap) bc, rowA (.slice aa ac.length acap) ac, old w] _ _ 13 0 _ [] 0 := RSt.made 0 (by omega) (((hS4.pick 2).pick 3).pick 1)
  have H3 := Lib.hid (And.intro hR (H2.out.2.trans hst3))
  clear hS3 hst3 hS4 H2 HA' hR hbc
  go_wp2_with fail
  refine (Push13 H3.out.1 (by omega) (by simp) 0 (by simp)).mono ?_
  rintro e w4 ⟨rfl, hR4, hst4⟩
  have H4 := Lib.hid (And.intro hR4 (H3.out.2.trans hst4))
  clear hR4 hst4 H3
  go_wp2_with fail
  go_loopw [9] (fun i wr => ∃ (j : Nat) (cs : List Int), j ≤ ac.length ∧ i = .int .i64 j ∧ RSt wr [rowA (.slice ba bc.length bcap) bc, rowA (.slice aa ac.length acap) ac, old w] (.pointer (some ⟨p0, 0, none⟩)) (.pointer (some ⟨m0, 0, none⟩)) 13 0 cs [[3, 1, 4, 1, 5, 9]] j ∧ Stable w wr) (fun i _ => ac.length - (intOf i).toNat)
  case atStart => exact ⟨0, _, Nat.zero_le _, rfl, H4.out.1, H4.out.2⟩
  case round =>
    clear H4
    obtain ⟨j, cs, hj, rfl, hR5, hst5⟩ := hrel
    by_cases hlt : j < ac.length
    · obtain ⟨g, rfl, c0, c1, c2⟩ := rowA_cells (hR5.drop.pick 1) hlt
      have H5 := Lib.hid (And.intro hR5 hst5)
      have H6 := Lib.hid (And.intro hR5.drew hst5.drew)
      clear hR5 hst5
      generalize (ac.getD j (0, 0, 0)).1 = oD at *
      generalize (ac.getD j (0, 0, 0)).2.1 = oA at *
      generalize (ac.getD j (0, 0, 0)).2.2 = oB at *
      by_cases hD : oD < 2
      · go_wp2_with fail
        go_still_tail 11, (by kernel_rfl)
        change wpList _ _ _ _ _ wr.drew
        clear H5 c0 c1 c2
        generalize wr.drew = w6 at H6 ⊢
        go_wp2_with fail
        refine (SetRS H6.out.1 (by omega) oA oB).mono ?_
        rintro e w7 ⟨rfl, hR7, hst7⟩
        have H7 := Lib.hid (And.intro hR7 (H6.out.2.trans hst7))
        clear hR7 hst7
        go_wp2_with fail
        exact ⟨⟨j + 1, _, by omega, by go_num, H7.out.1, H7.out.2⟩, by simp [intOf]; omega⟩
      · go_wp2_with fail
        exact ⟨⟨j + 1, _, by omega, by go_num, H5.out.1.mono (by omega), H5.out.2⟩, by simp [intOf]; omega⟩
    · obtain rfl : j = ac.length := by omega
      have H5 := Lib.hid (And.intro hR5 hst5)
      clear hR5 hst5
      go_wp2_with fail
      refine (Push13 H5.out.1 (by omega) (by simp) 1 (by simp)).mono ?_
      rintro e w6 ⟨rfl, hR6, hst6⟩
      have hR7 : RSt w6 [pool [], row 36 1 (.slice none 0 0) 0 [], rowA (.slice ba bc.length bcap) bc, old w] _ _ 13 0 cs [[3, 1, 4, 1, 5, 9], cs] 40 :=
        (RSt.beside hR6.swap.drop1 (fun A C hS => ((((pool_start (hS.addNil 36 1)).pick 3).pick 3) : Sep w6 (A :: C :: _)))).mono (by omega)
      have H7 := Lib.hid (And.intro hR7 (H5.out.2.trans hst6))
      clear hR6 hst6 hR7 H5
      have hcA : ∃ sA, sA = pass (cs, [[3, 1, 4, 1, 5, 9], cs]) bc bc.length := ⟨_, rfl⟩
      obtain ⟨sA, hsA⟩ := hcA
      have HSA := Lib.hid hsA
      clear hsA
      go_wp2_with fail
      go_loopw [10, 11] (fun cv nv wr => ∃ (n : Nat) (vs : List Value) (ps : List (Value × List Int)) (cs' : List Int) (sn' : List (List Int)), n ≤ 2 ∧ nv = .int .i64 n ∧ vs.length = n ∧ (∀ x ∈ vs, (x, sA.1) ∈ ps) ∧ (n < 2 → cs' = cs ∧ sn' = [[3, 1, 4, 1, 5, 9], cs]) ∧ (0 < n → sA.1.length ≤ 1000000000000) ∧
          RSt wr [pool ps, row 36 1 cv n vs, rowA (.slice ba bc.length bcap) bc, old w] (.pointer (some ⟨p0, 0, none⟩)) (.pointer (some ⟨m0, 0, none⟩)) 13 0 cs' sn' (40 + 40 * n) ∧ Stable w wr) (fun _ nv _ => 2 - (intOf nv).toNat)
      case atStart => exact ⟨0, [], [], _, _, by omega, rfl, rfl, by simp, fun _ => ⟨rfl, rfl⟩, fun h => absurd h (by omega), H7.out.1, H7.out.2⟩
      case round =>
        clear H7
        obtain ⟨n, vs, ps, cs', sn', hn, rfl, hvl, hvs, hsame, hbig, hR8, hst8⟩ := hrel
        by_cases hn2 : n < 2
        · obtain ⟨rfl, rfl⟩ := hsame hn2
          obtain ⟨na, nc, rfl, _, _⟩ := (hR8.drop.pick 1).rowShape
          have H8 := Lib.hid (And.intro hR8 hst8)
          have HVS := Lib.hid (And.intro hvl hvs)
          have gn : decide ((n : Int) < 2) = true := by rw [decide_eq_true_eq]; omega
          clear hR8 hst8 hvl hvs hsame hbig
          go_wp2_with fail
          go_loopw [12, 13] (fun qv iv wq => ∃ (q i : Nat), i ≤ bc.length ∧ iv = .int .i64 i ∧ qv = .int .i64 q ∧ (pass (cs', [[3, 1, 4, 1, 5, 9], cs']) bc i).2.length = q + 2 ∧
              RSt wq [pool ps, row 36 1 (.slice na n nc) n vs, rowA (.slice ba bc.length bcap) bc, old w] (.pointer (some ⟨p0, 0, none⟩)) (.pointer (some ⟨m0, 0, none⟩)) 13 0 (pass (cs', [[3, 1, 4, 1, 5, 9], cs']) bc i).1 (pass (cs', [[3, 1, 4, 1, 5, 9], cs']) bc i).2 (40 + 40 * n + i) ∧ Stable w wq) (fun _ iv _ => bc.length - (intOf iv).toNat)
          case atStart => exact ⟨0, 0, Nat.zero_le _, rfl, rfl, by simp [pass_zero], by rw [pass_zero]; exact H8.out.1, H8.out.2⟩
          case round =>
            clear H8
            obtain ⟨q, i, hi, rfl, rfl, hq, hR9, hst9⟩ := hrel
            obtain ⟨tt, htt, httl⟩ := pass_pre (cs', [[3, 1, 4, 1, 5, 9], cs']) bc i hi (by simp)
            by_cases hlt : i < bc.length
            · obtain ⟨g, rfl, c0, c1, c2⟩ := rowA_cells ((hR9.drop.pick 2)) hlt
              have hps := pass_succ (cs', [[3, 1, 4, 1, 5, 9], cs']) bc i hlt
              have hq12 : q ≤ 10 := by rw [← htt] at httl; omega
              clear htt httl
              generalize pass (cs', [[3, 1, 4, 1, 5, 9], cs']) bc i = s at *
              obtain ⟨sc, ss⟩ := s
              dsimp only at hq hR9
              have hpD : (bc.getD i (0, 0, 0)).1 < 2 → pass (cs', [[3, 1, 4, 1, 5, 9], cs']) bc (i + 1) = (setC sc (bc.getD i (0, 0, 0)).2.1 (bc.getD i (0, 0, 0)).2.2, ss) := fun hD => by rw [hps]; unfold passStep; rw [if_pos hD]
              have hpP : ¬ (bc.getD i (0, 0, 0)).1 < 2 → q < 10 → pass (cs', [[3, 1, 4, 1, 5, 9], cs']) bc (i + 1) = (sc, ss ++ [sc]) := fun hD hq' => by rw [hps]; unfold passStep; rw [if_neg hD, if_pos (by dsimp only; omega)]
              have hpN : ¬ (bc.getD i (0, 0, 0)).1 < 2 → ¬ q < 10 → pass (cs', [[3, 1, 4, 1, 5, 9], cs']) bc (i + 1) = (sc, ss) := fun hD hq' => by rw [hps]; unfold passStep; rw [if_neg hD, if_neg (by dsimp only; omega)]
              have HP := Lib.hid (And.intro hpD (And.intro hpP hpN))
              have HQ := Lib.hid hq
              have H9 := Lib.hid (And.intro hR9 hst9)
              have H10 := Lib.hid (And.intro hR9.drew hst9.drew)
              clear hR9 hst9 hps hpD hpP hpN hq
              generalize (bc.getD i (0, 0, 0)).1 = oD at *
              generalize (bc.getD i (0, 0, 0)).2.1 = oA at *
              generalize (bc.getD i (0, 0, 0)).2.2 = oB at *
              by_cases hD : oD < 2
              · go_wp2_with fail
                go_still_tail 11, (by kernel_rfl)
                change wpList _ _ _ _ _ wr.drew
                clear H9 c0 c1 c2
                generalize wr.drew = w6 at H10 ⊢
                go_wp2_with fail
                refine (SetRS H10.out.1 (by omega) oA oB).mono ?_
                rintro e w7 ⟨rfl, hR7, hst7⟩
                have H7 := Lib.hid (And.intro hR7 (H10.out.2.trans hst7))
                clear hR7 hst7
                go_wp2_with fail
                refine ⟨⟨q, i + 1, by omega, by go_num, rfl, ?_, ?_, H7.out.2⟩, by simp [intOf]; omega⟩
                · rw [HP.out.1 hD]; exact HQ.out
                · rw [HP.out.1 hD]; exact H7.out.1
              · by_cases hq10 : q < 10
                · go_wp2_with fail
                  refine (Push13 H9.out.1 (by omega) (by rw [HQ.out]; omega) _ (by rw [HQ.out]; omega)).mono ?_
                  rintro e w7 ⟨rfl, hR7, hst7⟩
                  have H7 := Lib.hid (And.intro hR7 (H9.out.2.trans hst7))
                  clear hR7 hst7
                  go_wp2_with fail
                  refine ⟨⟨q + 1, i + 1, by omega, by go_num, by go_num, ?_, ?_, H7.out.2⟩, by simp [intOf]; omega⟩
                  · rw [HP.out.2.1 hD hq10]; simp [HQ.out]
                  · rw [HP.out.2.1 hD hq10]; exact H7.out.1.mono (by omega)
                · go_wp2_with fail
                  refine ⟨⟨q, i + 1, by omega, by go_num, rfl, ?_, ?_, H9.out.2⟩, by simp [intOf]; omega⟩
                  · rw [HP.out.2.2 hD hq10]; exact HQ.out
                  · rw [HP.out.2.2 hD hq10]; exact H9.out.1.mono (by omega)
            · obtain rfl : i = bc.length := by omega
              rw [← HSA.out] at htt hq hR9
              rw [htt] at hR9 hq
              have hNw := NewestRS hR9 (by omega) (by simp)
              rw [hq, show (0 : Int) + ((q + 2 : Nat) : Int) - 1 = 1 + q by omega] at hNw
              have hq12 : q ≤ 10 := by omega
              have HN := Lib.hid hNw
              have H9 := Lib.hid (And.intro hR9 hst9)
              clear hNw hR9 hst9 htt hq httl
              go_wp2_with fail
              refine HN.out.mono ?_
              rintro e w6 ⟨rfl, n6, rfl⟩
              have H10 := Lib.hid (And.intro (H9.out.1.drewN n6) (H9.out.2.drewN n6))
              clear H9 HN
              generalize World.drewN _ n6 = w6 at H10 ⊢
              go_wp2_with fail
              refine (CellsRS H10.out.1).mono ?_
              rintro e w7 ⟨x, rfl, hR7, hst7⟩
              obtain ⟨xa, xc, rfl, _, _⟩ := hR7.drop.rowShape
              obtain ⟨base7, log7, es7, hS7, hrest7⟩ := hR7
              have hS8 := (hS7.allocBeside (.cells #[.slice xa sA.1.length xc] 36)).pick 4
              have H8 := Lib.hid (And.intro hS8 (And.intro hrest7 ((H10.out.2.trans hst7).alloc (.cells #[.slice xa sA.1.length xc] 36))))
              obtain ⟨iI, hiI, hzI0, hzI1, hzI2⟩ := info_parts infoN
              clear hS7 hS8 hrest7 hst7 H10
              go_wp2_with (at_builtin; refine wpList_append_sep rfl _ _ 51 51 rfl 36 iI _ 1 24 Try.underlying51 hiI hzI0 hzI1 hzI2 rfl _ _ _ rfl H8.out.1 1 [.slice xa sA.1.length xc] (Src.ofSlice _ Try.underlying51 ⟨_, 0, none⟩ 1 1 _ rfl (fun j u hu => by rw [Addr.add_lit]; exact src_new _ _ _ _ (by simpa using hu) _ _ (by simp) (by simp)) (by intro u hu; simp at hu; subst hu; rfl)) (by unfold maxLen; omega) (by omega) ?_; intro v9 w9 hS9 hst9 hn9; clear hn9; have hS10 := ((pool_add ((hS9.pick 4).pick 4)).pick 3).pick 3; have H11 := Lib.hid (And.intro hS10 (And.intro H8.out.2.1 (H8.out.2.2.trans hst9))); clear hS9 hst9 hS10 H8)
              · obtain rfl : n = 0 := by omega
                have hR11 : RSt w9 _ _ _ 13 0 sA.1 ([[3, 1, 4, 1, 5, 9], cs'] ++ tt) _ := ⟨base7, log7, es7, H11.out.1, H11.out.2.1⟩
                refine (RewAt hR11 (by omega) (by omega) 1 1 (by omega) (by simp)).mono ?_
                rintro e w12 ⟨rfl, hR12, hst12⟩
                have hR13 : RSt w12 _ _ _ 13 0 cs' [[3, 1, 4, 1, 5, 9], cs'] _ := hR12
                have H12 := Lib.hid (And.intro hR13 (H11.out.2.2.trans hst12))
                have HSM := Lib.hid H11.out.2.1.2.1.cells
                clear hR11 hR12 hR13 hst12 H11
                go_wp2_with fail
                refine ⟨⟨1, vs ++ [.slice xa sA.1.length xc], _, cs', [[3, 1, 4, 1, 5, 9], cs'], by omega, by go_num, by simp [HVS.out.1], ?_, fun _ => ⟨rfl, rfl⟩, fun _ => HSM.out, H12.out.1.mono (by omega), H12.out.2⟩, by simp [intOf]⟩
                intro y hy
                rcases List.mem_append.1 hy with hy | hy
                · exact List.mem_cons_of_mem _ (HVS.out.2 y hy)
                · obtain rfl : y = _ := by simpa using hy
                  exact List.mem_cons_self ..
              · obtain rfl : n = 1 := by omega
                have hR11 : RSt w9 _ _ _ 13 0 sA.1 ([[3, 1, 4, 1, 5, 9], cs'] ++ tt) _ := ⟨base7, log7, es7, H11.out.1, H11.out.2.1⟩
                refine ⟨⟨2, vs ++ [.slice xa sA.1.length xc], _, _, _, by omega, by go_num, by simp [HVS.out.1], ?_, fun h => absurd h (by omega), fun _ => H11.out.2.1.2.1.cells, hR11.mono (by omega), H11.out.2.2⟩, by simp [intOf]⟩
                intro y hy
                rcases List.mem_append.1 hy with hy | hy
                · exact List.mem_cons_of_mem _ (HVS.out.2 y hy)
                · obtain rfl : y = _ := by simpa using hy
                  exact List.mem_cons_self ..
        · obtain rfl : n = 2 := by omega
          obtain ⟨x, y, rfl⟩ : ∃ x y, vs = [x, y] := by
            match vs, hvl with
            | [x, y], _ => exact ⟨x, y, rfl⟩
          obtain ⟨g, cap, rfl, _, _, hc, _⟩ := (hR8.drop.pick 1).rowAt (by omega)
          have q0 : wr.cell? ⟨g, 0, none⟩ = some x := hc 0 (by simp)
          have q1 : wr.cell? ⟨g, 1, none⟩ = some y := hc 1 (by simp)
          have hx := pool_get (hvs x (by simp)) hR8.drop
          have hy := pool_get (hvs y (by simp)) hR8.drop
          have hsl : sA.1.length ≤ 1000000000000 := hbig (by omega)
          have HSL := Lib.hid hsl
          have H8 := Lib.hid (And.intro (show Sep wr.drew _ from hR8.drop) (And.intro hst8.drew (And.intro (hx.of_heap (w' := wr.drew) (fun k _ => rfl)) (hy.of_heap (w' := wr.drew) (fun k _ => rfl)))))
          clear hR8 hst8 hx hy hc hvs hsame hvl hsl hbig
          go_wp2_with fail
          go_still_tail 6, (by kernel_rfl)
          change wpList _ _ _ _ _ wr.drew
          generalize wr.drew = w6 at H8 ⊢
          go_wp2_with fail
          refine (SameInts_spec H8.out.2.2.1 H8.out.2.2.2 HSL.out HSL.out).mono ?_
          rintro e w7 ⟨rfl, n7, rfl⟩
          rw [sameE_self]
          have H9 := Lib.hid (And.intro (H8.out.1.drewN n7) (H8.out.2.1.drewN n7))
          clear H8
          generalize World.drewN _ n7 = w7 at H9 ⊢
          go_wp2_with fail
          refine (lives_spec H9.out.1).mono ?_
          rintro e w8 ⟨rfl, hS8, hst8⟩
          have H10 := Lib.hid (And.intro hS8 (H9.out.2.trans hst8))
          clear hS8 hst8
          go_wp2_with fail
          go_ret
          exact ⟨rfl, Sep.below H10.out.1.drop.drop.drop H10.out.2⟩

end Go.Proofs.Ytfhjdfllkjjldaa
