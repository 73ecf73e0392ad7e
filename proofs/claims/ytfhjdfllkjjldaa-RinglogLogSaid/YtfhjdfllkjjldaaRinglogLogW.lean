/- The walk of RinglogLog. -/
import Derived.Test.YtfhjdfllkjjldaaLogP
import Derived.StillTailTactics
namespace Go.Proofs.Ytfhjdfllkjjldaa
open Go.RowKit Go.Sl

theorem rowA_cells {w : World} {L : List Asn} {a : Option Addr} {c : Nat} {ac : List ActT} (h : Sep w (rowA (.slice a ac.length c) ac :: L)) {j : Nat} (hj : j < ac.length) :
    ∃ g, a = some ⟨g, 0, none⟩ ∧ w.cell? ⟨g, j * 3, none⟩ = some (i64 (ac.getD j (0, 0, 0)).1) ∧ w.cell? ⟨g, j * 3 + 1, none⟩ = some (i64 (ac.getD j (0, 0, 0)).2.1) ∧ w.cell? ⟨g, j * 3 + 2, none⟩ = some (i64 (ac.getD j (0, 0, 0)).2.2) := by
  obtain ⟨g, cap, hv, _, _, hc, _⟩ := h.rowAt (by omega)
  obtain ⟨rfl, rfl⟩ : a = some ⟨g, 0, none⟩ ∧ c = cap := by simpa using hv
  have hl := acells_length ac
  obtain ⟨e0, e1, e2⟩ := acells_get ac j hj
  exact ⟨g, rfl, (hc _ (by omega)).trans e0, (hc _ (by omega)).trans e1, (hc _ (by omega)).trans e2⟩

set_option maxRecDepth 100000 in
set_option maxHeartbeats 4000000 in
theorem ringlogLog_walk {w : World} {keep : Int} {v : Value} {l : List Int} (hk : inI64 keep) (h : readsI w v l) (hl : l.length ≤ 9223372036854775807) (hw : ∀ x ∈ l, inI64 x) :
    Calls Try.prog 7 #[i64 keep, v] w fun e w' => e = .returned (.bool true) ∧ Below w.heap.size w w' := by
  have hK := fun w => keeps_spec keep w hk
  have k0 : 0 ≤ around keep 13 := around_lo (by omega)
  have k1 : around keep 13 < 13 := around_hi (by omega)
  obtain ⟨k, hk⟩ : ∃ k : Nat, 1 + around keep 13 = k := Int.eq_ofNat_of_zero_le (by omega)
  rw [hk] at hK
  have kb : 1 ≤ k ∧ k ≤ 13 := by omega
  have HK := Lib.hid hK
  have HA := Lib.hid (And.intro h (And.intro hl hw))
  obtain ⟨ia, ic, rfl⟩ := readsI_len h
  clear hK hk k0 k1 h hl hw
  go_enter Try.func7, Try.ntmps7
  go_wp2_with fail
  refine (HK.out _).mono ?_
  rintro e w2 ⟨rfl, rfl⟩
  go_wp2_with fail
  refine (made_spec (Sep.start w) k).mono ?_
  rintro e w1 ⟨p0, m0, rfl, hS1, hst1⟩
  have H1 := Lib.hid (And.intro hS1 hst1)
  clear hS1 hst1
  go_wp2_with fail
  refine (Acts_spec (HA.out.1.of_heap H1.out.1.drop.drop.oldGet) HA.out.2.1 HA.out.2.2).mono ?_
  rintro e w2 ⟨va, ac, rfl, hac, hS2, hst2⟩
  obtain ⟨aa, acap, rfl, _, _⟩ := hS2.rowShape
  have hS3 := H1.out.1.mount (hS2.pick 1)
  have hS4 : Sep w2 (ring _ _ k [] :: mem _ _ _ _ :: rowI (.slice none 0 0) [] :: rowA (.slice aa ac.length acap) ac :: [old w]) := (((hS3.addNil 3 1).pick 2).pick 3).pick 1
  have H2 := Lib.hid (And.intro (LgS.made hS4) (H1.out.2.trans hst2))
  have hacl := hac.1
  have HAC := Lib.hid hac.2
  clear hS3 hS4 hS2 hst2 H1 HA HK hac
  go_wp2_with fail
  go_loopw [8, 10] (fun wv i wr => ∃ (j : Nat) (ws : List Int), j ≤ ac.length ∧ i = .int .i64 j ∧ ws.length ≤ j ∧ (∀ x ∈ ws, 0 ≤ x ∧ x ≤ (j : Int)) ∧ LgS wr (rowI wv ws :: rowA (.slice aa ac.length acap) ac :: [old w]) (.pointer (some ⟨p0, 0, none⟩)) (.pointer (some ⟨m0, 0, none⟩)) k ws j ∧ Stable w wr) (fun _ i _ => ac.length - (intOf i).toNat)
  case atStart => exact ⟨0, [], Nat.zero_le _, rfl, by simp, by simp, H2.out.1, H2.out.2⟩
  case round =>
    clear H2
    obtain ⟨j, ws, hj, rfl, hwl, hwb, hSr, hst⟩ := hrel
    by_cases hlt : j < ac.length
    · obtain ⟨pre0, cs0, base0, log0, es0, sn0, hS0, hrest0⟩ := hSr
      obtain ⟨wa, wcap, rfl, _, _⟩ := (hS0.pick 2).rowShape
      obtain ⟨g, rfl, c0, c1, c2⟩ := rowA_cells (hS0.pick 3) hlt
      have hok := HAC.out _ (show ac.getD j (0, 0, 0) ∈ ac by rw [show ac.getD j (0, 0, 0) = ac[j] by simp [List.getD, hlt]]; exact List.getElem_mem hlt)
      obtain ⟨o1, o2, o3, o4, o5, _, _, _, _⟩ := hok
      have HS := Lib.hid (And.intro hS0 (And.intro hrest0 hst))
      have HWB := Lib.hid hwb
      clear hS0 hrest0 hst hwb
      generalize (ac.getD j (0, 0, 0)).1 = oD at *
      generalize (ac.getD j (0, 0, 0)).2.1 = oA at *
      generalize (ac.getD j (0, 0, 0)).2.2 = oB at *
      by_cases hD : 2 ≤ oD
      · go_wp2_with fail
        refine (PushLg ⟨pre0, cs0, base0, log0, es0, sn0, HS.out.1, HS.out.2.1⟩ (by omega) (by omega) (by omega) (by omega)).mono ?_
        rintro e w3 ⟨rfl, hS3, hst3⟩
        obtain ⟨pre1, cs1, base1, log1, es1, sn1, hS4, hrest1⟩ := hS3
        have hS5 := (hS4.allocBeside (.cells #[i64 0] 3)).pick 2
        have hst5 := (HS.out.2.2.trans hst3).alloc (.cells #[i64 0] 3)
        have H5 := Lib.hid (And.intro hS5 (And.intro hrest1 hst5))
        obtain ⟨iI, hiI, hzI0, hzI1, hzI2⟩ := info_parts infoI
        clear hS4 hS5 hrest1 hst5 hst3 HS
        go_wp2_with (at_builtin; refine wpList_append_sep rfl _ _ 36 36 rfl 3 iI _ 1 8 Try.underlying36 hiI hzI0 hzI1 hzI2 rfl _ _ _ rfl H5.out.1 1 [i64 0] (Src.ofSlice _ Try.underlying36 ⟨_, 0, none⟩ 1 1 _ rfl (fun j u hu => by rw [Addr.add_lit]; exact src_new _ _ _ _ (by simpa using hu) _ _ (by simp) (by simp)) (ints_one [0])) (by unfold maxLen; omega) (by omega) ?_; intro v' w6 hS6 hst6 hn6)
        refine ⟨⟨j + 1, ws ++ [0], by omega, by go_num, by simp; omega, ?_, LgS.mono (B := j) ⟨pre1, cs1, base1, log1, es1, sn1, ((rowI_app (l' := [0]) hS6 rfl rfl).pick 1).perm (.cons _ (.swap _ _ _)), H5.out.2.1⟩ (by omega), H5.out.2.2.trans hst6⟩, by simp [intOf]; omega⟩
        intro x hx
        rcases List.mem_append.1 hx with hx | hx
        · have := HWB.out x hx; omega
        · obtain rfl : x = 0 := by simpa using hx
          omega
      · by_cases h6 : oA < 6
        · have ho5 := o5 (by omega)
          have HL : LgS wr _ _ _ _ _ _ := ⟨pre0, cs0, base0, log0, es0, sn0, HS.out.1, HS.out.2.1⟩
          have HL := Lib.hid (And.intro HL HS.out.2.2)
          clear HS
          go_wp2_with fail
          go_still_tail 11, (by kernel_rfl)
          change wpList _ _ _ _ _ wr.drew
          have H2 := Lib.hid (And.intro HL.out.1.drew HL.out.2.drew)
          generalize wr.drew = w2 at H2 ⊢
          go_wp2_with fail
          refine (SetLg H2.out.1 (by omega) oA oB ho5 h6).mono ?_
          rintro e w3 ⟨rfl, hS3, hst3⟩
          obtain ⟨pre1, cs1, base1, log1, es1, sn1, hS4, hrest1⟩ := hS3
          have H5 := Lib.hid (And.intro (hS4.pick 2) (And.intro hrest1 (H2.out.2.trans hst3)))
          clear hS4 hrest1 hst3 HL H2
          by_cases h0 : ws.length = 0
          · obtain rfl : ws = [] := List.eq_nil_of_length_eq_zero h0
            clear h0
            go_wp2_with fail
            refine ⟨⟨j + 1, [], by omega, by go_num, by simp, by simp, ⟨pre1, cs1, base1, log1, es1, sn1, (H5.out.1.pick 1).perm (.cons _ (.swap _ _ _)), H5.out.2.1⟩, H5.out.2.2⟩, by simp [intOf]; omega⟩
          · obtain ⟨gw, wcap', hv, _, _, hcw, _, _⟩ := rowI_at H5.out.1 (by omega)
            obtain ⟨rfl, rfl⟩ : wa = some ⟨gw, 0, none⟩ ∧ wcap = wcap' := by simpa using hv
            have hcl := hcw (ws.length - 1) (by omega)
            have hx := HWB.out (ws.getD (ws.length - 1) 0) (by rw [List.getD_eq_getElem?_getD, List.getElem?_eq_getElem (by omega)]; exact List.getElem_mem ..)
            have hbump : bump ws = ws.set (ws.length - 1) (ws.getD (ws.length - 1) 0 + 1) := rfl
            have HBU := Lib.hid hbump
            clear hv hcw hbump
            generalize ws.getD (ws.length - 1) 0 = x at *
            go_wp2_with fail
            have hS6 := rowI_set H5.out.1 (ws.length - 1) (x + 1) (by omega)
            rw [← HBU.out] at hS6
            refine ⟨⟨j + 1, bump ws, by omega, by go_num, by rw [bump_length]; omega, fun y hy => by have := bump_box HWB.out y hy; omega, ⟨pre1, cs1, base1, log1, es1, sn1, (hS6.pick 1).perm (.cons _ (.swap _ _ _)), H5.out.2.1⟩, H5.out.2.2.setCell _ _⟩, by simp [intOf]; omega⟩
        · go_wp2_with fail
          go_roundw
          case rel => exact ⟨j + 1, ws, by omega, by go_num, by omega, fun x hx => by have := HWB.out x hx; omega, LgS.mono (B := j) ⟨pre0, cs0, base0, log0, es0, sn0, HS.out.1, HS.out.2.1⟩ (by omega), HS.out.2.2⟩
          case measure => simp [intOf]; omega
    · obtain rfl : j = ac.length := by omega
      obtain ⟨wa, wcap, rfl, _, _⟩ := hSr.drop.rowShape
      have HS := Lib.hid (And.intro hSr hst)
      have HWB := Lib.hid hwb
      clear hSr hst hwb
      by_cases hgone : k < ws.length
      · have h40 := hacl
        have hlg := LoggedLg HS.out.1 hgone (by omega)
        have hsb := sum_box_take (ws.length - k) (by omega) (by omega) HWB.out
        have hST := fun j => sum_box_take j (by omega) (by omega) HWB.out
        obtain ⟨gw, wcap', hv, _, _, hcw, _, _⟩ := rowI_at HS.out.1.drop (by omega)
        obtain ⟨rfl, rfl⟩ : wa = some ⟨gw, 0, none⟩ ∧ wcap = wcap' := by simpa using hv
        have HLG := Lib.hid hlg
        have HST := Lib.hid hST
        have HCW := Lib.hid hcw
        clear hlg hST hv hcw
        obtain ⟨d, hd⟩ : ∃ d : Nat, ws.length - k = d := ⟨_, rfl⟩
        rw [hd] at HLG hsb
        have hd2 : (ws.length : Int) - k = d := by omega
        have hd3 : d + k = ws.length := by omega
        have HD := Lib.hid hd2
        clear hd hd2
        go_wp2_with fail
        rw [HD.out]
        go_loopw [11, 12] (fun sv iv wq => wq = wr ∧ ∃ i : Nat, d ≤ i ∧ i ≤ ws.length ∧ iv = .int .i64 i ∧ sv = .int .i64 ((ws.take i).sum - (ws.take d).sum)) (fun _ iv _ => ws.length - (intOf iv).toNat)
        case atStart => exact ⟨rfl, d, by omega, by omega, rfl, by simp⟩
        case round =>
          obtain ⟨rfl, i, hdi, hil, rfl, rfl⟩ := hrel
          have hsi := HST.out i
          by_cases hin : i < ws.length
          · have hci := HCW.out i hin
            have hsn := sum_next ws i hin
            have hsi2 := HST.out (i + 1)
            have HSN := Lib.hid hsn
            rw [hsn] at hsi2
            clear hsn
            generalize ws.getD i 0 = x at *
            generalize (ws.take i).sum = s at *
            generalize (ws.take d).sum = sd at *
            go_wp2_with fail
            exact ⟨⟨trivial, i + 1, by omega, by omega, by go_num, by rw [HSN.out]; go_num⟩, by simp [intOf]; omega⟩
          · obtain rfl : i = ws.length := by omega
            have hlg := HLG.out
            rw [List.take_length] at hsi
            rw [List.take_length]
            generalize ws.sum = s at *
            generalize (ws.take d).sum = sd at *
            have HLG := Lib.hid hlg
            clear hlg
            go_wp2_with fail
            refine HLG.out.mono ?_
            rintro e w5 ⟨rfl, rfl⟩
            go_wp2_with fail
            refine (lives_spec HS.out.1.drop).mono ?_
            rintro e w7 ⟨rfl, hS7, hst7⟩
            have H7 := Lib.hid (And.intro hS7 (HS.out.2.trans hst7))
            clear hS7 hst7
            go_wp2_with fail
            go_ret
            exact ⟨rfl, Sep.below H7.out.1.drop.drop H7.out.2⟩
      · go_wp2_with fail
        refine (lives_spec HS.out.1.drop).mono ?_
        rintro e w7 ⟨rfl, hS7, hst7⟩
        have H7 := Lib.hid (And.intro hS7 (HS.out.2.trans hst7))
        clear hS7 hst7
        go_wp2_with fail
        go_ret
        exact ⟨rfl, Sep.below H7.out.1.drop.drop H7.out.2⟩

end Go.Proofs.Ytfhjdfllkjjldaa
