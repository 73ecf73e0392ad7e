/- The walk of the law CellmemBranch. -/
import Derived.Test.YtcpicaalponnlaaCellmemUndoW
namespace Go.Proofs.Ytcpicaalponnlaa
open Go.RowKit Go.Sl

variable {w : World} {L : List Asn}

theorem readsP_of_old {w w' : World} {v : Value} {l : List (Int × Int)} (h : readsP w v l) (hk : ∀ k, k < w.heap.size → w'.heap[k]? = w.heap[k]?) : readsP w' v l := readsAs.of_heap h hk

set_option maxRecDepth 100000 in
set_option maxHeartbeats 8000000 in
theorem cellmemBranch_walk {u v x y : Value} {cells l : List Int} {a b : List (Int × Int)} (hu : readsI w u cells) (bu : cells.length ≤ 9223372036854775807) (_ : ∀ x ∈ cells, inI64 x)
    (hv : readsI w v l) (bv : l.length ≤ 9223372036854775807) (wv : ∀ x ∈ l, inI64 x) (hx : readsP w x a) (bx : a.length ≤ 9223372036854775807) (wx : ∀ x ∈ a, inI64 x.1 ∧ inI64 x.2)
    (hy : readsP w y b) (by' : b.length ≤ 9223372036854775807) (wy : ∀ x ∈ b, inI64 x.1 ∧ inI64 x.2) :
    Calls Try.prog 6 #[u, v, x, y] w fun e w' => e = .returned (.bool true) ∧ Below w.heap.size w w' := by
  obtain ⟨au, cu, rfl⟩ := readsI_len hu
  obtain ⟨av, cv, rfl⟩ := readsI_len hv
  obtain ⟨ax, cx, rfl⟩ := readsP_len hx
  obtain ⟨ay, cy, rfl⟩ := readsP_len hy
  have HU := Lib.hid hu
  have HV := Lib.hid hv
  have HX := Lib.hid hx
  have HY := Lib.hid hy
  have WX := Lib.hid wx
  have WY := Lib.hid wy
  have hinv := built_inv cells l
  clear hu hv hx wx hy wy
  go_enter Try.func6, Try.ntmps6
  go_wp2_with fail
  refine (built_spec HU.out bu HV.out bv wv).mono ?_
  rintro e w1 ⟨p0, rfl, hS1, hst1⟩
  go_wp2_with fail
  refine (built_spec (HU.out.of_heap (hS1.pick 1).oldGet) bu (HV.out.of_heap (hS1.pick 1).oldGet) bv wv).mono ?_
  rintro e w2 ⟨p1, rfl, hS2, hst2⟩
  have hS2 := hS1.mount (hS2.pick 1)
  have hst2 := hst1.trans hst2
  clear hS1 hst1
  generalize builtS cells l = s0 at *
  have hsm := hinv.small (by omega)
  have hlen6 := hinv.1
  clear HU HV bu bv wv
  go_wp2_with fail
  refine (Mark_spec (hS2.pick 1) hsm).mono ?_
  rintro e w3 ⟨rfl, n3, rfl⟩
  have hS3 := hS2.drewN n3
  have hst3 := hst2.drewN n3
  clear hS2 hst2
  generalize w2.drewN n3 = w3 at hS3 hst3 ⊢
  go_wp2_with fail
  go_loopw [12] (fun i wr => ∃ k : Nat, k ≤ a.length ∧ k ≤ 12 ∧ i = .int .i64 k ∧ Sep wr [memS (.pointer (some ⟨p0, 0, none⟩)) (setsS s0 a k), memS (.pointer (some ⟨p1, 0, none⟩)) s0, old w] ∧ Stable w wr) (fun i _ => 12 - (intOf i).toNat)
  case atStart => exact ⟨0, Nat.zero_le _, by omega, rfl, hS3.pick 1, hst3⟩
  case round =>
    clear hS3 hst3
    obtain ⟨k, hk, hk20, rfl, hSr, hst⟩ := hrel
    have hext := setsS_ext s0 a k hk
    have hpos := hinv.2.2.1
    have hlow := hinv.2.1
    have hsmk : SmallS (setsS s0 a k) := by
      have := hext.1.small (base := s0.2.1) hsm (by omega)
      rw [← hext.2] at this; exact this
    by_cases hlt : k < a.length ∧ k < 12
    · obtain ⟨hlt, hlt20⟩ := hlt
      obtain ⟨b, off, cap, hv, _, _, hc⟩ := readsP_at HX.out (by omega)
      obtain ⟨rfl, rfl⟩ : ax = some ⟨b, off, none⟩ ∧ cx = cap := by simpa using hv
      obtain ⟨hc1, hc2⟩ := hc k hlt
      have hbl := World.block_lt_of_cell? w _ hc1
      have hold := (hSr.pick 2).oldGet b hbl
      have c1 : wr.cell? ⟨b, off + k * 2, none⟩ = _ := (World.cell?_of_block (a := ⟨b, off + k * 2, none⟩) hold).trans hc1
      have c2 : wr.cell? ⟨b, off + k * 2 + 1, none⟩ = _ := (World.cell?_of_block (a := ⟨b, off + k * 2 + 1, none⟩) hold).trans hc2
      have hxw := WX.out (a.getD k (0, 0)) (by rw [show a.getD k (0, 0) = a[k] by simp [List.getD, hlt]]; exact List.getElem_mem hlt)
      have HSM := Lib.hid hsmk
      have hll : (setsS s0 a k).2.2.length < 1000000000000 := by have := hext.1.len.2.2; omega
      have HLL := Lib.hid hll
      have hsuc := setsS_succ s0 a k hlt
      have HSUC := Lib.hid hsuc
      have HST := Lib.hid hst
      clear hv hc hc1 hc2 hold hsuc hll hst hsmk hext
      generalize a.getD k (0, 0) = y at *
      obtain ⟨y1, y2⟩ := y
      dsimp only at *
      have har := Around_spec y1 6 wr.drew (by omega) (by omega) hxw.1
      have HAR := Lib.hid har
      clear har
      generalize around y1 6 = z at *
      go_wp2_with fail
      go_still_tail 12, (by kernel_rfl)
      still_call (still_of_eq HAR.out)
      repeat still_step
      refine wpStill_nil ?_
      change wpList _ _ _ _ _ wr.drew
      have HSET2 := Lib.hid (Set_spec hSr.drew HSM.out HLL.out z y2)
      go_wp2_with fail
      refine HSET2.out.mono ?_
      rintro e w5 ⟨rfl, hS5, hst5⟩
      have hst5 := HST.out.drew.trans hst5
      go_wp2_with fail
      refine ⟨⟨k + 1, by omega, by omega, by go_num, ?_, hst5⟩, by simp [intOf]; omega⟩
      rw [HSUC.out]
      exact hS5
    · have hundo := hext.1.undo (k := s0.2.2.length) rfl
      have hb2 := hext.2
      have hll := hext.1.len
      have HU := Lib.hid (And.intro hundo (And.intro hb2 hll))
      clear hundo hb2 hll hext
      have hcase : (k < a.length ∧ k = 12) ∨ (k = a.length ∧ k ≤ 12) := by omega
      clear hlt
      rcases hcase with ⟨hd1, hd2⟩ | ⟨hd1, hd2⟩
      all_goals
        go_wp2_with fail
        refine (UndoS_spec hSr hsmk _).mono ?_
        rintro e w5 ⟨rfl, hS5, hst5⟩
        have hu := HU.out
        have hz : chk (setsS s0 a k).2.1 (setsS s0 a k).2.2 (s0.2.1 + s0.2.2.length) = 0 := by
          unfold chk; rw [hu.2.1, if_neg (by omega), if_neg (by omega)]
        have hres : undoS (setsS s0 a k) (s0.2.1 + s0.2.2.length) = s0 := by
          unfold undoS
          rw [if_pos hz, hu.2.1, show (s0.2.1 + (s0.2.2.length : Int) - s0.2.1).toNat = s0.2.2.length by omega, hu.1.1, hu.1.2]
        rw [hz]
        rw [hres] at hS5
        replace hst5 := hst.trans hst5
        clear hu hz hres hSr hst hsmk HU hd1 hd2 hk hk20
        go_wp2_with fail
        clear HX WX
        obtain ⟨wo, rfl⟩ : ∃ wo : World, wo = wr := ⟨_, rfl⟩
        go_loopw [13] (fun i wr => ∃ k : Nat, k ≤ b.length ∧ k ≤ 12 ∧ i = .int .i64 k ∧ Sep wr [memS (.pointer (some ⟨p0, 0, none⟩)) (setsS s0 b k), memS (.pointer (some ⟨p1, 0, none⟩)) (setsS s0 b k), old w] ∧ Stable w wr) (fun i _ => 12 - (intOf i).toNat)
        case atStart => exact ⟨0, Nat.zero_le _, by omega, rfl, hS5, hst5⟩
        case round =>
          clear hS5 hst5
          obtain ⟨k, hk, hk20, rfl, hSr, hst⟩ := hrel
          have hext := setsS_ext s0 b k hk
          have hsmk : SmallS (setsS s0 b k) := by
            have := hext.1.small (base := s0.2.1) hsm (by omega)
            rw [← hext.2] at this; exact this
          by_cases hlt : k < b.length ∧ k < 12
          · obtain ⟨hlt, hlt20⟩ := hlt
            obtain ⟨bb, off, cap, hv, _, _, hc⟩ := readsP_at HY.out (by omega)
            obtain ⟨rfl, rfl⟩ : ay = some ⟨bb, off, none⟩ ∧ cy = cap := by simpa using hv
            obtain ⟨hc1, hc2⟩ := hc k hlt
            have hbl := World.block_lt_of_cell? w _ hc1
            have hold := (hSr.pick 2).oldGet bb hbl
            have c1 : wr.cell? ⟨bb, off + k * 2, none⟩ = _ := (World.cell?_of_block (a := ⟨bb, off + k * 2, none⟩) hold).trans hc1
            have c2 : wr.cell? ⟨bb, off + k * 2 + 1, none⟩ = _ := (World.cell?_of_block (a := ⟨bb, off + k * 2 + 1, none⟩) hold).trans hc2
            have hxw := WY.out (b.getD k (0, 0)) (by rw [show b.getD k (0, 0) = b[k] by simp [List.getD, hlt]]; exact List.getElem_mem hlt)
            have HSM := Lib.hid hsmk
            have hll : (setsS s0 b k).2.2.length < 1000000000000 := by have := hext.1.len.2.2; omega
            have HLL := Lib.hid hll
            have hsuc := setsS_succ s0 b k hlt
            have HSUC := Lib.hid hsuc
            have HST := Lib.hid hst
            have HC1 := Lib.hid hc1
            have HC2 := Lib.hid hc2
            clear hv hc hc1 hc2 hold hsuc hll hst hsmk hext
            generalize b.getD k (0, 0) = y at *
            obtain ⟨y1, y2⟩ := y
            dsimp only at *
            have HAR := Lib.hid (Around_spec y1 6 wr.drew (by omega) (by omega) hxw.1)
            have HAR2 := Lib.hid (fun w => Around_spec y1 6 w (by omega) (by omega) hxw.1)
            generalize around y1 6 = z at *
            go_wp2_with fail
            go_still_tail 12, (by kernel_rfl)
            still_call (still_of_eq HAR.out)
            repeat still_step
            refine wpStill_nil ?_
            change wpList _ _ _ _ _ wr.drew
            have HSET2 := Lib.hid (Set_spec hSr.drew HSM.out HLL.out z y2)
            go_wp2_with fail
            refine HSET2.out.mono ?_
            rintro e w6 ⟨rfl, hS6, hst6⟩
            have hst6 := HST.out.drew.trans hst6
            clear HAR HSET2 c1 c2 hSr HST
            have hold := (hS6.pick 2).oldGet bb hbl
            have c1 : w6.cell? ⟨bb, off + k * 2, none⟩ = _ := (World.cell?_of_block (a := ⟨bb, off + k * 2, none⟩) hold).trans HC1.out
            have c2 : w6.cell? ⟨bb, off + k * 2 + 1, none⟩ = _ := (World.cell?_of_block (a := ⟨bb, off + k * 2 + 1, none⟩) hold).trans HC2.out
            clear hold
            go_wp2_with fail
            go_still_tail 12, (by kernel_rfl)
            still_call (still_of_eq (HAR2.out w6.drew))
            repeat still_step
            refine wpStill_nil ?_
            change wpList _ _ _ _ _ w6.drew
            have HSET3 := Lib.hid (Set_spec (hS6.drew.pick 1) HSM.out HLL.out z y2)
            go_wp2_with fail
            refine HSET3.out.mono ?_
            rintro e w7 ⟨rfl, hS7, hst7⟩
            have hst7 := hst6.drew.trans hst7
            go_wp2_with fail
            refine ⟨⟨k + 1, by omega, by omega, by go_num, ?_, hst7⟩, by simp [intOf]; omega⟩
            rw [HSUC.out]
            exact hS7.pick 1
          · have hb2 := hext.2
            have hll := hext.1.len
            have hz : chk (setsS s0 b k).2.1 (setsS s0 b k).2.2 (s0.2.1 + s0.2.2.length) = 0 := by
              unfold chk; rw [hb2, if_neg (by omega), if_neg (by omega)]
            have h6 : (setsS s0 b k).1.length ≤ 6 := by omega
            have hcl : (chgS (setsS s0 b k) (s0.2.1 + s0.2.2.length)).length ≤ 6 := by
              unfold chgS; rw [if_pos hz]; exact Nat.le_trans (upTo_length _ _) h6
            have HZ := Lib.hid hz
            have H6 := Lib.hid h6
            have HCL := Lib.hid hcl
            clear hb2 hll hext hz h6 hcl
            have hcase : (k < b.length ∧ k = 12) ∨ (k = b.length ∧ k ≤ 12) := by omega
            clear hlt
            rcases hcase with ⟨hd1, hd2⟩ | ⟨hd1, hd2⟩
            all_goals
              go_wp2_with fail
              refine (ChgS_spec hSr hsmk _).mono ?_
              rintro e w6 ⟨v6, rfl, hS6, hst6⟩
              have hst6 := hst.trans hst6
              rw [HZ.out]
              go_wp2_with fail
              refine (ChgS_spec (hS6.pick 2) hsmk _).mono ?_
              rintro e w7 ⟨v7, rfl, hS7, hst7⟩
              have hst7 := hst6.trans hst7
              rw [HZ.out]
              go_wp2_with fail
              refine (SameInts_spec (hS7.pick 2).reads hS7.reads (Nat.le_trans HCL.out (by omega)) (Nat.le_trans HCL.out (by omega))).mono ?_
              rintro e w8 ⟨rfl, n8, rfl⟩
              rw [sameE_self]
              have hS8 := hS7.drewN n8
              have hst8 := hst7.drewN n8
              generalize w7.drewN n8 = w8 at hS8 hst8 ⊢
              go_wp2_with fail
              refine (Cells_spec (hS8.pick 3) hsmk).mono ?_
              rintro e w9 ⟨v9, rfl, hS9, hst9⟩
              have hst9 := hst8.trans hst9
              go_wp2_with fail
              refine (Cells_spec (hS9.pick 3) hsmk).mono ?_
              rintro e w10 ⟨v10, rfl, hS10, hst10⟩
              have hst10 := hst9.trans hst10
              go_wp2_with fail
              refine (SameInts_spec (hS10.pick 2).reads hS10.reads (Nat.le_trans H6.out (by omega)) (Nat.le_trans H6.out (by omega))).mono ?_
              rintro e w11 ⟨rfl, n11, rfl⟩
              rw [sameE_self]
              have hS11 := hS10.drewN n11
              have hst11 := hst10.drewN n11
              generalize w10.drewN n11 = w11 at hS11 hst11 ⊢
              go_wp2_with fail
              refine (Mark_spec (hS11.pick 3) hsmk).mono ?_
              rintro e w12 ⟨rfl, n12, rfl⟩
              have hS12 := hS11.drewN n12
              have hst12 := hst11.drewN n12
              generalize w11.drewN n12 = w12 at hS12 hst12 ⊢
              go_wp2_with fail
              refine (Mark_spec (hS12.pick 1) hsmk).mono ?_
              rintro e w13 ⟨rfl, n13, rfl⟩
              have hS13 := hS12.drewN n13
              have hst13 := hst12.drewN n13
              generalize w12.drewN n13 = w13 at hS13 hst13 ⊢
              go_wp2_with fail
              refine (lives_spec hS13).mono ?_
              rintro e w14 ⟨rfl, hS14, hst14⟩
              have hst14 := hst13.trans hst14
              go_wp2_with fail
              go_ret
              exact ⟨rfl, (hS14.pick 6).below hst14⟩

end Go.Proofs.Ytcpicaalponnlaa
