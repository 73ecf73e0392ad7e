/- The walk of RinglogRange. -/
import Derived.Test.YtfhjdfllkjjldaaRangeP
namespace Go.Proofs.Ytfhjdfllkjjldaa
open Go.RowKit Go.Sl

variable {w : World} {L : List Asn}

theorem flag_spec (b : Bool) (w : World) :
    Calls Try.prog 18 #[.bool b] w fun e w' => e = .returned (i64 (if b then 1 else 0)) ∧ w = w' := by
  cases b
  all_goals
    go_enter Try.func18, Try.ntmps18
    go_wp2
    go_ret
    exact ⟨rfl, rfl⟩

theorem Push_round {p mp : Value} {k j B : Nat} {t : Int} (h : RSt w L p mp k (t + (j - k : Nat)) (csR j) (snR k j) B) (hk : 1 ≤ k ∧ k ≤ 13) (hj : j ≤ 30) (hB : B ≤ 30) (ht : 0 ≤ t ∧ t < 1000) :
    Calls Try.prog 12 #[p, i64 (t + j)] w fun e w' => e = .returned (i64 0) ∧ RSt w' L p mp k (t + (j + 1 - k : Nat)) (csR j) (snR k (j + 1)) B ∧ Stable w w' := by
  have := PushRS h (by omega) (by omega) (by omega) (by omega)
  rw [snR_push, snR_tick, snR_length, show t + ((j - k : Nat) : Int) + ((min j k : Nat) : Int) = t + j by omega] at this
  exact this
theorem Set_round {p mp : Value} {k j B : Nat} {t : Int} {sn : List (List Int)} (h : RSt w L p mp k t (csR j) sn B) (hB : B ≤ 30) :
    Calls Try.prog 13 #[mp, i64 0, i64 j] w fun e w' => e = .returned (.tuple #[]) ∧ RSt w' L p mp k t (csR (j + 1)) sn (B + 1) ∧ Stable w w' := by
  have := SetRS h (by omega) 0 j
  rw [csR_set] at this
  exact this

set_option maxRecDepth 100000 in
set_option maxHeartbeats 4000000 in
theorem ringlogRange_walk {keep many first : Int} (hk : inI64 keep) (hm : inI64 many) (hf : inI64 first) :
    Calls Try.prog 3 #[i64 keep, i64 many, i64 first] w fun e w' => e = .returned (.bool true) ∧ Below w.heap.size w w' := by
  have hK := fun w => keeps_spec keep w hk
  have hA := fun w => Around_spec first 1000 w (by omega) (by omega) hf
  have hN := fun w => Around_spec many 30 w (by omega) (by omega) hm
  have k0 : 0 ≤ around keep 13 := around_lo (by omega)
  have k1 : around keep 13 < 13 := around_hi (by omega)
  have t0 : 0 ≤ around first 1000 := around_lo (by omega)
  have t1 : around first 1000 < 1000 := around_hi (by omega)
  have n0 : 0 ≤ around many 30 := around_lo (by omega)
  have n1 : around many 30 < 30 := around_hi (by omega)
  generalize around first 1000 = t at *
  obtain ⟨n, hn⟩ := Int.eq_ofNat_of_zero_le n0
  obtain ⟨k, hk⟩ : ∃ k : Nat, 1 + around keep 13 = k := Int.eq_ofNat_of_zero_le (by omega)
  rw [hn] at hN n0 n1
  rw [hk] at hK
  have kb : 1 ≤ k ∧ k ≤ 13 := by omega
  have HA := Lib.hid hA
  have HN := Lib.hid hN
  have HK := Lib.hid hK
  clear hA hN hK hn hk k0 k1
  go_enter Try.func3, Try.ntmps3
  go_wp2_with fail
  refine (HK.out _).mono ?_
  rintro e w2 ⟨rfl, rfl⟩
  go_wp2_with fail
  refine (HN.out _).mono ?_
  rintro e w2 ⟨rfl, rfl⟩
  go_wp2_with fail
  refine (HA.out _).mono ?_
  rintro e w2 ⟨rfl, rfl⟩
  go_wp2_with fail
  go_loopw [10] (fun v wr => ∃ i : Nat, i ≤ n ∧ v = .int .i64 i ∧ Sep wr [old w] ∧ Stable w wr) (fun v _ => n - (intOf v).toNat)
  case atStart => exact ⟨0, by omega, rfl, Sep.start w, Stable.refl w⟩
  case round =>
    obtain ⟨i, hi, rfl, hSr, hst⟩ := hrel
    have hcase : i < n ∨ i = n := by omega
    rcases hcase with hlt | heq
    · have HS := Lib.hid (And.intro hSr hst)
      clear hSr hst
      go_wp2_with fail
      refine (made_spec HS.out.1 k).mono ?_
      rintro e w1 ⟨p0, m0, rfl, hS1, hst1⟩
      have H1 := Lib.hid (And.intro (RSt.made t (by omega) hS1) (HS.out.2.trans hst1))
      clear hS1 hst1
      go_wp2_with fail
      go_loopw [13] (fun v wr => ∃ j : Nat, j ≤ n ∧ v = .int .i64 j ∧ RSt wr [old w] (.pointer (some ⟨p0, 0, none⟩)) (.pointer (some ⟨m0, 0, none⟩)) k (t + (j - k : Nat)) (csR j) (snR k j) j ∧ Stable w wr) (fun v _ => n - (intOf v).toNat)
      case atStart => exact ⟨0, by omega, rfl, by have := H1.out.1; simpa [csR, snR] using this, H1.out.2⟩
      case round =>
        clear H1 HS
        obtain ⟨j, hj, rfl, hSj, hstj⟩ := hrel
        have hcase : j < n ∨ j = n := by omega
        rcases hcase with hjn | hjn
        · have HP := Lib.hid (And.intro hSj hstj)
          clear hSj hstj
          go_wp2_with fail
          refine (Push_round HP.out.1 kb (by omega) (by omega) ⟨t0, t1⟩).mono ?_
          rintro e w3 ⟨rfl, hS3, hst3⟩
          have H3 := Lib.hid (And.intro hS3 (HP.out.2.trans hst3))
          clear hS3 hst3
          go_wp2_with fail
          refine (Set_round H3.out.1 (by omega)).mono ?_
          rintro e w4 ⟨rfl, hS4, hst4⟩
          have H4 := Lib.hid (And.intro hS4 (H3.out.2.trans hst4))
          clear hS4 hst4
          go_wp2_with fail
          exact ⟨⟨j + 1, by omega, by go_num, H4.out.1, H4.out.2⟩, by simp [intOf]; omega⟩
        · subst hjn
          have hlen := snR_length k j
          have HP := Lib.hid (And.intro hSj hstj)
          have hO := OldestRS hSj (by omega) (by omega)
          have hNw := NewestRS hSj (by omega) (by omega)
          rw [hlen] at hNw
          have HO := Lib.hid (And.intro hO hNw)
          clear hSj hstj hO hNw hlen
          go_wp2_with fail
          refine HO.out.1.mono ?_
          rintro e w3 ⟨rfl, rfl⟩
          go_wp2_with fail
          all_goals
            refine HO.out.2.mono ?_
            rintro e w3 ⟨rfl, n3, rfl⟩
            have H3 := Lib.hid (And.intro (HP.out.1.drewN n3) (HP.out.2.drewN n3))
            clear HO HP
            generalize World.drewN _ n3 = w3 at H3 ⊢
            by_cases hkp : j ≤ i + k
            · have hR := RewRS H3.out.1 (by omega) (by omega) (i - (j - k)) (by rw [snR_length]; omega)
              rw [snR_get _ _ _ (by omega), show j - k + (i - (j - k)) = i by omega, show t + ((j - k : Nat) : Int) + ((i - (j - k) : Nat) : Int) = t + i by omega] at hR
              have HR := Lib.hid hR
              clear hR
              go_wp2_with fail
              refine HR.out.mono ?_
              rintro e w4 ⟨rfl, hS4, hst4⟩
              have H4 := Lib.hid (And.intro hS4 (H3.out.2.trans hst4))
              clear hS4 hst4
              have hG := GetRS H4.out.1 0
              rw [csR_get] at hG
              by_cases hi0 : i = 0
              · subst hi0
                rw [if_pos rfl] at hG
                have HG := Lib.hid hG
                clear hG
                go_wp2_with fail
                all_goals
                  refine HG.out.mono ?_
                  rintro e w5 ⟨rfl, rfl⟩
                  go_wp2_with fail
                  refine (flag_spec true _).mono ?_
                  rintro e w5 ⟨rfl, rfl⟩
                  go_wp2_with fail
                  exact ⟨⟨1, by omega, by go_num, H4.out.1.drop, H4.out.2⟩, by simp [intOf] <;> omega⟩
              · rw [if_neg hi0] at hG
                have HG := Lib.hid hG
                clear hG
                go_wp2_with fail
                refine HG.out.mono ?_
                rintro e w5 ⟨rfl, rfl⟩
                go_wp2_with fail
                rw [show ((i : Int) == 0) = false by rw [beq_eq_false_iff_ne]; omega]
                refine (flag_spec false _).mono ?_
                rintro e w5 ⟨rfl, rfl⟩
                go_wp2_with fail
                exact ⟨⟨i + 1, by omega, by go_num, H4.out.1.drop, H4.out.2⟩, by simp [intOf]; omega⟩
            · have hR := OldRS H3.out.1 (by omega) (by rw [snR_length]; omega) (t + i) (by omega)
              have HR := Lib.hid hR
              clear hR
              go_wp2_with fail
              all_goals
                refine HR.out.mono ?_
                rintro e w4 ⟨rfl, hS4, hst4⟩
                have H4 := Lib.hid (And.intro hS4 (H3.out.2.trans hst4))
                clear hS4 hst4
                go_wp2_with fail
                exact ⟨⟨i + 1, by omega, by go_num, H4.out.1.drop, H4.out.2⟩, by simp [intOf]; omega⟩
    · have HS := Lib.hid (And.intro hSr hst)
      clear hSr hst
      go_wp2_with fail
      refine (lives_spec HS.out.1).mono ?_
      rintro e w7 ⟨rfl, hS7, hst7⟩
      have H7 := Lib.hid (And.intro hS7 (HS.out.2.trans hst7))
      clear hS7 hst7
      go_wp2_with fail
      go_ret
      exact ⟨rfl, Sep.below H7.out.1 H7.out.2⟩

end Go.Proofs.Ytfhjdfllkjjldaa
