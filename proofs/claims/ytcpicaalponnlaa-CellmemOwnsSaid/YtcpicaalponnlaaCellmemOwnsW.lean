/- The walk of the law CellmemOwns. -/
import Derived.Test.YtcpicaalponnlaaLives
import Derived.Test.YtcpicaalponnlaaOps
namespace Go.Proofs.Ytcpicaalponnlaa
open Go.RowKit Go.Sl

variable {w : World} {L : List Asn}

theorem small6 (cs : List Int) (h : cs.length = 6) : Small cs 0 [] := ⟨by omega, by omega, by simp, by simp⟩

set_option maxRecDepth 100000 in
set_option maxHeartbeats 2000000 in
theorem cellmemOwns_walk {u v : Value} {cells l : List Int} (hu : readsI w u cells) (bu : cells.length ≤ 9223372036854775807) (_ : ∀ x ∈ cells, inI64 x)
    (hv : readsI w v l) (bv : l.length ≤ 9223372036854775807) (wv : ∀ x ∈ l, inI64 x) :
    Calls Try.prog 3 #[u, v] w fun e w' => e = .returned (.bool true) ∧ Below w.heap.size w w' := by
  obtain ⟨au, cu, rfl⟩ := readsI_len hu
  obtain ⟨av, cv, rfl⟩ := readsI_len hv
  have HU := Lib.hid hu
  have HV := Lib.hid hv
  clear hu hv
  go_enter Try.func3, Try.ntmps3
  go_wp2_with fail
  refine (six_spec HU.out bu).mono ?_
  rintro e w1 ⟨v1, rfl, hS1, hst1⟩
  go_wp2_with fail
  refine (New_spec hS1.reads (by rw [sixL_length]; omega)).mono ?_
  rintro e w2 ⟨p, rfl, hS2, hst2, hp⟩
  have hS2 := hS1.mount hS2
  have hst2 := hst1.trans hst2
  obtain ⟨p0, _, _, _, _, rfl, _⟩ := mem_cells hS2
  clear hp
  go_wp2_with fail
  refine (six_spec (HU.out.of_heap (hS2.pick 2).oldGet) bu).mono ?_
  rintro e w3 ⟨v3, rfl, hS3, hst3⟩
  have hS3 := hS2.mount (hS3.pick 1)
  have hst3 := hst2.trans hst3
  -- own[0] = own[0] + 1
  obtain ⟨g1, c1, hv1, _, _, hc1, hf1, _, hset1⟩ := (hS3.pick 2).rowAt (by rw [sixL_length]; omega)
  rw [sixL_length] at hv1
  subst hv1
  have x1 := (hc1 0 (by rw [ints_length, sixL_length]; omega)).trans (ints_get _ _ (by rw [sixL_length]; omega))
  have y1 := hf1 0
  have hS4 := hset1 0 (i64 (wrap64 ((sixL cells).getD 0 0 + 1))) (by rw [ints_length, sixL_length]; omega)
  have HS4 := Lib.hid hS4
  clear hc1 hf1 hset1 hS4 hS3 hS2 hS1
  generalize (sixL cells).getD 0 0 = z at *
  go_wp2_with fail
  have hS5 := HS4.out.drop
  have hst5 := hst3.setCell ⟨g1, 0, none⟩ (i64 (wrap64 (z + 1)))
  have hsm := small6 (sixL cells) (sixL_length cells)
  clear HS4
  generalize w3.setCell ⟨g1, 0, none⟩ (.int .i64 (wrap64 (z + 1))) = w4 at hS5 hst5 ⊢
  refine (Cells_spec (hS5.pick 1) hsm).mono ?_
  rintro e w5 ⟨va, rfl, hS6, hst6⟩
  have hst6 := hst5.trans hst6
  go_wp2_with fail
  refine (SameInts_spec hS6.reads (hS6.pick 2).reads (by rw [sixL_length]; omega) (by rw [sixL_length]; omega)).mono ?_
  rintro e w6 ⟨rfl, n6, rfl⟩
  rw [sameE_self]
  -- a[1] = a[1] + 1
  have hS7 := hS6.drewN n6
  have hst7 := hst6.drewN n6
  generalize w5.drewN n6 = w6 at hS7 hst7 ⊢
  obtain ⟨g2, c2, hv2, _, _, hc2, hf2, _, hset2⟩ := hS7.rowAt (by rw [sixL_length]; omega)
  rw [sixL_length] at hv2
  subst hv2
  have x2 := (hc2 1 (by rw [ints_length, sixL_length]; omega)).trans (ints_get _ _ (by rw [sixL_length]; omega))
  have y2 := hf2 1
  have hS8 := hset2 1 (i64 (wrap64 ((sixL cells).getD 1 0 + 1))) (by rw [ints_length, sixL_length]; omega)
  have HS8 := Lib.hid hS8
  clear hc2 hf2 hset2 hS8 hS6 hS7
  generalize (sixL cells).getD 1 0 = z2 at *
  go_wp2_with fail
  have hS9 := HS8.out.drop
  have hst9 := hst7.setCell ⟨g2, 1, none⟩ (i64 (wrap64 (z2 + 1)))
  clear HS8
  generalize w6.setCell ⟨g2, 1, none⟩ (.int .i64 (wrap64 (z2 + 1))) = w7 at hS9 hst9 ⊢
  refine (Set_spec hS9 hsm (by decide) 2 5).mono ?_
  rintro e w8 ⟨rfl, hS10, hst10⟩
  have hst10 := hst9.trans hst10
  have hh2 : hasB (sixL cells) 2 = true := by rw [hasB_iff, sixL_length]; omega
  have e1 : setC (sixL cells) 2 5 = (sixL cells).set 2 5 := by simp [setC, hh2]
  have e2 : setL (sixL cells) [] 2 = [(2, (sixL cells).getD 2 0)] := by simp [setL, hh2]
  rw [e1, e2] at hS10
  have hlen : ((sixL cells).set 2 5).length = 6 := by rw [List.length_set, sixL_length]
  have hsm2 : Small ((sixL cells).set 2 5) 0 [(2, (sixL cells).getD 2 0)] := ⟨by omega, by omega, by simp, by
    intro x hx
    obtain rfl : x = _ := by simpa using hx
    rw [hasB_iff, hlen]; omega⟩
  have hch : changedL ((sixL cells).set 2 5) ([(2, (sixL cells).getD 2 0)].drop ((0 : Int) - 0).toNat) = [2] := by
    show upTo _ ((sixL cells).set 2 5).length = _
    rw [hlen]; rfl
  have HE := Lib.hid (And.intro hlen hch)
  clear e1 e2 hlen hch hh2
  go_wp2_with fail
  refine (Changed_ok hS10 hsm2 0 (by omega) (by simp)).mono ?_
  rintro e w9 ⟨vb, rfl, hS11, hst11⟩
  rw [HE.out.2] at hS11
  have hst11 := hst10.trans hst11
  obtain ⟨g3, c3, hv3, _, _, hc3, hf3, _, hset3⟩ := hS11.rowAt (by decide)
  subst hv3
  have x3 : w9.cell? ⟨g3, 0, none⟩ = some (i64 2) := hc3 0 (by decide)
  have y3 := hf3 0
  have hS12 := hset3 0 (i64 4) (by decide)
  have HS12 := Lib.hid hS12
  clear hc3 hf3 hset3 hS12 hS11 hS10 hS9
  go_wp2_with fail
  have hS13 := HS12.out.drop
  have hst13 := hst11.setCell ⟨g3, 0, none⟩ (i64 4)
  clear HS12
  generalize w9.setCell ⟨g3, 0, none⟩ (.int .i64 4) = w10 at hS13 hst13 ⊢
  refine (Changed_ok hS13 hsm2 0 (by omega) (by simp)).mono ?_
  rintro e w11 ⟨vc, rfl, hS14, hst14⟩
  rw [HE.out.2] at hS14
  have hst14 := hst13.trans hst14
  -- was[2] = 5
  obtain ⟨g4, c4, hv4, _, _, hc4, hf4, _, hset4⟩ := (hS14.pick 2).rowAt (by rw [sixL_length]; omega)
  rw [sixL_length] at hv4
  subst hv4
  have x4 := (hc4 2 (by rw [ints_length, sixL_length]; omega)).trans (ints_get _ _ (by rw [sixL_length]; omega))
  have y4 := hf4 2
  have hS15 := hset4 2 (i64 5) (by rw [ints_length, sixL_length]; omega)
  rw [ints_set] at hS15
  have HS15 := Lib.hid hS15
  clear hc4 hf4 hset4 hS15 hS14 hS13
  generalize (sixL cells).getD 2 0 = z4 at *
  go_wp2_with fail
  have hS16 := HS15.out.allocBeside (.cells #[i64 2] 3)
  have hst16 := (hst14.setCell ⟨g4, 2, none⟩ (i64 5)).alloc (.cells #[i64 2] 3)
  have hlit := reads_lit (w11.setCell ⟨g4, 2, none⟩ (i64 5)) [2] (by decide)
  rw [World.size_setCell] at hlit
  have hlit : readsI ((w11.setCell ⟨g4, 2, none⟩ (i64 5)).alloc (.cells #[i64 2] 3)) (.slice (some ⟨w11.heap.size, 0, none⟩) 1 1) [2] := hlit
  clear HS15
  generalize (w11.setCell ⟨g4, 2, none⟩ (.int .i64 5)).alloc (.cells #[.int .i64 2] 3) = w12 at hS16 hst16 hlit ⊢
  refine (SameInts_spec (hS16.pick 1).reads hlit (by decide) (by decide)).mono ?_
  rintro e w13 ⟨rfl, n13, rfl⟩
  rw [sameE_self]
  have hS17 := (hS16.pick 2).drewN n13
  have hst17 := hst16.drewN n13
  clear hlit hS16
  generalize w12.drewN n13 = w13 at hS17 hst17 ⊢
  go_wp2_with fail
  refine (Cells_spec hS17 hsm2).mono ?_
  rintro e w14 ⟨vd, rfl, hS18, hst18⟩
  have hst18 := hst17.trans hst18
  go_wp2_with fail
  have hwas : readsI w14 (.slice (some ⟨g4, 0, none⟩) 6 c4) ((sixL cells).set 2 5) := by
    have := (hS18.pick 2).reads
    show readsAs w14 1 _ ((sixL cells).set 2 5).length _
    rw [HE.out.1]
    rw [sixL_length] at this
    exact this
  refine (SameInts_spec hS18.reads hwas (by rw [HE.out.1]; omega) (by rw [HE.out.1]; omega)).mono ?_
  rintro e w15 ⟨rfl, n15, rfl⟩
  rw [sameE_self]
  have hS19 := (hS18.pick 4).drewN n15
  have hst19 := hst18.drewN n15
  clear hwas hS18 hS17
  generalize w14.drewN n15 = w15 at hS19 hst19 ⊢
  go_wp2_with fail
  refine (Ops_spec (HV.out.of_heap hS19.oldGet) bv wv).mono ?_
  rintro e w16 ⟨ve, rfl, hS20, hst20⟩
  have hS21 := hS19.mount (hS20.pick 1)
  have hst21 := hst19.trans hst20
  have hol : (opsL l).length ≤ 30 := by
    by_cases h : 30 ≤ l.length
    · have := (opsUp_ok l 30 h).1; show (opsUp l 30).1.length ≤ 30; omega
    · have h2 := opsUp_end l l.length (.inl ⟨rfl, by omega⟩)
      rw [← h2, (opsUp_ok l l.length (Nat.le_refl _)).1]; omega
  obtain ⟨ae, ce, rfl, _⟩ := hS21.rowShape
  clear hS20
  generalize (opsL l).length = nl at *
  go_wp2_with fail
  refine (lives_spec hS21).mono ?_
  rintro e w17 ⟨rfl, hS22, hst22⟩
  have hst22 := hst21.trans hst22
  go_wp2_with fail
  go_ret
  exact ⟨rfl, (hS22.pick 1).below hst22⟩

end Go.Proofs.Ytcpicaalponnlaa
