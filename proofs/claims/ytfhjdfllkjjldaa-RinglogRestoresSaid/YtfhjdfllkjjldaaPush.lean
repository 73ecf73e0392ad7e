/- Contracts: Push. -/
import Derived.Test.YtfhjdfllkjjldaaRing
import Derived.Deep.RegionLaw
import Derived.Test.YtfhjdfllkjjldaaDag
import Derived.Deep.CutRange
namespace Go.Proofs.Ytfhjdfllkjjldaa
open Go.RowKit Go.Sl

variable {w : World} {L : List Asn} {p mp : Value} {keep : Int} {es : List (Int × Int)} {cs : List Int} {base : Int} {log : List (Int × Int)}

/-- The entries from the k-th on, read out of an owned row. -/
theorem dropG_reads {g cap : Nat} {l : List (Int × Int)} (h : Sep w (rowR (.slice (some ⟨g, 0, none⟩) l.length cap) l :: L)) (k c : Nat) (hk : k ≤ l.length) (hc : l.length - k ≤ c) (hm : c ≤ maxLen) :
    readsAs w 2 (.slice (some ⟨g, k * 2, none⟩) (l.length - k) c) (l.drop k).length (ents (l.drop k)) := by
  rcases h.casesG with ⟨hv, _⟩ | ⟨g', cap', cur, hv, h1, h2, h3, h4, h5, h6⟩
  · cases hv
  · obtain ⟨rfl, rfl⟩ : g = g' ∧ cap = cap' := by simpa using hv
    refine ⟨ents_length _, .inr ⟨g, k * 2, c, by rw [List.length_drop], by rw [List.length_drop]; exact hc, hm, fun i hi => ?_⟩⟩
    rw [ents_length, List.length_drop] at hi
    rw [cell_of_blk h6.get, take_getElem? h4 (by omega), ents_drop, List.getElem?_drop]
theorem wr1 {x : Int} (h : x = 1) : IntKind.i64.wrap x = 1 := by subst h; rfl

set_option maxRecDepth 100000 in
set_option maxHeartbeats 2000000 in
theorem Push_neg (hS : Sep w (ring p mp keep es :: L)) (tick : Int) (ht : tick < 0) :
    Calls Try.prog 12 #[p, i64 tick] w fun e w' => e = .returned (i64 6) ∧ w = w' := by
  obtain ⟨p0, ev, rfl, hS1⟩ := ring_open hS
  clear hS hS1
  go_enter Try.func12, Try.ntmps12
  go_wp2_with fail
  go_ret
  exact ⟨rfl, rfl⟩

set_option maxRecDepth 100000 in
set_option maxHeartbeats 2000000 in
theorem Push_order (hS : Sep w (ring p mp keep es :: L)) (hl : es.length ≤ 1000000000000) (hnew : -1000000 ≤ newest es ∧ newest es ≤ 1000000000000) (tick : Int) (ht : 0 ≤ tick) (h0 : 0 < es.length) (hne : tick ≠ newest es + 1) :
    Calls Try.prog 12 #[p, i64 tick] w fun e w' => e = .returned (i64 5) ∧ ∃ n, w' = w.drewN n := by
  have hN := Newest_spec hS hl
  obtain ⟨p0, ev, rfl, hS1⟩ := ring_open hS
  obtain ⟨a, cap, rfl, _, _, _⟩ := (hS1.pick 1).shapeG
  have c2 : w.cell? ⟨p0, 2, none⟩ = some (.slice a es.length cap) := cell_of_blk hS1.get 2
  have HN := Lib.hid hN
  obtain ⟨n0, n1⟩ := hnew
  clear hS hS1 hN
  generalize newest es = nw at *
  generalize es.length = n at *
  have g1 : (tick != nw + 1) = true := by rw [bne_iff_ne]; exact hne
  have HNE := Lib.hid hne
  clear hne
  go_enter Try.func12, Try.ntmps12
  go_wp2_with fail
  refine HN.out.mono ?_
  rintro e w1 ⟨rfl, n2, rfl⟩
  go_wp2_with fail
  go_ret
  exact ⟨rfl, n2, rfl⟩

/-- What a Push that is accepted leaves. -/
def pushPost (p mp : Value) (keep : Int) (es : List (Int × Int)) (tick : Int) (cs : List Int) (base : Int) (log : List (Int × Int)) (L : List Asn) (w w' : World) : Prop :=
  (if (es.length : Int) < keep then Sep w' (ring p mp keep (es ++ [(tick, base + log.length)]) :: mem mp cs base log :: L)
   else Sep w' (ring p mp keep ((es ++ [(tick, base + log.length)]).drop 1) :: mem mp cs (((es ++ [(tick, base + log.length)]).getD 1 (0, 0)).2) (log.drop (((es ++ [(tick, base + log.length)]).getD 1 (0, 0)).2 - base).toNat) :: L)) ∧ Stable w w'

set_option maxRecDepth 100000 in
set_option maxHeartbeats 4000000 in
theorem Push_acc (hS : Sep w (ring p mp keep es :: mem mp cs base log :: L)) (hb : Small cs base log) (hl : es.length ≤ 1000000) (hnew : -1000000 ≤ newest es ∧ newest es ≤ 1000000000000) (tick : Int) (ht : 0 ≤ tick) (hok : 0 < es.length → tick = newest es + 1) (hk : (es.length : Int) ≤ keep) (hk1 : 1 ≤ keep) (hk2 : keep ≤ 1000000)
    (hmk : 0 < es.length → base ≤ ((es ++ [(tick, base + log.length)]).getD 1 (0, 0)).2 ∧ ((es ++ [(tick, base + log.length)]).getD 1 (0, 0)).2 ≤ base + log.length) :
    Calls Try.prog 12 #[p, i64 tick] w fun e w' => e = .returned (i64 0) ∧ pushPost p mp keep es tick cs base log L w w' := by
  have hN := Newest_spec hS (by omega)
  have hM := fun (W : World) (M : List Asn) (hW : Sep W (mem mp cs base log :: M)) => Mark_spec hW hb
  have hpos := hb.position
  have hlow := hb.low
  obtain ⟨m0, _, _, _, _, rfl, _⟩ := mem_cells (hS.pick 1)
  obtain ⟨p0, ev, rfl, hS1⟩ := ring_open hS
  obtain ⟨a, cap, rfl, _, _, _⟩ := (hS1.pick 1).shapeG
  have c2 : w.cell? ⟨p0, 2, none⟩ = some (.slice a es.length cap) := cell_of_blk hS1.get 2
  have c0 : w.cell? ⟨p0, 0, none⟩ = some (.pointer (some ⟨m0, 0, none⟩)) := cell_of_blk hS1.get 0
  have H1 := Lib.hid (And.intro hS1 (And.intro hN hM))
  obtain ⟨n0, n1⟩ := hnew
  obtain ⟨iR, hR, hR0, hR1, hR2⟩ := info_parts infoR
  have hp0 := hl_lt hS1.get
  have HOK := Lib.hid (And.intro hok hmk)
  clear hS hS1 hN hM hok hmk
  go_enter Try.func12, Try.ntmps12
  go_upto_region 3 with fail
  go_cut [9] from 10 to 22 (fun x9 wx => x9 = .bool false ∧ ∃ n, wx = w.drewN n)
  case first =>
    by_cases hz : es.length = 0
    · have c2' := c2
      rw [hz] at c2'
      clear c2
      go_wp2_with fail
      go_meet
      exact ⟨rfl, 0, rfl⟩
    · have g1 : (tick != newest es + 1) = false := by rw [bne_eq_false_iff_eq]; exact HOK.out.1 (by omega)
      have hzp : 0 < es.length := by omega
      generalize newest es = nw at *
      go_wp2_with fail
      refine H1.out.2.1.mono ?_
      rintro e w1 ⟨rfl, n2, rfl⟩
      go_wp2_with fail
      go_meet
      exact ⟨rfl, n2, rfl⟩
  case rest =>
    obtain ⟨rfl, n2, rfl⟩ := hcut
    have c2a : ∀ k o, ((w.drewN k).alloc o).cell? ⟨p0, 2, none⟩ = some (.slice a es.length cap) := fun k o => cell_alloc (w := w.drewN k) c2 o
    have c0a : ∀ k o, ((w.drewN k).alloc o).cell? ⟨p0, 0, none⟩ = some (.pointer (some ⟨m0, 0, none⟩)) := fun k o => cell_alloc (w := w.drewN k) c0 o
    go_upto_region 5 with fail
    go_cut [] from 23 to 38 (fun wx => ∃ a' cap', Sep wx (pts p0 (.cells #[.pointer (some ⟨m0, 0, none⟩), i64 keep, .slice a' (es.length + 1) cap'] 57) :: rowR (.slice a' (es.length + 1) cap') (es ++ [(tick, base + log.length)]) :: mem (.pointer (some ⟨m0, 0, none⟩)) cs base log :: L) ∧ Stable w wx)
    case first =>
      go_region_law (first | (refine step_append_G rfl (.tmp 27) (.tmp 35) 55 55 rfl 59 iR _ 2 16 Try.underlying55 hR hR0 hR1 hR2 rfl _ es.length (ents es) rfl (Sep.allocBeside (Sep.drewN (H1.out.1.pick 1) _) _) 1 [i64 tick, i64 (base + log.length)] (Src.ofSlice _ Try.underlying55 ⟨_, 0, none⟩ 1 1 _ rfl (fun j u hu => by rw [Addr.add_lit, Nat.zero_add]; exact (cell_of_blk (heap_alloc_at (w.drewN _) _) j).trans (by simpa using hu)) (ents_one [(tick, base + log.length)])) (by omega) (by unfold maxLen; omega) (by omega) ?_; intro v' w4 hS4 hst4; obtain ⟨a', cap', rfl, _⟩ := hS4.shapeG; have c2 := cell_of_blk (hS4.pick 1).get 2; simp at c2; have fz := frozen_of_blk (hS4.pick 1).get) | (go_simp; refine (H1.out.2.2 _ _ (Sep.pick 2 (Sep.drew (Sep.drewN H1.out.1 _)))).mono ?_; rintro e w1 ⟨rfl, n5, rfl⟩))
      all_goals
        have hS5 := (hS4.pick 1).setCell 2 (.slice a' (es.length + 1) cap')
        simp only [List.setIfInBounds_toArray, List.set_cons_succ, List.set_cons_zero, ents_snoc] at hS5
        have hst5 := (((Stable.refl w).drewN _).alloc _).trans hst4 |>.setCell ⟨p0, 2, none⟩ (.slice a' (es.length + 1) cap')
        have H5 := Lib.hid (And.intro hS5 hst5)
        clear hS4 hst4 hS5 hst5 c2a c0a
        go_wp2_with fail
        go_meet
        exact ⟨a', cap', by rw [show rowR (.slice a' (es.length + 1) cap') (es ++ [(tick, base + log.length)]) = rowG 59 2 (.slice a' (es.length + 1) cap') (es.length + 1) (ents (es ++ [(tick, base + log.length)])) by rw [rowR, List.length_append]; rfl]; exact H5.out.1, H5.out.2⟩
    case rest =>
      obtain ⟨a', cap', hS6, hst6⟩ := hcut
      have c2b : wc.cell? ⟨p0, 2, none⟩ = some (.slice a' (es.length + 1) cap') := cell_of_blk hS6.get 2
      have c1b : wc.cell? ⟨p0, 1, none⟩ = some (i64 keep) := cell_of_blk hS6.get 1
      have H6 := Lib.hid (And.intro hS6 hst6)
      clear c2 c0 c2a c0a hS6 hst6
      by_cases hin : (es.length : Int) < keep
      · go_wp2_with fail
        go_ret
        exact ⟨rfl, by unfold pushPost; rw [if_pos hin]; exact ⟨ring_shut H6.out.1, H6.out.2⟩⟩
      · have hPP : ∀ w', Sep w' (ring (.pointer (some ⟨p0, 0, none⟩)) (.pointer (some ⟨m0, 0, none⟩)) keep ((es ++ [(tick, base + log.length)]).drop 1) :: mem (.pointer (some ⟨m0, 0, none⟩)) cs (((es ++ [(tick, base + log.length)]).getD 1 (0, 0)).2) (log.drop (((es ++ [(tick, base + log.length)]).getD 1 (0, 0)).2 - base).toNat) :: L) → Stable w w' → pushPost (.pointer (some ⟨p0, 0, none⟩)) (.pointer (some ⟨m0, 0, none⟩)) keep es tick cs base log L w w' := fun w' h1 h2 => by unfold pushPost; rw [if_neg hin]; exact ⟨h1, h2⟩
        have HPP := Lib.hid hPP
        clear hPP
        obtain ⟨N, hN⟩ : ∃ N : Nat, N = es.length + 1 := ⟨_, rfl⟩
        have hNk : (N : Int) = keep + 1 := by omega
        have hlen : (es ++ [(tick, base + log.length)]).length = N := by rw [List.length_append, hN]; rfl
        rw [← hN] at H6 c2b
        obtain ⟨hm1, hm2⟩ := HOK.out.2 (by omega)
        generalize hes1 : es ++ [(tick, base + log.length)] = es1 at *
        have q1 : IntKind.i64.wrap ((N : Int) - keep) = 1 := wr1 (by omega)
        have hN2 : 2 ≤ N := by omega
        have HNN := Lib.hid (And.intro hN (And.intro hNk (And.intro hlen (And.intro hm1 hm2))))
        have hN3 : N ≤ 1000001 := by omega
        clear hN hNk hlen hm1 hm2 hes1 hin
        have hgt : decide (keep < (N : Int)) = true := by rw [decide_eq_true_iff]; have := HNN.out.2.1; omega
        obtain ⟨g, rfl⟩ : ∃ g, a' = some ⟨g, 0, none⟩ := by
          rcases (H6.out.1.pick 1).casesG with ⟨hv, _⟩ | ⟨g, c', cur, hv, _⟩
          · simp at hv; have := HNN.out.2.2.1; omega
          · simp at hv; exact ⟨g, hv.1⟩
        have hcap : N ≤ cap' := by
          rcases (H6.out.1.pick 1).casesG with ⟨hv, _⟩ | ⟨g, c', cur, hv, h1, _⟩
          · simp at hv
          · simp at hv; have := HNN.out.2.2.1; omega
        have hrow := H6.out.1.pick 1
        rw [← HNN.out.2.2.1] at hrow
        have hcm : cap' ≤ maxLen := by
          rcases hrow.casesG with ⟨hv, _⟩ | ⟨g', c', cur, hv, _, h2, _⟩
          · simp at hv
          · simp at hv; omega
        have hrd := dropG_reads hrow 1 (N - 1) (by rw [HNN.out.2.2.1]; omega) (by rw [HNN.out.2.2.1]; omega) (by omega)
        rw [HNN.out.2.2.1] at hrd
        have hrd : readsAs wc 2 (.slice (some ⟨g, 2, none⟩) (N - 1) (N - 1)) (es1.drop 1).length (ents (es1.drop 1)) := hrd
        have hcl := fun (W : World) (hk : ∀ k, k < wc.heap.size → W.heap[k]? = wc.heap[k]?) => CloneR_spec (w := W) (hrd.of_heap hk) (by rw [List.length_drop, HNN.out.2.2.1]; omega)
        have HCL := Lib.hid hcl
        have hp0' := hl_lt H6.out.1.get
        have q2 : (1 : Int) ≤ (N : Int) := by omega
        have q3 : ¬ (N = 1) := by omega
        have q4 : (N : Int) ≤ (cap' : Int) := by omega
        clear hrow hrd hcl
        go_upto_region 8 with fail
        go_cut [] from 50 to 66 (fun wx => ∃ a7 cap7, Sep wx (pts p0 (.cells #[.pointer (some ⟨m0, 0, none⟩), i64 keep, .slice a7 (N - 1) cap7] 57) :: rowR (.slice a7 (N - 1) cap7) (es1.drop 1) :: mem (.pointer (some ⟨m0, 0, none⟩)) cs base log :: L) ∧ Stable w wx)
        case first =>
          go_region_law (first | (go_simp; refine (HCL.out wc.drew (fun k hk => rfl)).mono ?_; rintro e w7 ⟨v7, rfl, hS7, hst7⟩; have hS8 := H6.out.1.drew.mount (hS7.pick 0); have hl7 : (es1.drop 1).length = N - 1 := (by rw [List.length_drop, HNN.out.2.2.1]); obtain ⟨a7, cap7, rfl, _⟩ := hS8.rowShape; rw [hl7] at hS8 ⊢; have HL7 := Lib.hid hl7; clear hl7; have c2c := cell_of_blk (hS8.pick 1).get 2; simp at c2c; have fz := frozen_of_blk (hS8.pick 1).get))
          all_goals
            have hS9 := (hS8.pick 1).setCell 2 (.slice a7 (N - 1) cap7)
            simp only [List.setIfInBounds_toArray, List.set_cons_succ, List.set_cons_zero] at hS9
            have hst9 := (H6.out.2.drew.trans hst7).setCell ⟨p0, 2, none⟩ (.slice a7 (N - 1) cap7)
            have hS10 := ((hS9.pick 2).drop.pick 1).rowG.pick 1
            have H10 := Lib.hid (And.intro hS10 hst9)
            clear hS7 hst7 hS8 hS9 hS10 hst9
            go_wp2_with fail
            go_meet
            exact ⟨a7, cap7, H10.out.1, H10.out.2⟩
        case rest =>
          obtain ⟨a7, cap7, hS7, hst7⟩ := hcut
          have hl7 : (es1.drop 1).length = N - 1 := by rw [List.length_drop, HNN.out.2.2.1]
          have hrd := (hS7.pick 1).readsG
          rw [hl7] at hrd
          have hrd2 : readsAs wc 2 (.slice a7 (es1.drop 1).length cap7) (es1.drop 1).length (ents (es1.drop 1)) := by rw [hl7]; exact hrd
          obtain ⟨b, off, rfl, hcc⟩ := ents_cell hrd2 (by omega)
          have d1 := (hcc 0 (by omega)).2
          rw [show (es1.drop 1).getD 0 (0, 0) = es1.getD 1 (0, 0) by rw [List.getD_eq_getElem?_getD, List.getElem?_drop, List.getD_eq_getElem?_getD]] at d1
          simp only [Nat.zero_mul, Nat.add_zero] at d1
          have c2c : wc.cell? ⟨p0, 2, none⟩ = some (.slice (some ⟨b, off, none⟩) (N - 1) cap7) := cell_of_blk hS7.get 2
          have c0c : wc.cell? ⟨p0, 0, none⟩ = some (.pointer (some ⟨m0, 0, none⟩)) := cell_of_blk hS7.get 0
          generalize hmm : (es1.getD 1 (0, 0)).2 = mm at *
          have hdi := fun (W : World) (M : List Asn) (hW : Sep W (mem (.pointer (some ⟨m0, 0, none⟩)) cs base log :: M)) => Discard_ok hW hb mm HNN.out.2.2.2.1 HNN.out.2.2.2.2
          have HDI := Lib.hid hdi
          have H7 := Lib.hid (And.intro hS7 hst7)
          have hN1 : (1 : Int) ≤ ((N - 1 : Nat) : Int) := by omega
          have hN1' : 0 < N - 1 := by omega
          clear hrd hrd2 hcc hl7 hS7 hst7 hdi hmm
          go_upto_region 9 with fail
          go_cut [4] from 67 to 78 (fun x4 wx => x4 = i64 0 ∧ Sep wx (mem (.pointer (some ⟨m0, 0, none⟩)) cs mm (log.drop (mm - base).toNat) :: pts p0 (.cells #[.pointer (some ⟨m0, 0, none⟩), i64 keep, .slice (some ⟨b, off, none⟩) (N - 1) cap7] 57) :: rowR (.slice (some ⟨b, off, none⟩) (N - 1) cap7) (es1.drop 1) :: L) ∧ Stable w wx)
          case first =>
            go_region_law (first | (go_simp; refine (HDI.out wc.drew _ (Sep.pick 2 H7.out.1.drew)).mono ?_; rintro e w8 ⟨rfl, hS8, hst8⟩))
            all_goals
              have H8 := Lib.hid (And.intro hS8 (H7.out.2.drew.trans hst8))
              clear hS8 hst8
              go_wp2_with fail
              go_meet
              exact ⟨rfl, H8.out.1, H8.out.2⟩
          case rest =>
            obtain ⟨rfl, hS8, hst8⟩ := hcut
            have H8 := Lib.hid (And.intro hS8 hst8)
            clear hS8 hst8 H7
            go_wp2_with fail
            go_ret
            exact ⟨rfl, HPP.out _ (ring_shut ((H8.out.1.pick 2).pick 2)) H8.out.2⟩

end Go.Proofs.Ytfhjdfllkjjldaa
