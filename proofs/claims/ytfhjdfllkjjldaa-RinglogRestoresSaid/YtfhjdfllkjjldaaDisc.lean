/- Contracts of package cellmem: Discard. -/
import Derived.Test.YtfhjdfllkjjldaaMem3
import Derived.Deep.RegionWith
namespace Go.Proofs.Ytfhjdfllkjjldaa
open Go.RowKit Go.Sl

variable {w : World} {L : List Asn} {p : Value} {cs : List Int} {base : Int} {log : List (Int × Int)}

set_option maxHeartbeats 400000 in
theorem Discard_no (hS : Sep w (mem p cs base log :: L)) (hb : Small cs base log) (mark : Int) (hc : chk base log mark ≠ 0) :
    Calls Try.prog 33 #[p, i64 mark] w fun e w' => e = .returned (i64 (chk base log mark)) ∧ Sep w' (mem p cs base log :: L) ∧ Stable w w' := by
  have hk := check_spec hS hb mark
  obtain ⟨p0, _, _, _, _, rfl, _⟩ := mem_cells hS
  clear hb
  have hc' : (chk base log mark != 0) = true := by simpa using hc
  clear hc
  generalize chk base log mark = c at *
  go_enter Try.func33, Try.ntmps33
  go_wp2_with (go_at_call 39; refine hk.mono ?_; rintro e w' ⟨rfl, nq, rfl⟩)
  go_ret
  exact ⟨rfl, hS, (Stable.refl w).drewN _⟩

/-- The log from the keep-th entry on, as a slice value: what it reads as. -/
theorem drop_reads {b : Option Addr} {m keep : Nat} {sa : Option Addr} (hS : Sep w (rowE (.slice b log.length m) log :: L)) (hk : keep ≤ log.length) (hsa : (if m = keep then b else b.map (·.add (keep * 2))) = sa) :
    readsAs w 2 (.slice sa (log.length - keep) (m - keep)) (log.drop keep).length (ents (log.drop keep)) := by
  rw [List.length_drop]
  refine ⟨by rw [ents_length, List.length_drop], ?_⟩
  rcases hS.rowCases with ⟨hv, hn, _, _⟩ | ⟨lb, cap, cur, hv, k1, k2, k3, k4, k5, k6⟩
  · obtain ⟨rfl, hl, rfl⟩ : b = none ∧ log.length = 0 ∧ m = 0 := by simpa using hv
    obtain rfl : keep = 0 := by omega
    rw [hl]
    subst hsa
    exact .inl ⟨rfl, none, 0, by simp, Nat.zero_le _, fun _ => rfl⟩
  · obtain ⟨rfl, rfl⟩ : b = some ⟨lb, 0, none⟩ ∧ m = cap := by simpa using hv
    right
    by_cases hmk : m = keep
    · have hz : log.length - keep = 0 := by omega
      refine ⟨lb, 0, m - keep, by rw [← hsa]; simp [hmk], by omega, by omega, fun j hj => ?_⟩
      rw [ents_length, List.length_drop] at hj; omega
    · refine ⟨lb, keep * 2, m - keep, by rw [← hsa]; simp [hmk, Addr.add_lit], by omega, by omega, fun j hj => ?_⟩
      rw [ents_length, List.length_drop] at hj
      rw [cell_of_blk k6.get, take_getElem? k4 (by omega), ents_drop, List.getElem?_drop]

set_option maxHeartbeats 1000000 in
theorem Discard_ok (hS : Sep w (mem p cs base log :: L)) (hb : Small cs base log) (mark : Int) (h1 : base ≤ mark) (h2 : mark ≤ base + log.length) :
    Calls Try.prog 33 #[p, i64 mark] w fun e w' => e = .returned (i64 0) ∧
      Sep w' (mem p cs mark (log.drop (mark - base).toNat) :: L) ∧ Stable w w' := by
  have hchk : chk base log mark = 0 := by unfold chk; rw [if_neg (by omega), if_neg (by omega)]
  have hk := check_spec hS hb mark
  rw [hchk] at hk
  obtain ⟨p0, a, n, b, m, rfl, c0, c1, c2, hf0, hlm, hmm, hS2⟩ := mem_cells hS
  have hpos := hb.position
  have hlow := hb.low
  obtain ⟨keep, hkeep⟩ : ∃ k : Nat, mark = base + k := ⟨(mark - base).toNat, by omega⟩
  subst hkeep
  have hkl : keep ≤ log.length := by omega
  rw [show (base + (keep : Int) - base).toNat = keep from by omega]
  have hsub : base + (keep : Int) - base = keep := by omega
  obtain ⟨sa, hsa⟩ : ∃ sa : Option Addr, (if m = keep then b else b.map (·.add (keep * 2))) = sa := ⟨_, rfl⟩
  have hr := drop_reads (hS2.pick 2) hkl hsa
  have hcl : ∀ W : World, W.heap = w.heap → Calls Try.prog 40 #[.slice sa (log.length - keep) (m - keep)] W fun e w' => ∃ v', e = .returned v' ∧ Sep w' [old W, rowE v' (log.drop keep)] ∧ Stable W w' :=
    fun W hW => CloneE_spec (hr.of_heap (fun k _ => by rw [hW])) (by rw [List.length_drop]; omega)
  have hkm : keep ≤ m := Nat.le_trans hkl hlm
  have hwr : IntKind.i64.wrap (keep : Int) = keep := by rw [IntWalk.i64_in _ (by omega)]
  have HCL := Lib.hid hcl
  clear hS hb hchk hr hcl
  go_enter Try.func33, Try.ntmps33
  go_wp2_with (go_at_call 39; refine hk.mono ?_; rintro e w' ⟨rfl, nq, rfl⟩)
  go_region_with (go_at_call 40; refine (HCL.out _ (by rfl)).mono ?_; rintro e w1 ⟨v', rfl, hS1, hst1⟩; have hS3 := (hS2.drewN (nq + 1)).mount hS1; obtain ⟨a', c', rfl, _⟩ := hS3.rowShape; have c0' := cell_of_blk (hS3.pick 1).get 0; have c1' := cell_of_blk (hS3.pick 1).get 1; have c2' := cell_of_blk (hS3.pick 1).get 2; have fz := frozen_of_blk (hS3.pick 1).get)
  all_goals
    have hst5 : Stable w w1 := ((Stable.refl w).drewN _).trans hst1
    have hS5 := ((hS3.pick 1).setCell 2 (.slice a' (log.drop keep).length c')).setCell 1 (i64 (base + keep))
    simp only [List.setIfInBounds_toArray, List.set_cons_succ, List.set_cons_zero, List.length_drop] at hS5
    clear hS3 hS1 hst1 hS2
    go_wp2
    go_ret
    refine ⟨rfl, ?_, (hst5.setCell _ _).setCell _ _⟩
    exact mem_shut' ((((hS5.pick 3).drop).pick 2).pick 1) rfl rfl (by rw [List.length_drop]) rfl

end Go.Proofs.Ytfhjdfllkjjldaa
