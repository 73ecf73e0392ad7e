/- Contracts of package cellmem: Set. -/
import Derived.Test.YtkalpgngoijdmaaMem2
import Derived.Deep.RegionLaw
namespace Go.Proofs.Ytkalpgngoijdmaa
open Go.RowKit Go.Sl

variable {w : World} {L : List Asn} {p : Value} {cs : List Int} {base : Int} {log : List (Int × Int)}

def setC (cs : List Int) (i v : Int) : List Int := if hasB cs i then cs.set i.toNat v else cs
def setL (cs : List Int) (log : List (Int × Int)) (i : Int) : List (Int × Int) := if hasB cs i then log ++ [(i, cs.getD i.toNat 0)] else log

theorem ents_snoc (l : List (Int × Int)) (a b : Int) : ents l ++ [i64 a, i64 b] = ents (l ++ [(a, b)]) := by simp [ents]

theorem new_cellsM (w : World) (c : List Value) (t : TypeId) (j : Nat) (u : Value) (h : c[j]? = some u) : (w.alloc (.cells c.toArray t)).drew.cell? ((⟨w.heap.size, 0, none⟩ : Addr).add j) = some u := by
  rw [Addr.add_lit]; simpa using h

set_option maxHeartbeats 400000 in
theorem Set_spec (hS : Sep w (mem p cs base log :: L)) (hb : Small cs base log) (hl : log.length < 1000000000000) (i v : Int) :
    Calls Try.prog 34 #[p, i64 i, i64 v] w fun e w' => e = .returned (.tuple #[]) ∧ Sep w' (mem p (setC cs i v) base (setL cs log i) :: L) ∧ Stable w w' := by
  have hh := has_spec hS hb i
  have hS0 := hS
  obtain ⟨p0, a, n, b, m, rfl, h0, h1, h2, hf0, _, _, hS2⟩ := mem_cells hS
  have hc := hb.cells
  obtain ⟨i0, hi0, hz0, hz1, hz2⟩ := info_parts infoE
  cases hi : hasB cs i with
  | true =>
    have hi' := hasB_iff.1 hi
    obtain ⟨g, cap, hv, _, _, hcell, hfr, hlt, hset⟩ := (hS2.pick 1).rowAt (by omega)
    obtain ⟨rfl, rfl⟩ : a = some ⟨g, 0, none⟩ ∧ n = cap := by simpa using hv
    have hx := hcell i.toNat (by rw [ints_length]; omega)
    rw [ints_get _ _ (by omega)] at hx
    have e : setL cs log i = log ++ [(i, cs.getD i.toNat 0)] := by simp [setL, hi]
    have e2 : setC cs i v = cs.set i.toNat v := by simp [setC, hi]
    rw [e, e2]
    rw [hi] at hh
    have j0 := hi'.1
    have j1 := hi'.2
    clear hS hb hcell hi hi' e hv
    have hS3 := hS2.pick 2
    have hlp : p0 < w.heap.size := hl_lt hS2.get
    clear hS2 hset hS0
    generalize cs.getD i.toNat 0 = x at *
    go_enter Try.func34, Try.ntmps34
    go_wp2_with (go_at_call 54; refine hh.mono ?_; rintro e w' ⟨rfl, rfl⟩)
    go_region_law (refine step_append_sep rfl (.tmp 13) (.tmp 23) 90 90 rfl 95 i0 _ 2 16 Try.underlying90 hi0 hz0 hz1 hz2 rfl _ log.length (ents log) rfl (hS3.allocBeside _).drew 1 [i64 i, i64 x] (Src.ofSlice _ Try.underlying90 ⟨w.heap.size, 0, none⟩ 1 1 _ rfl (fun j u hu => new_cellsM w _ _ j u hu) (ents_one [(i, x)])) (by unfold maxLen; omega) (by omega) ?_; intro v' w1 hS4 hst4 hn4; obtain ⟨a', c', rfl, _⟩ := hS4.rowShape; have c0 := cell_of_blk (hS4.pick 1).get 0; have c2 := cell_of_blk (hS4.pick 1).get 2; have fz := frozen_of_blk (hS4.pick 1).get)
    all_goals
      have hS5 := (hS4.pick 1).setCell 2 (.slice a' (log.length + 1) c')
      have hst5 : Stable w (w1.setCell ⟨p0, 2, none⟩ (.slice a' (log.length + 1) c')) := (((Stable.refl w).alloc _).drew.trans hst4).setCell _ _
      clear hS3 hS4 hst4 hn4 c0 c2 fz h0 h1 h2 hx hf0 hfr hlt hlp
      simp only [List.setIfInBounds_toArray, List.set_cons_succ, List.set_cons_zero] at hS5
      generalize w1.setCell ⟨p0, 2, none⟩ (.slice a' (log.length + 1) c') = w2 at hS5 hst5 ⊢
      have c0 := cell_of_blk hS5.get 0
      obtain ⟨g', cap', hv', _, _, hcell', hfr', _, hset'⟩ := (hS5.pick 2).rowAt (by omega)
      obtain ⟨rfl, rfl⟩ : g = g' ∧ n = cap' := by simpa using hv'
      have hx' := hcell' i.toNat (by rw [ints_length]; omega)
      have hS6 := hset' i.toNat (i64 v) (by rw [ints_length]; omega)
      rw [ints_get _ _ (by omega)] at hx'
      clear hcell' hv' hset' hS5
      go_wp2
      go_end0
      refine ⟨rfl, ?_, hst5.setCell _ _⟩
      rw [ints_set, ents_snoc] at hS6
      exact mem_shut' (hS6.pick 1) (by simp) rfl (by simp) rfl
  | false =>
    have e : setL cs log i = log := by simp [setL, hi]
    have e2 : setC cs i v = cs := by simp [setC, hi]
    rw [e, e2]
    rw [hi] at hh
    clear hS hb hS2 hi e e2
    go_enter Try.func34, Try.ntmps34
    go_wp2_with (go_at_call 54; refine hh.mono ?_; rintro e w' ⟨rfl, rfl⟩)
    go_end0
    exact ⟨rfl, hS0, Stable.refl _⟩

end Go.Proofs.Ytkalpgngoijdmaa
