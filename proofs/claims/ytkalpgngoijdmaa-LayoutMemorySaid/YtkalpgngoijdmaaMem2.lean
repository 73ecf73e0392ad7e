/- Contracts of package cellmem: Clone, New, Cells, Set. -/
import Derived.Test.YtkalpgngoijdmaaMem
namespace Go.Proofs.Ytkalpgngoijdmaa
open Go.RowKit Go.Sl

theorem infoE : (Try.prog.info? 95).map (fun i => (i.zero, i.size, i.bytes)) = some (some (.agg #[.int .i64 0, .int .i64 0]), 2, 16) := by kernel_rfl

variable {w : World} {L : List Asn} {p : Value} {cs : List Int} {base : Int} {log : List (Int × Int)}

@[go_sem] theorem nilI (w : World) (a : Option Addr) (n c n' c' : Nat) : (binOp .eql 22 (.slice a n c) (.slice none n' c')).run Try.prog w = .ok (.bool a.isNone) w := Lib.run_eql_slice_nil w _ _ a n c n' c' Try.underlying22
@[go_sem] theorem nilE (w : World) (a : Option Addr) (n c n' c' : Nat) : (binOp .eql 90 (.slice a n c) (.slice none n' c')).run Try.prog w = .ok (.bool a.isNone) w := Lib.run_eql_slice_nil w _ _ a n c n' c' Try.underlying90

theorem ents_one (l : List (Int × Int)) : ∀ u ∈ ents l, u.oneCell' = true := by
  intro u hu; obtain ⟨x, _, hx⟩ := List.mem_flatMap.1 hu; simp at hx; rcases hx with rfl | rfl <;> rfl

set_option maxHeartbeats 400000 in
theorem CloneI_spec {v : Value} {l : List Int} (hr : readsAs w 1 v l.length (ints l)) (hl : l.length ≤ 1000000000000) :
    Calls Try.prog 53 #[v] w fun e w' => ∃ v', e = .returned v' ∧ Sep w' [old w, rowI v' l] ∧ Stable w w' := by
  obtain ⟨i0, hi, hz0, hz1, hz2⟩ := info_parts infoI
  obtain ⟨a, cap, rfl, _, _, hnil⟩ := hr.shape
  cases a with
  | none =>
    obtain ⟨hn, rfl⟩ := hnil rfl
    obtain rfl : l = [] := List.eq_nil_of_length_eq_zero hn
    clear hr hn hl
    go_enter Try.func53, Try.ntmps53
    go_wp2
    go_ret
    exact ⟨_, rfl, ((Sep.start w).addNil _ _).pick 1, Stable.refl w⟩
  | some ad =>
    clear hnil
    have hS0 : Sep (w.alloc (.cells #[] 3)) [rowI (.slice (some ⟨w.heap.size, 0, none⟩) 0 0) [], old w] :=
      ((Sep.start w).alloc (.cells #[] 3)).toRow (Nat.le_refl _) (Nat.zero_le _) rfl rfl
    have hr2 := hr.of_heap (w' := w.alloc (.cells #[] 3)) (heap_alloc_lt w _)
    go_enter Try.func53, Try.ntmps53
    go_wp2_with (at_builtin; refine wpList_append_sep rfl (.tmp 5) (.tmp 6) 22 22 rfl 3 i0 _ 1 8 Try.underlying22 hi hz0 hz1 hz2 rfl _ 0 [] rfl hS0 l.length (ints l) (hr2.src Try.underlying22 (ints_one l)) (by unfold maxLen; omega) (by omega) ?_; intro v' w1 hS1 hst1 hn1; simp only [Nat.zero_add, List.nil_append] at hS1)
    go_ret
    exact ⟨v', rfl, hS1.pick 1, ((Stable.refl w).alloc _).trans hst1⟩

set_option maxHeartbeats 400000 in
theorem New_spec {v : Value} {l : List Int} (hr : readsAs w 1 v l.length (ints l)) (hl : l.length ≤ 1000000000000) :
    Calls Try.prog 32 #[v] w fun e w' => ∃ p, e = .returned p ∧ Sep w' [old w, mem p l 0 []] ∧ Stable w w' ∧ p ≠ .pointer none := by
  have hc := CloneI_spec hr hl
  clear hr hl
  go_enter Try.func32, Try.ntmps32
  go_wp2_with (go_at_call 53; refine hc.mono ?_; rintro e w1 ⟨v', rfl, hS, hst⟩; obtain ⟨a, c, rfl, _⟩ := (hS.pick 1).rowShape)
  go_ret
  refine ⟨_, rfl, ?_, hst.alloc _, by simp⟩
  have h1 : Sep _ (rowI (.slice a l.length c) l :: rowE (.slice none 0 0) [] :: old w :: []) := ((hS.addNil 95 2).pick 2)
  have h2 := h1.alloc (.cells #[.slice a l.length c, i64 0, .slice none 0 0] 92)
  exact (mem_shut h2).pick 1

set_option maxHeartbeats 400000 in
theorem Cells_spec (hS : Sep w (mem p cs base log :: L)) (hb : Small cs base log) :
    Calls Try.prog 35 #[p] w fun e w' => ∃ v, e = .returned v ∧ Sep w' (rowI v cs :: mem p cs base log :: L) ∧ Stable w w' := by
  have hS' := hS
  obtain ⟨p0, a, n, b, m, rfl, h0, h1, h2, _, _, _, hS2⟩ := mem_cells hS
  have hc := CloneI_spec (hS2.pick 1).reads hb.cells
  clear hS hb hS2
  go_enter Try.func35, Try.ntmps35
  go_wp2_with (go_at_call 53; refine hc.mono ?_; rintro e w1 ⟨v', rfl, hS1, hst⟩)
  go_ret
  exact ⟨_, rfl, hS'.mount hS1, hst⟩

end Go.Proofs.Ytkalpgngoijdmaa
