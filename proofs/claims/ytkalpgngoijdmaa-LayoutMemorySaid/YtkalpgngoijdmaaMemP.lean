/- The plain law of LayoutMemory; Cells of a memory, with all that was there. -/
import Derived.Test.YtkalpgngoijdmaaLayoutInitialW
import Derived.Test.YtkalpgngoijdmaaUndo
namespace Go.Proofs.Ytkalpgngoijdmaa
open Go.RowKit Go.Sl

theorem setC_at (cs : List Int) (i : Nat) (h : i < cs.length) (v : Int) : setC cs (i : Int) v = cs.set i v := by
  unfold setC; rw [if_pos (hasB_iff.2 ⟨by omega, by omega⟩)]; simp
theorem setL_at (cs : List Int) (log : List (Int × Int)) (i : Nat) (h : i < cs.length) : setL cs log (i : Int) = log ++ [((i : Int), cs.getD i 0)] := by
  unfold setL; rw [if_pos (hasB_iff.2 ⟨by omega, by omega⟩)]; simp
theorem set_getD (l : List Int) (i : Nat) (x : Int) (j : Nat) (hi : i < l.length) : (l.set i x).getD j 0 = if j = i then x else l.getD j 0 := by
  rw [List.getD_eq_getElem?_getD, List.getElem?_set]
  by_cases h : i = j
  · subst h; simp [hi]
  · rw [if_neg h, if_neg (Ne.symm h), List.getD_eq_getElem?_getD]
theorem set_back (l : List Int) (i : Nat) (x : Int) (hi : i < l.length) : (l.set i x).set i (l.getD i 0) = l := by
  rw [List.set_set]
  apply List.ext_getElem?
  intro j
  rw [List.getElem?_set]
  split
  · subst_vars; simp [hi, List.getD]
  · rfl
theorem undo2 (l : List Int) (a : Nat) (x y : Int) (h : a + 3 < l.length) :
    undoC ((l.set a x).set (a + 3) y) [((a : Int), l.getD a 0), (((a + 3 : Nat) : Int), (l.set a x).getD (a + 3) 0)] = l := by
  simp only [undoC, List.foldr_cons, List.foldr_nil, Int.toNat_natCast]
  rw [set_back _ _ _ (by rw [List.length_set]; omega), set_back _ _ _ (by omega)]

variable {w : World} {L : List Asn} {p : Value} {cs : List Int} {base : Int} {log : List (Int × Int)}
theorem CellsO_spec (hS : Sep w (mem p cs base log :: L)) (hb : Small cs base log) :
    Calls Try.prog 35 #[p] w fun e w' => ∃ v, e = .returned v ∧ Sep w' [rowI v cs, old w] ∧ Stable w w' := by
  obtain ⟨p0, a, n, b, m, rfl, h0, h1, h2, _, _, _, hS2⟩ := mem_cells hS
  have hc := CloneI_spec (hS2.pick 1).reads hb.cells
  clear hS hb hS2
  go_enter Try.func35, Try.ntmps35
  go_wp2_with (go_at_call 53; refine hc.mono ?_; rintro e w1 ⟨v', rfl, hS1, hst⟩)
  go_ret
  exact ⟨_, rfl, hS1.pick 1, hst⟩

end Go.Proofs.Ytkalpgngoijdmaa
