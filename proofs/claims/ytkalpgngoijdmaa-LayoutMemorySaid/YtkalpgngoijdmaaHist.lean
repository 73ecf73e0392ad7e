/- Plain facts on histories of Set: what undoing them restores. -/
import Derived.Test.YtkalpgngoijdmaaMem3
namespace Go.Proofs.Ytkalpgngoijdmaa
open Go.RowKit Go.Sl

/-- The entries l undone, the newest first. -/
def undoC (cs : List Int) (l : List (Int × Int)) : List Int := l.foldr (fun x cs => cs.set x.1.toNat x.2) cs
theorem undoC_length (cs : List Int) (l : List (Int × Int)) : (undoC cs l).length = cs.length := by
  induction l with
  | nil => rfl
  | cons a l ih => simp only [undoC, List.foldr_cons, List.length_set] at *; exact ih

theorem undoC_snoc (cs : List Int) (l : List (Int × Int)) (x : Int × Int) : undoC cs (l ++ [x]) = undoC (cs.set x.1.toNat x.2) l := by simp [undoC]
theorem setC_length (cs : List Int) (i v : Int) : (setC cs i v).length = cs.length := by unfold setC; split <;> simp
theorem hasB_congr {cs cs' : List Int} (h : cs.length = cs'.length) (i : Int) : hasB cs i = hasB cs' i := by simp [hasB, h]

/-- (cs, log) comes of (cs0, log0) by at most n calls of Set. -/
def Ext (cs0 : List Int) (log0 : List (Int × Int)) (cs : List Int) (log : List (Int × Int)) (n : Nat) : Prop :=
  ∃ l, log = log0 ++ l ∧ undoC cs l = cs0 ∧ cs.length = cs0.length ∧ (∀ x ∈ l, hasB cs0 x.1 = true) ∧ l.length ≤ n

theorem Ext.refl (cs : List Int) (log : List (Int × Int)) : Ext cs log cs log 0 := ⟨[], by simp, rfl, rfl, by simp, by simp⟩
theorem Ext.set {cs0 cs : List Int} {log0 log : List (Int × Int)} {n : Nat} (h : Ext cs0 log0 cs log n) (i v : Int) : Ext cs0 log0 (setC cs i v) (setL cs log i) (n + 1) := by
  obtain ⟨l, h1, h2, h3, h4, h5⟩ := h
  by_cases hh : hasB cs i = true
  · refine ⟨l ++ [(i, cs.getD i.toNat 0)], by simp [setL, hh, h1], ?_, by rw [setC_length]; exact h3, fun x hx => ?_, by simp; omega⟩
    · rw [undoC_snoc, setC, if_pos hh]
      have hi := hasB_iff.1 hh
      rw [List.set_set, show cs.set i.toNat (cs.getD i.toNat 0) = cs from ?_]
      · exact h2
      · rw [show cs.getD i.toNat 0 = cs[i.toNat]'(by omega) by simp [List.getD, show i.toNat < cs.length by omega]]
        exact List.set_getElem_self _
    · rcases List.mem_append.1 hx with hx | hx
      · exact h4 x hx
      · obtain rfl : x = _ := by simpa using hx
        rw [← hasB_congr h3]; exact hh
  · have hf : hasB cs i = false := by simpa using hh
    exact ⟨l, by simp [setL, hf, h1], by simp [setC, hf, h2], by simp [setC, hf, h3], h4, by omega⟩
theorem Ext.len {cs0 cs : List Int} {log0 log : List (Int × Int)} {n : Nat} (h : Ext cs0 log0 cs log n) : cs.length = cs0.length ∧ log0.length ≤ log.length ∧ log.length ≤ log0.length + n := by
  obtain ⟨l, h1, _, h3, _, h5⟩ := h
  subst h1
  simp only [List.length_append]
  omega
theorem Ext.undo {cs0 cs : List Int} {log0 log : List (Int × Int)} {n k : Nat} (h : Ext cs0 log0 cs log n) (hk : k = log0.length) : undoC cs (log.drop k) = cs0 ∧ log.take k = log0 := by
  obtain ⟨l, rfl, h2, _⟩ := h
  subst hk
  simp [h2]
theorem Ext.small {cs0 cs : List Int} {log0 log : List (Int × Int)} {n : Nat} {base : Int} (h : Ext cs0 log0 cs log n) (hb : Small cs0 base log0) (hn : base + log0.length + n ≤ 1000000000000) : Small cs base log := by
  have hl := h.len
  obtain ⟨l, h1, _, h3, h4, h5⟩ := h
  refine ⟨by rw [h3]; exact hb.cells, hb.low, by omega, fun x hx => ?_⟩
  rw [hasB_congr h3]
  rw [h1] at hx
  rcases List.mem_append.1 hx with hx | hx
  · exact hb.entries x hx
  · exact h4 x hx

end Go.Proofs.Ytkalpgngoijdmaa
