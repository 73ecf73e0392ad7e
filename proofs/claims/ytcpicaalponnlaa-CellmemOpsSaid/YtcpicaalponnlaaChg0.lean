/- Plain facts on the cells that Changed reports. -/
import Derived.Test.YtcpicaalponnlaaMem
namespace Go.Proofs.Ytcpicaalponnlaa
open Go.RowKit Go.Sl

def bools (l : List Bool) : List Value := l.map .bool
theorem bools_length (l : List Bool) : (bools l).length = l.length := by simp [bools]
theorem bools_get (l : List Bool) (i : Nat) (h : i < l.length) : (bools l)[i]? = some (.bool (l.getD i false)) := by simp [bools, h]
theorem bools_set (l : List Bool) (i : Nat) (b : Bool) : (bools l).set i (.bool b) = bools (l.set i b) := by simp [bools, List.map_set]

/-- Which of n cells have an entry in es. -/
def marks (n : Nat) (es : List (Int × Int)) : List Bool := (List.range n).map fun j : Nat => es.any fun x => x.1 == (j : Int)
theorem marks_length (n : Nat) (es : List (Int × Int)) : (marks n es).length = n := by simp [marks]
theorem marks_nil (n : Nat) : marks n [] = List.replicate n false := by
  apply List.ext_getElem <;> simp [marks]
theorem marks_snoc (n : Nat) (es : List (Int × Int)) (x : Int × Int) (h0 : 0 ≤ x.1) : marks n (es ++ [x]) = (marks n es).set x.1.toNat true := by
  apply List.ext_getElem
  · simp [marks]
  · intro i h2 h3
    simp only [marks, List.getElem_map, List.getElem_range, List.any_append, List.any_cons, List.any_nil, Bool.or_false, List.getElem_set]
    by_cases e : x.1.toNat = i
    · simp [e]; right; omega
    · simp [e]; omega
theorem marks_mem (n : Nat) (es : List (Int × Int)) (x : Int × Int) (h : x ∈ es) : marks n (es ++ [x]) = marks n es := by
  apply List.ext_getElem
  · simp [marks]
  · intro i h2 h3
    simp only [marks, List.getElem_map, List.getElem_range, List.any_append, List.any_cons, List.any_nil, Bool.or_false]
    by_cases e : x.1 = (i : Int)
    · have : es.any (fun x => x.1 == (i : Int)) = true := List.any_eq_true.2 ⟨x, h, by simpa using e⟩
      simp [this]
    · simp [e]
/-- The cells below k that have an entry in es, in order. -/
def upTo (es : List (Int × Int)) (k : Nat) : List Int := ((List.range k).filter fun j : Nat => es.any fun x => x.1 == (j : Int)).map Int.ofNat
theorem upTo_length (es : List (Int × Int)) (k : Nat) : (upTo es k).length ≤ k := by
  simp only [upTo, List.length_map]
  exact Nat.le_trans (List.length_filter_le _ _) (by simp)
theorem upTo_succ (es : List (Int × Int)) (k n : Nat) (hk : k < n) : upTo es (k + 1) = if (marks n es).getD k false then upTo es k ++ [(k : Int)] else upTo es k := by
  have e : (marks n es).getD k false = es.any fun x => x.1 == (k : Int) := by simp [marks, hk]
  rw [e, upTo, List.range_succ, List.filter_append, List.map_append]
  by_cases h : (es.any fun x => x.1 == (k : Int)) = true
  · rw [if_pos h]; simp only [List.filter_cons, h, if_true, List.filter_nil]; rfl
  · rw [if_neg h]; simp only [List.filter_cons, h, if_false, Bool.false_eq_true, List.filter_nil, List.map_nil, List.append_nil]; rfl
/-- What Changed reports. -/
abbrev changedL (cs : List Int) (es : List (Int × Int)) : List Int := upTo es cs.length

end Go.Proofs.Ytcpicaalponnlaa
