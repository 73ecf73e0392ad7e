/- The plain law of RinglogRange's pushes. -/
import Derived.Test.YtfhjdfllkjjldaaKeeps
namespace Go.Proofs.Ytfhjdfllkjjldaa
open Go.RowKit Go.Sl

/-- The cells before push j. -/
def csR (j : Nat) : List Int := [if j = 0 then 3 else (j : Int) - 1, 1, 4, 1, 5, 9]
/-- The snapshots kept behind j pushes. -/
def snR (k j : Nat) : List (List Int) := (List.range' (j - k) (min j k)).map csR

theorem snR_length (k j : Nat) : (snR k j).length = min j k := by simp [snR]
theorem snR_push (k j : Nat) : pushS (k : Int) (snR k j) (csR j) = snR k (j + 1) := by
  unfold pushS
  rw [snR_length]
  by_cases h : j < k
  · rw [if_pos (by omega)]
    unfold snR
    rw [show j - k = 0 by omega, show j + 1 - k = 0 by omega, show min j k = j by omega, show min (j + 1) k = j + 1 by omega, List.range'_1_concat]
    simp
  · rw [if_neg (by omega)]
    unfold snR
    rw [show min j k = k by omega, show min (j + 1) k = k by omega]
    have h1 := List.range'_1_concat (s := j - k) (n := k)
    rw [List.range'_succ, show j - k + k = j by omega] at h1
    rw [show j + 1 - k = j - k + 1 by omega]
    have h2 := congrArg (fun l => (List.map csR l).drop 1) h1
    simp only [List.map_append, List.map_cons, List.map_nil, List.drop_succ_cons, List.drop_zero] at h2
    exact h2.symm
theorem snR_tick (k j : Nat) (t : Int) : pushT (k : Int) (t + (j - k : Nat)) (snR k j) = t + (j + 1 - k : Nat) := by
  unfold pushT
  rw [snR_length]
  split <;> omega
theorem snR_get (k j i : Nat) (h : i < min j k) : (snR k j).getD i [] = csR (j - k + i) := by
  have hl : i < (snR k j).length := by rw [snR_length]; exact h
  rw [List.getD, List.getElem?_eq_getElem hl, Option.getD_some]
  simp [snR]
theorem csR_set (j : Nat) : setC (csR j) 0 (j : Int) = csR (j + 1) := by
  unfold csR setC
  rw [if_pos (by simp [hasB])]
  simp
theorem csR_get (j : Nat) : getC (csR j) 0 = if j = 0 then 3 else (j : Int) - 1 := by
  unfold getC
  rw [if_pos (by simp [hasB, csR])]
  simp [csR]

end Go.Proofs.Ytfhjdfllkjjldaa
