/- The plain law of RinglogRestores. -/
import Derived.Test.YtfhjdfllkjjldaaAgainP
namespace Go.Proofs.Ytfhjdfllkjjldaa
open Go.RowKit Go.Sl

/-- The cells before each tick that is kept: the last k of all. -/
def lastK (k : Nat) (st : List (List Int)) : List (List Int) := st.drop (st.length - k)
theorem lastK_length (k : Nat) (st : List (List Int)) : (lastK k st).length = min st.length k := by simp [lastK]; omega
theorem lastK_push (k : Nat) (hk : 1 ≤ k) (st : List (List Int)) (c : List Int) : pushS (k : Int) (lastK k st) c = lastK k (st ++ [c]) := by
  unfold pushS
  rw [lastK_length]
  unfold lastK
  by_cases h : st.length < k
  · rw [if_pos (by omega), List.length_append, List.length_cons, List.length_nil, show st.length - k = 0 by omega, show st.length + (0 + 1) - k = 0 by omega, List.drop_zero, List.drop_zero]
  · rw [if_neg (by omega), List.length_append, List.length_cons, List.length_nil, ← List.drop_append_of_le_length (by omega), List.drop_drop, show st.length - k + 1 = st.length + (0 + 1) - k by omega]
theorem lastK_tick (k : Nat) (st : List (List Int)) (c : List Int) : pushT (k : Int) ((st.length - k : Nat) : Int) (lastK k st) = (((st ++ [c]).length - k : Nat) : Int) := by
  unfold pushT
  rw [lastK_length, List.length_append, List.length_cons, List.length_nil]
  split <;> omega
theorem lastK_get (k : Nat) (st : List (List Int)) (i : Nat) : (lastK k st).getD i [] = st.getD (st.length - k + i) [] := by
  unfold lastK
  rw [List.getD_eq_getElem?_getD, List.getElem?_drop, List.getD_eq_getElem?_getD]

variable {w : World} {L : List Asn} {p mp : Value} {k t : Nat} {cs : List Int} {st : List (List Int)} {B : Nat}

theorem PushRe (h : RSt w L p mp k ((st.length - k : Nat) : Int) cs (lastK k st) B) (hB : B ≤ 1000000) (hk : 1 ≤ k ∧ k ≤ 13) (hs : st.length ≤ 1000) :
    Calls Try.prog 12 #[p, i64 st.length] w fun e w' => e = .returned (i64 0) ∧ RSt w' L p mp k (((st ++ [cs]).length - k : Nat) : Int) cs (lastK k (st ++ [cs])) B ∧ Stable w w' := by
  have := PushRS h hB (by omega) (by omega) (by omega)
  rw [lastK_push k hk.1, lastK_tick k st cs, lastK_length, show ((st.length - k : Nat) : Int) + ((min st.length k : Nat) : Int) = st.length by omega] at this
  exact this

/-- Back at tick t. -/
theorem RewRe (h : RSt w L p mp k ((st.length - k : Nat) : Int) cs (lastK k st) B) (hB : B ≤ 1000000) (hk : 1 ≤ k ∧ k ≤ 13) (t : Nat) (h1 : st.length - k ≤ t) (h2 : t < st.length) :
    Calls Try.prog 16 #[p, i64 t] w fun e w' => e = .returned (i64 0) ∧ RSt w' L p mp k ((st.length - k : Nat) : Int) (st.getD t []) ((lastK k st).take (t - (st.length - k) + 1)) B ∧ Stable w w' := by
  have := RewAt h hB (by omega) t (t - (st.length - k)) (by omega) (by rw [lastK_length]; omega)
  rw [lastK_get, show st.length - k + (t - (st.length - k)) = t by omega] at this
  exact this
theorem take_len (t : Nat) (h1 : st.length - k ≤ t) (h2 : t < st.length) : ((lastK k st).take (t - (st.length - k) + 1)).length = t - (st.length - k) + 1 := by
  rw [List.length_take, lastK_length]; omega
theorem RewRe2 (h : RSt w L p mp k ((st.length - k : Nat) : Int) (st.getD t []) ((lastK k st).take (t - (st.length - k) + 1)) B) (hB : B ≤ 1000000) (hk : 1 ≤ k ∧ k ≤ 13) (h1 : st.length - k ≤ t) (h2 : t < st.length) :
    Calls Try.prog 16 #[p, i64 t] w fun e w' => e = .returned (i64 0) ∧ RSt w' L p mp k ((st.length - k : Nat) : Int) (st.getD t []) ((lastK k st).take (t - (st.length - k) + 1)) B ∧ Stable w w' := by
  have hl := take_len t h1 h2
  have := RewAt h hB (by omega) t (t - (st.length - k)) (by omega) (by omega)
  rw [List.getD_eq_getElem?_getD, List.getElem?_take, if_pos (by omega), ← List.getD_eq_getElem?_getD, lastK_get, show st.length - k + (t - (st.length - k)) = t by omega, List.take_take, Nat.min_self] at this
  exact this
theorem RangeRe (h : RSt w L p mp k ((st.length - k : Nat) : Int) (st.getD t []) ((lastK k st).take (t - (st.length - k) + 1)) B) (hk : 1 ≤ k ∧ k ≤ 13) (h1 : st.length - k ≤ t) (h2 : t < st.length) :
    Calls Try.prog 16 #[p, i64 (t + 1)] w fun e w' => e = .returned (i64 6) ∧ RSt w' L p mp k ((st.length - k : Nat) : Int) (st.getD t []) ((lastK k st).take (t - (st.length - k) + 1)) B ∧ Stable w w' :=
  RangeRS h (by omega) (by rw [take_len t h1 h2]; omega) _ (by rw [take_len t h1 h2]; omega)
theorem NewestRe (h : RSt w L p mp k ((st.length - k : Nat) : Int) (st.getD t []) ((lastK k st).take (t - (st.length - k) + 1)) B) (hk : 1 ≤ k ∧ k ≤ 13) (h1 : st.length - k ≤ t) (h2 : t < st.length) :
    Calls Try.prog 15 #[p] w fun e w' => e = .returned (i64 t) ∧ ∃ n, w' = w.drewN n := by
  have := NewestRS h (by omega) (by rw [take_len t h1 h2]; omega)
  rw [take_len t h1 h2, show ((st.length - k : Nat) : Int) + ((t - (st.length - k) + 1 : Nat) : Int) - 1 = t by omega] at this
  exact this
theorem PushRe2 (h : RSt w L p mp k ((st.length - k : Nat) : Int) (st.getD t []) ((lastK k st).take (t - (st.length - k) + 1)) B) (hB : B ≤ 1000000) (hk : 1 ≤ k ∧ k ≤ 13) (h1 : st.length - k ≤ t) (h2 : t < st.length) (hs : st.length ≤ 1000) :
    Calls Try.prog 12 #[p, i64 (t + 1)] w fun e w' => e = .returned (i64 0) ∧ Sep w' L ∧ Stable w w' := by
  have := PushRS h hB (by omega) (by omega) (by omega)
  rw [take_len t h1 h2, show ((st.length - k : Nat) : Int) + ((t - (st.length - k) + 1 : Nat) : Int) = t + 1 by omega] at this
  refine this.mono ?_
  rintro e w' ⟨rfl, hR, hst⟩
  exact ⟨rfl, hR.drop, hst⟩

end Go.Proofs.Ytfhjdfllkjjldaa
