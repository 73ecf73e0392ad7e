/- What a ring keeps: the plain law. -/
import Derived.Test.YtfhjdfllkjjldaaRew
namespace Go.Proofs.Ytfhjdfllkjjldaa
open Go.RowKit Go.Sl

abbrev Es := List (Int × Int)
abbrev eT (es : Es) (i : Nat) : Int := (es.getD i (0, 0)).1
abbrev eM (es : Es) (i : Nat) : Int := (es.getD i (0, 0)).2

/-- The cells at a mark. -/
def snapAt (cs : List Int) (base : Int) (log : Es) (m : Int) : List Int := undoC cs (log.drop (m - base).toNat)
theorem undoC_append (cs : List Int) (l1 l2 : Es) : undoC cs (l1 ++ l2) = undoC (undoC cs l2) l1 := by simp [undoC]

structure RInv (t0 : Int) (cs : List Int) (base : Int) (log es : Es) (sn : List (List Int)) : Prop where
  len : sn.length = es.length
  tick : ∀ i, i < es.length → eT es i = t0 + i
  lo : ∀ i, i < es.length → base ≤ eM es i
  hi : ∀ i, i < es.length → eM es i ≤ base + log.length
  mono : ∀ i j, i ≤ j → j < es.length → eM es i ≤ eM es j
  snap : ∀ i, i < es.length → snapAt cs base log (eM es i) = sn.getD i []

variable {t0 : Int} {cs : List Int} {base : Int} {log es : Es} {sn : List (List Int)}

theorem RInv.nil (t0 : Int) (cs : List Int) (base : Int) (log : Es) : RInv t0 cs base log [] [] :=
  ⟨rfl, by simp, by simp, by simp, by simp, by simp⟩

theorem RInv.set (h : RInv t0 cs base log es sn) (i v : Int) : RInv t0 (setC cs i v) base (setL cs log i) es sn := by
  refine ⟨h.len, h.tick, h.lo, fun j hj => ?_, h.mono, fun j hj => ?_⟩
  · have := h.hi j hj
    unfold setL
    split
    · simp; omega
    · exact this
  · rw [← h.snap j hj]
    have h1 := h.lo j hj
    have h2 := h.hi j hj
    unfold snapAt setL setC
    by_cases hh : hasB cs i = true
    · rw [if_pos hh, if_pos hh, List.drop_append_of_le_length (by omega), undoC_append]
      have hi := hasB_iff.1 hh
      congr 1
      simp only [undoC, List.foldr_cons, List.foldr_nil]
      rw [List.set_set, List.getD_eq_getElem?_getD]
      apply List.ext_getElem?
      intro k
      rw [List.getElem?_set]
      split
      · subst_vars
        split
        · rename_i hk
          rw [List.getElem?_eq_getElem (by simpa using hk)]; rfl
        · rename_i hk
          rw [List.getElem?_eq_none (by omega)]
      · rfl
    · rw [if_neg hh, if_neg hh]

theorem eT_app (es : Es) (x : Int × Int) (i : Nat) : (es ++ [x]).getD i (0, 0) = if i < es.length then es.getD i (0, 0) else if i = es.length then x else (0, 0) := by
  rw [List.getD_eq_getElem?_getD, List.getElem?_append]
  split
  · rw [List.getD_eq_getElem?_getD]
  · split
    · subst_vars; simp
    · rw [List.getElem?_eq_none (by simp; omega)]; rfl
theorem sn_app (sn : List (List Int)) (x : List Int) (i : Nat) : (sn ++ [x]).getD i [] = if i < sn.length then sn.getD i [] else if i = sn.length then x else [] := by
  rw [List.getD_eq_getElem?_getD, List.getElem?_append]
  split
  · rw [List.getD_eq_getElem?_getD]
  · split
    · subst_vars; simp
    · rw [List.getElem?_eq_none (by simp; omega)]; rfl

/-- A tick more. -/
theorem RInv.push (h : RInv t0 cs base log es sn) (hb : 0 ≤ (log.length : Int)) : RInv t0 cs base log (es ++ [(t0 + es.length, base + log.length)]) (sn ++ [cs]) := by
  have hl : (es ++ [(t0 + es.length, base + log.length)]).length = es.length + 1 := by simp
  refine ⟨by simp [h.len], fun i hi => ?_, fun i hi => ?_, fun i hi => ?_, fun i j hij hj => ?_, fun i hi => ?_⟩
  · rw [hl] at hi
    unfold eT; rw [eT_app]
    split
    · rename_i hk; exact h.tick i hk
    · rw [if_pos (by omega)]; dsimp only; omega
  · rw [hl] at hi
    unfold eM; rw [eT_app]
    split
    · rename_i hk; exact h.lo i hk
    · rw [if_pos (by omega)]; dsimp only; omega
  · rw [hl] at hi
    unfold eM; rw [eT_app]
    split
    · rename_i hk; exact h.hi i hk
    · rw [if_pos (by omega)]; dsimp only; omega
  · rw [hl] at hj
    unfold eM; rw [eT_app, eT_app]
    by_cases hj2 : j < es.length
    · rw [if_pos (show i < es.length by omega), if_pos hj2]; exact h.mono i j hij hj2
    · rw [if_neg hj2, if_pos (show j = es.length by omega)]
      by_cases hi2 : i < es.length
      · rw [if_pos hi2]; exact h.hi i hi2
      · rw [if_neg hi2, if_pos (show i = es.length by omega)]; exact Int.le_refl _
  · rw [hl] at hi
    unfold eM; rw [eT_app, sn_app, h.len]
    split
    · rename_i hk; exact h.snap i hk
    · rw [if_pos (by omega), if_pos (by omega)]
      unfold snapAt
      dsimp only
      rw [show (base + (log.length : Int) - base).toNat = log.length by omega, List.drop_length]
      rfl

/-- The oldest tick forgotten. -/
theorem RInv.forget (h : RInv t0 cs base log es sn) (h2 : 2 ≤ es.length) : RInv (t0 + 1) cs (eM es 1) (log.drop (eM es 1 - base).toNat) (es.drop 1) (sn.drop 1) := by
  have e : ∀ i, (es.drop 1).getD i (0, 0) = es.getD (i + 1) (0, 0) := fun i => by rw [List.getD_eq_getElem?_getD, List.getElem?_drop, List.getD_eq_getElem?_getD, Nat.add_comm]
  have hlo := h.lo 1 (by omega)
  have hhi := h.hi 1 (by omega)
  refine ⟨by rw [List.length_drop, List.length_drop, h.len], fun i hi => ?_, fun i hi => ?_, fun i hi => ?_, fun i j hij hj => ?_, fun i hi => ?_⟩ <;> rw [List.length_drop] at *
  · have := h.tick (i + 1) (by omega)
    unfold eT at *; rw [e, this]; omega
  · have := h.mono 1 (i + 1) (by omega) (by omega)
    unfold eM at *; rw [e]; exact this
  · have := h.hi (i + 1) (by omega)
    unfold eM at *; rw [e]; omega
  · have := h.mono (i + 1) (j + 1) (by omega) (by omega)
    unfold eM at *; rw [e, e]; exact this
  · have := h.snap (i + 1) (by omega)
    have hm := h.mono 1 (i + 1) (by omega) (by omega)
    unfold eM at *
    rw [e]
    rw [show (sn.drop 1).getD i [] = sn.getD (i + 1) [] by rw [List.getD_eq_getElem?_getD, List.getElem?_drop, List.getD_eq_getElem?_getD, Nat.add_comm], ← this]
    unfold snapAt
    rw [List.drop_drop]
    congr 2
    omega

/-- Back to a tick that is kept. -/
theorem RInv.back (h : RInv t0 cs base log es sn) (k : Nat) (hk : k < es.length) :
    RInv t0 (undoC cs (log.drop (eM es k - base).toNat)) base (log.take (eM es k - base).toNat) (es.take (k + 1)) (sn.take (k + 1)) := by
  have hl : (es.take (k + 1)).length = k + 1 := by rw [List.length_take]; omega
  have e : ∀ i, i < k + 1 → (es.take (k + 1)).getD i (0, 0) = es.getD i (0, 0) := fun i hi => by rw [List.getD_eq_getElem?_getD, List.getElem?_take, if_pos hi, List.getD_eq_getElem?_getD]
  have hlo := h.lo k hk
  have hhi := h.hi k hk
  refine ⟨by rw [List.length_take, List.length_take, h.len], fun i hi => ?_, fun i hi => ?_, fun i hi => ?_, fun i j hij hj => ?_, fun i hi => ?_⟩ <;> rw [hl] at *
  · unfold eT; rw [e i hi]; exact h.tick i (by omega)
  · unfold eM; rw [e i hi]; exact h.lo i (by omega)
  · have := h.mono i k (by omega) hk
    unfold eM at *; rw [e i hi, List.length_take]; omega
  · unfold eM; rw [e i (by omega), e j hj]; exact h.mono i j hij (by omega)
  · have hs := h.snap i (by omega)
    have hm := h.mono i k (by omega) hk
    have hl2 := h.lo i (by omega)
    unfold eM at *
    rw [e i hi, show (sn.take (k + 1)).getD i [] = sn.getD i [] by rw [List.getD_eq_getElem?_getD, List.getElem?_take, if_pos hi, List.getD_eq_getElem?_getD], ← hs]
    unfold snapAt
    rw [← undoC_append]
    congr 1
    rw [List.drop_take]
    conv => rhs; rw [← List.take_append_drop (((es.getD k (0, 0)).2 - base).toNat - ((es.getD i (0, 0)).2 - base).toNat) (log.drop ((es.getD i (0, 0)).2 - base).toNat), List.drop_drop]
    congr 2
    omega

end Go.Proofs.Ytfhjdfllkjjldaa
