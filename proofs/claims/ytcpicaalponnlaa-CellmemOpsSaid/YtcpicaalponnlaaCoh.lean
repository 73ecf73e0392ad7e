/- Plain facts: the reference's memory and the memory with its log say the same. -/
import Derived.Test.YtcpicaalponnlaaRef9
namespace Go.Proofs.Ytcpicaalponnlaa
open Go.RowKit Go.Sl

/-- The reference's states, cells that were set, base. -/
abbrev RS := List (List Int) × List Int × Int

structure Coh (s : MS) (r : RS) : Prop where
  base : r.2.2 = s.2.1
  low : 0 ≤ s.2.1
  mark : (r.2.1.length : Int) = s.2.1 + s.2.2.length
  len : r.1.length = r.2.1.length + 1
  keys : s.2.2.map (·.1) = r.2.1.drop s.2.1.toNat
  states : ∀ j, j ≤ s.2.2.length → r.1.getD (s.2.1.toNat + j) [] = undoC s.1 (s.2.2.drop j)

def undoR (r : RS) (k : Nat) : RS := (r.1.take (k + 1), r.2.1.take k, r.2.2)
def discR (r : RS) (n : Int) : RS := (r.1, r.2.1, n)
def setR (r : RS) (cs : List Int) (i : Nat) (v : Int) : RS := (r.1 ++ [cs.set i v], r.2.1 ++ [(i : Int)], r.2.2)

theorem Coh.chk {s : MS} {r : RS} (h : Coh s r) (n : Int) : chk9 r.2.2 r.2.1.length n = chk s.2.1 s.2.2 n := by
  unfold chk9 Go.Proofs.Ytcpicaalponnlaa.chk; rw [h.base, h.mark]

theorem Coh.now {s : MS} {r : RS} (h : Coh s r) : r.1.getD r.2.1.length [] = s.1 := by
  have := h.states s.2.2.length (Nat.le_refl _)
  rw [List.drop_length, undoC, List.foldr_nil] at this
  rw [← this]; congr 1
  have := h.mark; have := h.low; omega

theorem undoC_app (cs : List Int) (a b : List (Int × Int)) : undoC cs (a ++ b) = undoC (undoC cs b) a := by simp [undoC, List.foldr_append]

theorem Coh.undo {s : MS} {r : RS} (h : Coh s r) (k : Nat) (h0 : Go.Proofs.Ytcpicaalponnlaa.chk s.2.1 s.2.2 k = 0) : Coh (undoS s k) (undoR r k) := by
  obtain ⟨hb, hl, hm, hlen, hk, hs⟩ := h
  obtain ⟨c1, c2⟩ := chk_zero h0
  have hd : ((k : Int) - s.2.1).toNat = k - s.2.1.toNat := by omega
  unfold undoS; rw [if_pos h0]
  refine ⟨hb, hl, ?_, ?_, ?_, fun j hj => ?_⟩
  · simp only [undoR, List.length_take]; omega
  · simp only [undoR, List.length_take]; omega
  · simp only [undoR]; rw [List.map_take, hk, List.drop_take, hd]
  · simp only [List.length_take] at hj
    simp only [undoR]
    rw [show (r.1.take (k + 1)).getD (s.2.1.toNat + j) [] = r.1.getD (s.2.1.toNat + j) [] by simp only [List.getD, List.getElem?_take]; rw [if_pos (by omega)], hs j (by omega), hd, List.drop_take, ← undoC_app]
    congr 1
    rw [show s.2.2.drop (k - s.2.1.toNat) = (s.2.2.drop j).drop (k - s.2.1.toNat - j) by rw [List.drop_drop]; congr 1; omega]
    exact (List.take_append_drop _ _).symm

theorem Coh.disc {s : MS} {r : RS} (h : Coh s r) (n : Int) (h0 : Go.Proofs.Ytcpicaalponnlaa.chk s.2.1 s.2.2 n = 0) : Coh (discS s n) (discR r n) := by
  obtain ⟨hb, hl, hm, hlen, hk, hs⟩ := h
  obtain ⟨c1, c2⟩ := chk_zero h0
  unfold discS; rw [if_pos h0]
  refine ⟨rfl, by show 0 ≤ n; omega, ?_, hlen, ?_, fun j hj => ?_⟩
  · simp only [discR, List.length_drop]; omega
  · simp only [discR]; rw [List.map_drop, hk, List.drop_drop]; congr 1; omega
  · simp only [List.length_drop] at hj
    simp only [discR, List.drop_drop]
    rw [← hs _ (by omega)]; congr 1; omega

theorem Coh.set {s : MS} {r : RS} (h : Coh s r) (i : Nat) (v : Int) (hi : i < s.1.length) : Coh (setS s i v) (setR r s.1 i v) := by
  obtain ⟨hb, hl, hm, hlen, hk, hs⟩ := h
  have hh : hasB s.1 i = true := hasB_iff.2 (by omega)
  have e1 : setC s.1 i v = s.1.set i v := by simp [setC, hh]
  have e2 : setL s.1 s.2.2 i = s.2.2 ++ [((i : Int), s.1.getD i 0)] := by simp [setL, hh]
  unfold setS; rw [e1, e2]
  refine ⟨hb, hl, ?_, ?_, ?_, fun j hj => ?_⟩
  · simp only [setR, List.length_append, List.length_cons, List.length_nil]; omega
  · simp only [setR, List.length_append, List.length_cons, List.length_nil]; omega
  · simp only [setR, List.map_append, List.map_cons, List.map_nil]
    rw [hk, List.drop_append_of_le_length (by omega)]
  · simp only [List.length_append, List.length_cons, List.length_nil] at hj
    simp only [setR]
    rcases Nat.lt_or_ge j (s.2.2.length + 1) with hj1 | hj1
    · rw [List.drop_append_of_le_length (by omega), undoC_snoc, show (s.1.set i v).set ((i : Int)).toNat (s.1.getD i 0) = s.1 from ?_, ← hs j (by omega)]
      · simp only [List.getD]; rw [List.getElem?_append_left (by omega)]
      · rw [Int.toNat_natCast, List.set_set, show s.1.getD i 0 = s.1[i] by simp [List.getD, hi]]
        exact List.set_getElem_self _
    · obtain rfl : j = s.2.2.length + 1 := by omega
      rw [List.drop_eq_nil_of_le (by simp), undoC, List.foldr_nil]
      simp only [List.getD]
      rw [List.getElem?_append_right (by omega), show s.2.1.toNat + (s.2.2.length + 1) - r.1.length = 0 by omega]; rfl

theorem Coh.setOut {s : MS} {r : RS} (h : Coh s r) (i v : Int) (hi : i < 0 ∨ (s.1.length : Int) ≤ i) : Coh (setS s i v) r := by
  have hh : hasB s.1 i = false := by rw [← Bool.not_eq_true, hasB_iff]; omega
  have : setS s i v = s := by simp [setS, setC, setL, hh]
  rw [this]; exact h

theorem Coh.changed {s : MS} {r : RS} (h : Coh s r) (k : Nat) (h0 : Go.Proofs.Ytcpicaalponnlaa.chk s.2.1 s.2.2 k = 0) : amongL (r.2.1.drop k) s.1.length = chgS s k := by
  obtain ⟨c1, c2⟩ := chk_zero h0
  unfold chgS; rw [if_pos h0]
  have hd : ((k : Int) - s.2.1).toNat = k - s.2.1.toNat := by have := h.low; omega
  have e : r.2.1.drop k = (s.2.2.drop (k - s.2.1.toNat)).map (·.1) := by
    rw [List.map_drop, h.keys, List.drop_drop]; congr 1; have := h.low; omega
  rw [hd, e]
  unfold amongL changedL upTo
  congr 1
  apply List.filter_congr
  intro j _
  rw [Bool.eq_iff_iff, hasE_iff, List.mem_map, List.any_eq_true]
  simp only [beq_iff_eq]

theorem Coh.start (cs : List Int) : Coh (cs, 0, []) ([cs], [], 0) := ⟨rfl, by simp, by simp, by simp, by simp, fun j hj => by
  obtain rfl : j = 0 := by simpa using hj
  simp [undoC]⟩

end Go.Proofs.Ytcpicaalponnlaa
