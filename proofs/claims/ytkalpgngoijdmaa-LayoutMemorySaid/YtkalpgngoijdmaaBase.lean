/- Numbers in the heap: owned rows of int, slices that read as a list. -/
import Derived.Test.YtkalpgngoijdmaaRows
import Derived.Test.YtkalpgngoijdmaaApp
import Derived.WalkLawsBesides
import Derived.Deep.QuietTactic
import Derived.BigQuiet
import Derived.StillTailTactics
import Derived.Lib.Hide
namespace Go.Proofs.Ytkalpgngoijdmaa
open Go.RowKit Go.Sl

abbrev i64 (n : Int) : Value := .int .i64 n
def ints (l : List Int) : List Value := l.map i64
theorem ints_length (l : List Int) : (ints l).length = l.length := by simp [ints]
theorem ints_get (l : List Int) (i : Nat) (h : i < l.length) : (ints l)[i]? = some (i64 (l.getD i 0)) := by simp [ints, h]
abbrev rowI (v : Value) (l : List Int) : Asn := row 3 1 v l.length (ints l)
theorem rowI_app {w : World} {L : List Asn} {v : Value} {l l' : List Int} {n k : Nat} (h : Sep w (row 3 1 v (n + k) (ints l ++ ints l') :: L)) (hn : n = l.length) (hk : k = l'.length) : Sep w (rowI v (l ++ l') :: L) := by
  subst hn hk
  show Sep w (row 3 1 v (l ++ l').length (ints (l ++ l')) :: L)
  rw [List.length_append, show ints (l ++ l') = ints l ++ ints l' from List.map_append]
  exact h

theorem infoI : (Try.prog.info? 3).map (fun i => (i.zero, i.size, i.bytes)) = some (some (.int .i64 0), 1, 8) := by kernel_rfl
theorem ints_one (l : List Int) : ∀ u ∈ ints l, u.oneCell' = true := by
  intro u hu; obtain ⟨x, _, rfl⟩ := List.mem_map.1 hu; rfl
theorem ints_set (l : List Int) (i : Nat) (v : Int) : (ints l).set i (i64 v) = ints (l.set i v) := by simp [ints, List.map_set]

variable {w : World} {L : List Asn}

abbrev readsI (w : World) (v : Value) (l : List Int) : Prop := readsAs w 1 v l.length (ints l)
def inI64 (x : Int) : Prop := -9223372036854775808 ≤ x ∧ x ≤ 9223372036854775807

theorem readsI_len {v : Value} {l : List Int} (h : readsI w v l) : ∃ a c, v = .slice a l.length c := by
  obtain ⟨a, cap, hv, _⟩ := h.shape
  exact ⟨a, cap, hv⟩
theorem readsI_at {v : Value} {l : List Int} (h : readsI w v l) (hl : 0 < l.length) : ∃ b off cap, v = .slice (some ⟨b, off, none⟩) l.length cap ∧ l.length ≤ cap ∧ cap ≤ maxLen ∧ ∀ i, i < l.length → w.cell? ⟨b, off + i, none⟩ = some (i64 (l.getD i 0)) := by
  rcases h.2 with ⟨hn, _⟩ | ⟨b, off, cap, rfl, h1, h2, h3⟩
  · omega
  · exact ⟨b, off, cap, rfl, h1, h2, fun i hi => (h3 i (by rw [ints_length]; exact hi)).trans (ints_get l i hi)⟩

theorem _root_.Go.Sl.Sep.one' {A : Asn} (h : Sep w (A :: L)) : Sep w [A] := by
  have h2 : Sep w (A :: (L ++ [])) := by simpa using h
  have : Sep w ((A :: L) ++ []) := by simpa using h
  clear h2
  have h3 := (Sep.perm (w := w) (L := A :: L) (L' := L ++ [A]) (by simpa using (List.perm_append_singleton A L).symm) h)
  clear this h
  induction L with
  | nil => exact h3
  | cons B L ih => exact ih h3.drop
theorem _root_.Go.Sl.Sep.mem' {A : Asn} (h : Sep w L) (hA : A ∈ L) : Sep w [A] := by
  obtain ⟨s, t, rfl⟩ := List.append_of_mem hA
  exact Go.Sl.Sep.one' (L := s ++ t) (h.perm List.perm_middle)

theorem _root_.Go.Sl.Sep.rowCell {w : World} {L : List Asn} {e : TypeId} {size g n n' cap : Nat} {xs : List Value} (h : Sep w (row e size (.slice (some ⟨g, 0, none⟩) n cap) n' xs :: L)) {i : Nat} (hi : i < xs.length) : w.cell? ⟨g, i, none⟩ = xs[i]? := by
  have hl := h.rowLen
  have hn : 0 < n' := by rcases Nat.eq_zero_or_pos n' with rfl | h; · simp at hl; rw [hl] at hi; simp at hi
                         · exact h
  obtain ⟨g', cap', hv, _, _, hc, _⟩ := h.rowAt hn
  obtain rfl : g = g' := by have := congrArg (fun v => match v with | Value.slice (some a) _ _ => a.block | _ => 0) hv; simpa using this
  exact hc i hi
/-- The slice of numbers from the k-th on: what it reads as. -/
theorem dropI_reads {b : Option Addr} {m k : Nat} {sa : Option Addr} {l : List Int} (hS : Sep w (rowI (.slice b l.length m) l :: L)) (hk : k ≤ l.length) (hsa : (if m = k then b else b.map (·.add k)) = sa) :
    readsI w (.slice sa (l.length - k) (m - k)) (l.drop k) := by
  show readsAs w 1 _ (l.drop k).length (ints (l.drop k))
  rw [List.length_drop]
  refine ⟨by rw [ints_length, List.length_drop]; simp, ?_⟩
  rcases hS.rowCases with ⟨hv, hn, _, _⟩ | ⟨lb, cap, cur, hv, k1, k2, k3, k4, k5, k6⟩
  · obtain ⟨rfl, hl, rfl⟩ : b = none ∧ l.length = 0 ∧ m = 0 := by simpa using hv
    obtain rfl : k = 0 := by omega
    rw [hl]
    subst hsa
    exact .inl ⟨rfl, none, 0, by simp, Nat.zero_le _, fun _ => rfl⟩
  · obtain ⟨rfl, rfl⟩ : b = some ⟨lb, 0, none⟩ ∧ m = cap := by simpa using hv
    right
    by_cases hmk : m = k
    · have hz : l.length - k = 0 := by omega
      refine ⟨lb, 0, m - k, by rw [← hsa]; simp [hmk], by omega, by omega, fun j hj => ?_⟩
      rw [ints_length, List.length_drop] at hj; omega
    · refine ⟨lb, k, m - k, by rw [← hsa]; simp [hmk, Addr.add_lit], by omega, by omega, fun j hj => ?_⟩
      rw [ints_length, List.length_drop] at hj
      rw [cell_of_blk k6.get, take_getElem? k4 (by omega), show ints (l.drop k) = (ints l).drop k by simp [ints, List.map_drop], List.getElem?_drop]


theorem set3 {b : Nat} {x y z : Value} {t : TypeId} {f : Nat × Nat} (h : Sep w (pts b (.cells #[x, y, z] t f) :: L)) (x' y' z' : Value) :
    Sep (((w.setCell ⟨b, 0, none⟩ x').setCell ⟨b, 1, none⟩ y').setCell ⟨b, 2, none⟩ z') (pts b (.cells #[x', y', z'] t f) :: L) := by
  have hS3 := ((h.setCell 0 x').setCell 1 y').setCell 2 z'
  simpa only [List.setIfInBounds_toArray, List.set_cons_succ, List.set_cons_zero] using hS3

theorem box2 (hS : Sep w L) (o1 o2 : Obj) : Sep ((w.alloc o1).alloc o2) (pts (w.heap.size + 1) o2 :: pts w.heap.size o1 :: L) := by
  have := (hS.alloc o1).alloc o2
  simpa using this


end Go.Proofs.Ytkalpgngoijdmaa
