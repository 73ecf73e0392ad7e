/- Contracts: Field, the reference's. -/
import Derived.Test.YtkalpgngoijdmaaLives
import Derived.Laws.Strings
namespace Go.Proofs.Ytkalpgngoijdmaa
open Go.RowKit Go.Sl

theorem str_ne {a b : ByteArray} (h : ¬ a = b) : (a.toList == b.toList) = false := by
  rw [ByteArray.toList_eq, ByteArray.toList_eq, beq_eq_false_iff_ne]
  intro h2
  apply h
  obtain ⟨a⟩ := a
  obtain ⟨b⟩ := b
  congr 1
  exact Array.toList_inj.1 h2
def nmL : List ByteArray := [⟨#[120]⟩, ⟨#[121]⟩, ⟨#[118, 120]⟩, ⟨#[118, 121]⟩, ⟨#[97]⟩, ⟨#[98]⟩, ⟨#[104, 105, 116]⟩, ⟨#[115, 116, 105, 108, 108]⟩]
def nm (j : Nat) : ByteArray := nmL.getD j ⟨#[]⟩
theorem fieldAt_nm : ∀ j, j < 8 → fieldAt (nm j) = j := by decide
theorem nm_size : ∀ j, j < 8 → (nm j).size ≤ 100 := by decide
theorem toList_inj {s : ByteArray} {l : List UInt8} (h : s.data.toList = l) : s = ⟨l.toArray⟩ := by
  obtain ⟨d⟩ := s
  subst h
  rfl
theorem fieldAt_none {s : ByteArray} (h : ∀ j, j < 8 → nm j ≠ s) : fieldAt s = -1 := by
  unfold fieldAt fNames
  have k : ∀ j, j < 8 → ∀ l, nm j = ⟨l.toArray⟩ → ¬ s.data.toList = l := fun j hj l hl e => h j hj (hl.trans (toList_inj e).symm)
  simp only [fOf]
  rw [if_neg (k 7 (by omega) _ rfl), if_neg (k 6 (by omega) _ rfl), if_neg (k 5 (by omega) _ rfl), if_neg (k 4 (by omega) _ rfl), if_neg (k 3 (by omega) _ rfl), if_neg (k 2 (by omega) _ rfl), if_neg (k 1 (by omega) _ rfl), if_neg (k 0 (by omega) _ rfl)]
@[reducible] def nmC : Array Value := #[.string ⟨#[120]⟩, .string ⟨#[121]⟩, .string ⟨#[118, 120]⟩, .string ⟨#[118, 121]⟩, .string ⟨#[97]⟩, .string ⟨#[98]⟩, .string ⟨#[104, 105, 116]⟩, .string ⟨#[115, 116, 105, 108, 108]⟩]
theorem nmC_get : ∀ j, j < 8 → nmC[j]? = some (.string (nm j))
  | 0, _ => rfl | 1, _ => rfl | 2, _ => rfl | 3, _ => rfl | 4, _ => rfl | 5, _ => rfl | 6, _ => rfl | 7, _ => rfl
  | n + 8, h => absurd h (by omega)

set_option maxRecDepth 100000 in
set_option maxHeartbeats 4000000 in
theorem FieldR_spec (s : ByteArray) (w : World) :
    Calls Try.prog 24 #[.string s] w fun e w' => e = .returned (i64 (fieldAt s)) ∧ Sep w' [old w] ∧ Stable w w' := by
  have H0 := Lib.hid (And.intro ((Sep.start w).alloc (.cells nmC 9)) ((Stable.refl w).alloc (.cells nmC 9)))
  go_enter Try.func24, Try.ntmps24
  go_wp2_with fail
  generalize w.heap.size = g at H0 ⊢
  go_loopw [4] (fun i wr => ∃ k : Nat, k ≤ 8 ∧ i = .int .i64 k ∧ (∀ j, j < k → nm j ≠ s) ∧ Sep wr [pts g (.cells nmC 9), old w] ∧ Stable w wr) (fun i _ => 8 - (intOf i).toNat)
  case atStart => exact ⟨0, Nat.zero_le _, rfl, by simp, H0.out.1, H0.out.2⟩
  case round =>
    clear H0
    obtain ⟨k, hk, rfl, hno, hSr, hst⟩ := hrel
    by_cases hlt : k < 8
    · have c0 : wr.cell? ⟨g, k, none⟩ = some (.string (nm k)) := (cellD hSr k).trans (nmC_get k hlt)
      have hat := fieldAt_nm k hlt
      have hno2 : nm k ≠ s → ∀ j, j < k + 1 → nm j ≠ s := fun h j hj => by
        rcases Nat.lt_or_ge j k with h2 | h2
        · exact hno j h2
        · obtain rfl : j = k := by omega
          exact h
      have H1 := Lib.hid (And.intro (show Sep wr [old w] from hSr.drop) (And.intro hst (And.intro hSr (And.intro hat hno2))))
      clear hSr hst hno hat hno2
      generalize nm k = y at *
      by_cases hy : y = s
      · subst hy
        go_wp2_with fail
        go_ret
        exact ⟨by rw [H1.out.2.2.2.1]; rfl, H1.out.1, H1.out.2.1⟩
      · have hyb := str_ne hy
        go_wp2_with fail
        exact ⟨⟨k + 1, by omega, by go_num, H1.out.2.2.2.2 hy, H1.out.2.2.1, H1.out.2.1⟩, by simp [intOf]; omega⟩
    · obtain rfl : k = 8 := by omega
      have hn := fieldAt_none hno
      have H1 := Lib.hid (And.intro (show Sep wr [old w] from hSr.drop) (And.intro hst hn))
      clear hSr hst hno hn
      go_wp2_with fail
      go_ret
      exact ⟨by rw [H1.out.2.2]; rfl, H1.out.1, H1.out.2.1⟩

end Go.Proofs.Ytkalpgngoijdmaa
