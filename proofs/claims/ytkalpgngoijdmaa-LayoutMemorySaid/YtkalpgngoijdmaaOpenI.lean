/- From the form's readings of the arguments to the readings that the walks take. -/
import Derived.Test.YtkalpgngoijdmaaBase
import Derived.ProofKit
import Derived.OpenShut
import Derived.ShutString
import Derived.ChangeOld
import Derived.Below
import Derived.Deep.Slices
namespace Go.Proofs.Ytkalpgngoijdmaa
open Go.RowKit Go.Sl
open Go.ChangeShapes Go.WideShapes Go.ChangeAt

theorem rowOwn : ownKnob Try.prog.godebug = none := by kernel_rfl
theorem rowLaidOut : laidOutB Try.prog = true := by kernel_rfl

theorem inI64_of_wf {x : Int} (h : (Lit.int .i64 x).wf = true) : inI64 x := by
  have h2 := h
  simp [Lit.wf, IntKind.min, IntKind.max, IntKind.signed, IntKind.bits] at h2
  exact h2

theorem readsI_of_trod {H : Type} {enc : TypeId × Value → H} {W : World} {base : Nat} {spare : Nat → Bool} {held : Bool} {a : Option Addr} {len cap : Nat} {d : DataW H} {ps : List MemPlace}
    (h : DataW.Trod enc Try.prog W base spare held 22 (.slice a len cap) d ps) (hsp : ∀ b, spare b = true) : ∃ l : List Int, readsI W (.slice a len cap) l ∧ l.length ≤ 9223372036854775807 ∧ ∀ x ∈ l, inI64 x := by
  obtain ⟨fuel, hf⟩ := h
  rcases open_ints Try.underlying22 Try.underlying3 (by kernel_rfl) hf with ⟨hcs, _⟩ | ⟨x, l, c, zs, hcs, _, hl, hm, hz, _, hcell, hwz⟩
  · simp [Value.cells] at hcs
    obtain ⟨rfl, rfl, rfl⟩ := hcs
    exact ⟨[], ⟨rfl, .inl ⟨rfl, none, 0, rfl, Nat.zero_le _, fun _ => rfl⟩⟩, by simp, by simp⟩
  · simp [Value.cells] at hcs
    obtain ⟨rfl, rfl, rfl⟩ := hcs
    have hz' : zs.length = cap := by simpa [hsp] using hz
    have e : (zs.take len).length = len := by rw [List.length_take, hz', Nat.min_eq_left hl]
    have hw : ∀ y ∈ zs.take len, inI64 y := fun y hy => inI64_of_wf (hwz y (List.mem_of_mem_take hy))
    by_cases h0 : len = 0
    · subst h0
      exact ⟨[], ⟨rfl, .inl ⟨rfl, some x, cap, rfl, hm, fun e => by cases e⟩⟩, by simp, by simp⟩
    · obtain ⟨b, off, rfl, hc⟩ := ints_at hcell (by omega)
      refine ⟨zs.take len, ⟨by rw [ints_length]; simp, .inr ⟨b, off, cap, by rw [e], by omega, hm, fun i hi => ?_⟩⟩, by rw [e]; unfold maxLen at hm; omega, hw⟩
      rw [ints_length, e] at hi
      rw [ints_get _ _ (by rw [e]; exact hi)]
      rw [hc i (by omega)]
      simp [List.getD, hi]


end Go.Proofs.Ytkalpgngoijdmaa
