/- From the form's readings of the arguments to the readings that the walks take. -/
import Derived.Test.YtcpicaalponnlaaRef1
import Derived.ProofKit
import Derived.OpenShut
import Derived.ShutString
import Derived.ChangeOld
import Derived.Below
import Derived.Deep.Slices
namespace Go.Proofs.Ytcpicaalponnlaa
open Go.RowKit Go.Sl
open Go.ChangeShapes Go.WideShapes Go.ChangeAt

theorem rowOwn : ownKnob Try.prog.godebug = none := by kernel_rfl
theorem rowLaidOut : laidOutB Try.prog = true := by kernel_rfl

theorem inI64_of_wf {x : Int} (h : (Lit.int .i64 x).wf = true) : inI64 x := by
  have h2 := h
  simp [Lit.wf, IntKind.min, IntKind.max, IntKind.signed, IntKind.bits] at h2
  exact h2

theorem readsI_of_trod {H : Type} {enc : TypeId × Value → H} {W : World} {base : Nat} {spare : Nat → Bool} {held : Bool} {a : Option Addr} {len cap : Nat} {d : DataW H} {ps : List MemPlace}
    (h : DataW.Trod enc Try.prog W base spare held 22 (.slice a len cap) d ps) (hsp : ∀ b, spare b = true) : ∃ l : List Int, readsI W (.slice a len cap) l ∧ l.length ≤ 9223372036854775807 ∧ ∀ x ∈ l, inI64 x := by
  obtain ⟨fuel, hf⟩ := h
  rcases open_ints Try.underlying22 Try.underlying3 (by kernel_rfl) hf with ⟨hcs, _⟩ | ⟨x, l, c, zs, hcs, _, hl, hm, hz, _, hcell, hwz⟩
  · simp [Value.cells] at hcs
    obtain ⟨rfl, rfl, rfl⟩ := hcs
    exact ⟨[], ⟨rfl, .inl ⟨rfl, none, 0, rfl, Nat.zero_le _, fun _ => rfl⟩⟩, by simp, by simp⟩
  · simp [Value.cells] at hcs
    obtain ⟨rfl, rfl, rfl⟩ := hcs
    have hz' : zs.length = cap := by simpa [hsp] using hz
    have e : (zs.take len).length = len := by rw [List.length_take, hz', Nat.min_eq_left hl]
    have hw : ∀ y ∈ zs.take len, inI64 y := fun y hy => inI64_of_wf (hwz y (List.mem_of_mem_take hy))
    by_cases h0 : len = 0
    · subst h0
      exact ⟨[], ⟨rfl, .inl ⟨rfl, some x, cap, rfl, hm, fun e => by cases e⟩⟩, by simp, by simp⟩
    · obtain ⟨b, off, rfl, hc⟩ := ints_at hcell (by omega)
      refine ⟨zs.take len, ⟨by rw [ints_length]; simp, .inr ⟨b, off, cap, by rw [e], by omega, hm, fun i hi => ?_⟩⟩, by rw [e]; unfold maxLen at hm; omega, hw⟩
      rw [ints_length, e] at hi
      rw [ints_get _ _ (by rw [e]; exact hi)]
      rw [hc i (by omega)]
      simp [List.getD, hi]

abbrev readsP (w : World) (v : Value) (l : List (Int × Int)) : Prop := readsAs w 2 v l.length (ents l)

theorem readsP_of_trod {H : Type} {enc : TypeId × Value → H} {W : World} {base : Nat} {spare : Nat → Bool} {held : Bool} {a : Option Addr} {len cap : Nat} {d : DataW H} {ps : List MemPlace}
    (h : DataW.Trod enc Try.prog W base spare held 39 (.slice a len cap) d ps) (hsp : ∀ b, spare b = true) : ∃ l : List (Int × Int), readsP W (.slice a len cap) l ∧ l.length ≤ 9223372036854775807 ∧ ∀ x ∈ l, inI64 x.1 ∧ inI64 x.2 := by
  obtain ⟨fuel, hf⟩ := h
  have hce : Try.prog.cellsOf 42 = 2 := by kernel_rfl
  have hci : Try.prog.cellsOf 3 = 1 := by kernel_rfl
  rcases Go.Deep.open_slice Try.underlying39 hf with ⟨hcs, _⟩ | ⟨x, l, c, m, n, D, Pl, hcs, _, hl, hm, hmm, _, hel⟩
  · simp [Value.cells] at hcs
    obtain ⟨rfl, rfl, rfl⟩ := hcs
    exact ⟨[], ⟨rfl, .inl ⟨rfl, none, 0, rfl, Nat.zero_le _, fun _ => rfl⟩⟩, by simp, by simp⟩
  · simp [Value.cells] at hcs
    obtain ⟨rfl, rfl, rfl⟩ := hcs
    rw [hsp, if_pos rfl] at hmm
    rw [hce] at hel
    by_cases h0 : len = 0
    · subst h0
      exact ⟨[], ⟨rfl, .inl ⟨rfl, some x, cap, rfl, hm, fun e => by cases e⟩⟩, by simp, by simp⟩
    · have hel2 : ∀ i, i < m → ∃ y z : Int, W.cell? (x.add (i * 2)) = some (i64 y) ∧ W.cell? ((x.add (i * 2)).add 1) = some (i64 z) ∧ inI64 y ∧ inI64 z := by
        intro i hi
        obtain ⟨cs', hc, ht⟩ := hel i hi
        obtain ⟨xs, k, _, _, hlen, hxl, hall⟩ := DataW.trod_array Try.underlying42 ht
        rw [hce] at hlen
        rw [hci] at hall
        match cs', hlen with
        | [c0, c1], _ =>
          have g0 := hall 0 (by omega)
          have g1 := hall 1 (by omega)
          simp only [Nat.zero_mul, List.drop_zero, Nat.one_mul, List.take_succ_cons, List.take_zero, List.drop_succ_cons] at g0 g1
          rw [List.getElem?_eq_getElem (by omega)] at g0 g1
          obtain ⟨y, e0, _, w0⟩ := DataW.trod_int Try.underlying3 g0
          obtain ⟨z, e1, _, w1⟩ := DataW.trod_int Try.underlying3 g1
          simp at e0 e1
          subst e0 e1
          refine ⟨y, z, ?_, ?_, inI64_of_wf w0, inI64_of_wf w1⟩
          · have q := (World.cells?_some hc).2.2 0 (by omega)
            rw [show (x.add (i * 2)).add 0 = x.add (i * 2) from rfl] at q
            exact q
          · exact (World.cells?_some hc).2.2 1 (by omega)
      have hm0 : len ≤ m := by omega
      obtain ⟨b, off, rfl⟩ : ∃ b off, x = ⟨b, off, none⟩ := by
        obtain ⟨y, _, q, _⟩ := hel2 0 (by omega)
        rw [Nat.zero_mul, show x.add 0 = x from rfl] at q
        obtain ⟨b, off, sp⟩ := x
        cases sp with
        | none => exact ⟨b, off, rfl⟩
        | some s =>
          unfold World.cell? at q
          split at q
          · simp at q
          · cases q
      have hch : ∀ i : Nat, ∃ yz : Int × Int, i < len → W.cell? ⟨b, off + i * 2, none⟩ = some (i64 yz.1) ∧ W.cell? ⟨b, off + i * 2 + 1, none⟩ = some (i64 yz.2) ∧ inI64 yz.1 ∧ inI64 yz.2 := by
        intro i
        by_cases hi : i < len
        · obtain ⟨y, z, q1, q2, q3, q4⟩ := hel2 i (by omega)
          rw [Addr.add_lit] at q1 q2
          rw [Addr.add_lit] at q2
          exact ⟨(y, z), fun _ => ⟨q1, q2, q3, q4⟩⟩
        · exact ⟨(0, 0), fun h => absurd h hi⟩
      obtain ⟨f, hf⟩ := Classical.axiomOfChoice hch
      have hlen : ((List.range len).map f).length = len := by simp
      refine ⟨(List.range len).map f, ⟨by rw [ents_length], .inr ⟨b, off, cap, by rw [hlen], by omega, hm, fun i hi => ?_⟩⟩, by rw [hlen]; unfold maxLen at hm; omega, fun y hy => ?_⟩
      · rw [ents_length, hlen] at hi
        obtain ⟨q1, q2, _⟩ := hf (i / 2) (by omega)
        have e := ents_get ((List.range len).map f) (i / 2) (by rw [hlen]; omega)
        rw [show ((List.range len).map f).getD (i / 2) (0, 0) = f (i / 2) by simp [List.getD, show i / 2 < len by omega]] at e
        rcases Nat.mod_two_eq_zero_or_one i with hi2 | hi2
        · rw [show i / 2 * 2 = i by omega] at e q1
          rw [e.1]; exact q1
        · rw [show i / 2 * 2 + 1 = i by omega] at e
          rw [e.2, show off + i = off + i / 2 * 2 + 1 by omega]; exact q2
      · obtain ⟨i, hi, rfl⟩ := List.mem_map.1 hy
        exact (hf i (List.mem_range.1 hi)).2.2

end Go.Proofs.Ytcpicaalponnlaa
