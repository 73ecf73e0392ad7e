/- The walk of LayoutFields. -/
import Derived.Test.YtkalpgngoijdmaaFieldR
namespace Go.Proofs.Ytkalpgngoijdmaa
open Go.RowKit Go.Sl

@[reducible] def ofC : Array Value := #[i64 0, i64 1, i64 2, i64 3, i64 4, i64 5, i64 6, i64 7]
theorem ofC_get : ∀ j : Nat, j < 8 → ofC[j]? = some (i64 (j : Int))
  | 0, _ => rfl | 1, _ => rfl | 2, _ => rfl | 3, _ => rfl | 4, _ => rfl | 5, _ => rfl | 6, _ => rfl | 7, _ => rfl
  | n + 8, h => absurd h (by omega)

set_option maxRecDepth 100000 in
set_option maxHeartbeats 4000000 in
theorem layoutFields_walk {w : World} (s : ByteArray) (hs : s.size ≤ maxLen) :
    Calls Try.prog 5 #[.string s] w fun e w' => e = .returned (.bool true) ∧ Below w.heap.size w w' := by
  have H0 := Lib.hid (And.intro (box2 (Sep.start w) (.cells nmC 9) (.cells ofC 3)) (((Stable.refl w).alloc (.cells nmC 9)).alloc (.cells ofC 3)))
  have HF := Lib.hid (And.intro (Field_spec s hs) (FieldR_spec s))
  clear hs
  go_enter Try.func5, Try.ntmps5
  go_wp2_with fail
  generalize w.heap.size + 1 = g2 at H0 ⊢
  generalize w.heap.size = g1 at H0 ⊢
  go_loopw [5] (fun i wr => ∃ k : Nat, k ≤ 8 ∧ i = .int .i64 k ∧ Sep wr [pts g2 (.cells ofC 3), pts g1 (.cells nmC 9), old w] ∧ Stable w wr) (fun i _ => 8 - (intOf i).toNat)
  case atStart => exact ⟨0, Nat.zero_le _, rfl, H0.out.1, H0.out.2⟩
  case round =>
    clear H0
    obtain ⟨k, hk, rfl, hSr, hst⟩ := hrel
    by_cases hlt : k < 8
    · have hq : ∀ (W : World) (M : List Asn), Sep W (pts g2 (.cells ofC 3) :: pts g1 (.cells nmC 9) :: M) → W.cell? ⟨g1, k, none⟩ = some (.string (nm k)) ∧ W.cell? ⟨g2, k, none⟩ = some (i64 (k : Int)) := fun W M hW =>
        ⟨(cellD hW.drop k).trans (nmC_get k hlt), (cellD hW k).trans (ofC_get k hlt)⟩
      have hfd := Field_spec (nm k) (szle _ (nm_size k hlt))
      rw [fieldAt_nm k hlt] at hfd
      have HD := Lib.hid (And.intro hfd hq)
      have q := hq _ _ hSr
      have H1 := Lib.hid (And.intro hSr hst)
      clear hSr hst hfd hq
      generalize nm k = y at *
      go_wp2_with fail
      have q := HD.out.2 _ _ (show Sep wr.drew _ from H1.out.1)
      go_region_held3 (fun w' => w'.cell? ⟨g1, k, none⟩ = some (.string y) ∧ w'.cell? ⟨g2, k, none⟩ = some (i64 (k : Int))) (first | exact q) (first
        | (go_at_call 23; refine (HD.out.1 _).mono ?_; rintro e w4 ⟨rfl, hS4', hst4'⟩; have hS4 := Sep.mount (M := []) (show Sep wr.drew _ from H1.out.1) hS4'; have hst4 := H1.out.2.drew.trans hst4'; have q := HD.out.2 _ _ hS4))
      have H4 := Lib.hid (And.intro hS4 hst4)
      clear hS4 hst4 hS4' hst4' q
      go_wp2_with fail
      exact ⟨⟨k + 1, by omega, by go_num, H4.out.1, H4.out.2⟩, by simp [intOf]; omega⟩
    · obtain rfl : k = 8 := by omega
      have HN := Lib.hid (And.intro hSr hst)
      clear hSr hst
      go_wp2_with (first
        | (go_at_call 23; refine (HF.out.1 _).mono ?_; rintro e w2 ⟨rfl, hS2, hst2⟩; have HN := Lib.hid (And.intro (HN.out.1.mount hS2) (HN.out.2.trans hst2)); clear hS2 hst2)
        | (go_at_call 24; refine (HF.out.2 _).mono ?_; rintro e w2 ⟨rfl, hS2, hst2⟩; have HN := Lib.hid (And.intro (HN.out.1.mount hS2) (HN.out.2.trans hst2)); clear hS2 hst2)
        | (go_at_call 15; refine (lives_spec HN.out.1).mono ?_; rintro e w2 ⟨rfl, hS2, hst2⟩; have HN := Lib.hid (And.intro hS2 (HN.out.2.trans hst2)); clear hS2 hst2))
      go_ret
      exact ⟨rfl, Sep.below HN.out.1.drop.drop HN.out.2⟩

end Go.Proofs.Ytkalpgngoijdmaa
