/- Contracts: Validate at the example's setup, lives. -/
import Derived.Test.YtkalpgngoijdmaaValid
import Derived.Test.YtkalpgngoijdmaaSmall
import Derived.Deep.RegionHeld3
namespace Go.Proofs.Ytkalpgngoijdmaa
open Go.RowKit Go.Sl

variable {w : World} {L : List Asn}

set_option maxRecDepth 100000 in
set_option maxHeartbeats 4000000 in
theorem Validate0 {g : Nat} (hS : Sep w (pts g (.cells body0s 52) :: L)) :
    Calls Try.prog 13 #[.agg (su0s g)] w fun e w' => e = .returned (i64 0) ∧ Sep w' (pts g (.cells body0s 52) :: L) ∧ Stable w w' := by
  have hS1 : Sep (w.alloc (.cells (su0s g) 31)) (pts w.heap.size (.cells (su0s g) 31) :: _ :: L) := hS.alloc (.cells (su0s g) 31)
  have hst1 : Stable w (w.alloc (.cells (su0s g) 31)) := (Stable.refl w).alloc (.cells (su0s g) 31)
  have H1 := Lib.hid (And.intro hS1 hst1)
  clear hS hS1 hst1
  go_enter Try.func13, Try.ntmps13
  go_wp2_with fail
  generalize w.alloc (.cells (su0s g) 31) = w1 at H1 ⊢
  generalize w.heap.size = b at H1 ⊢
  go_loopw [14] (fun i wr => ∃ k : Nat, k ≤ 1 ∧ i = .int .i64 k ∧ Sep wr (pts b (.cells (su0s g) 31) :: pts g (.cells body0s 52) :: L) ∧ Stable w wr) (fun i _ => 1 - (intOf i).toNat)
  case atStart => exact ⟨0, Nat.zero_le _, rfl, H1.out.1, H1.out.2⟩
  case round =>
    clear H1
    obtain ⟨k, hk, rfl, hSr, hst⟩ := hrel
    have hcase : k = 0 ∨ k = 1 := by omega
    rcases hcase with rfl | rfl
    · have cc := cellD (hSr.pick 1)
      have c0 := cc 0
      have c1 := cc 1
      have c2 := cc 2
      have c3 := cc 3
      have c4 := cc 4
      have c5 := cc 5
      have c6 := cc 6
      have c7 := cc 7
      have c8 := cc 8
      have H1 := Lib.hid (And.intro (hSr.allocBeside (.cells body0s 52)) (hst.alloc (.cells body0s 52)))
      clear hSr hst cc
      go_wp2_with fail
      refine (shape0 _).mono ?_
      rintro e w2 ⟨rfl, hS2, hst2⟩
      have H2 := Lib.hid (And.intro (H1.out.1.mount hS2) (H1.out.2.trans hst2))
      clear hS2 hst2 c0 c1 c2 c3 c4 c5 c6 c7 c8
      go_wp2_with fail
      exact ⟨⟨1, by omega, by go_num, H2.out.1, H2.out.2⟩, by simp [intOf]⟩
    · have cc := cellD hSr
      have c1 := cc 1
      have c6 := cc 6
      have H1 := Lib.hid (And.intro (hSr.alloc (.cells #[i64 0] 3)) (hst.alloc (.cells #[i64 0] 3)))
      have d1 := cellD (hSr.allocBeside (.cells #[i64 0] 3)) 1
      clear cc hSr hst
      go_wp2_with fail
      generalize wr.heap.size = q at H1 ⊢
      refine (contains0 ((H1.out.1.pick 2).pick 2)).mono ?_
      rintro e w2 ⟨rfl, hS2, hst2⟩
      have cc := cellD hS2
      have e0 := cc 0
      have e1 := cc 1
      have e2 := cc 2
      have e3 := cc 3
      have e4 := cc 4
      have e5 := cc 5
      have e6 := cc 6
      have e7 := cc 7
      have e8 := cc 8
      have e9 := cc 9
      have e10 := cc 10
      have e11 := cc 11
      have e12 := cc 12
      have e13 := cc 13
      have e14 := cc 14
      have e15 := cc 15
      have f0 := cellD (hS2.pick 2) 0
      have H3 := Lib.hid (And.intro hS2 (H1.out.2.trans hst2))
      clear hS2 hst2 cc c1 c6 d1 H1
      go_wp2_with (first
        | (go_at_call 41; refine (rooms0 _ _).mono ?_; rintro e w' ⟨rfl, rfl⟩)
        | (go_at_call 44; refine (doors0 _ _).mono ?_; rintro e w' ⟨rfl, rfl⟩)
        | (go_at_call 46; refine (within_eq (b := true) (by decide) _).mono ?_; rintro e w' ⟨rfl, rfl⟩)
        | (go_at_call 47; refine (small_eq (b := true) (by decide) (by decide) _).mono ?_; rintro e w' ⟨rfl, rfl⟩)
        | (go_at_call 43; refine (proper0 _).mono ?_; rintro e w4 ⟨rfl, hS4, hst4⟩; have H4 := Lib.hid (And.intro (H3.out.1.mount hS4) (H3.out.2.trans hst4)); clear hS4 hst4))
      go_ret
      exact ⟨rfl, H4.out.1.drop.pick 1 |>.drop, H4.out.2⟩

/-- The example's setup. -/
@[reducible] def st0 (g : Nat) : St := ⟨1, 1, some ⟨g, 0, none⟩, 1, 0, 0, 0, 0, [], none, 0, [], none, 0, 0, 0, 0, 0, 0, 0, 1, 0⟩

theorem cellsAt {w : World} {g : Nat} {cs : Array Value} {t : TypeId} {f : Nat × Nat} (h : Sep w (pts g (.cells cs t f) :: L)) : ∀ j v, cs.toList[j]? = some v → w.cell? ⟨g, 0 + j, none⟩ = some v := fun j v hv => by
  rw [Nat.zero_add, cellD h]; simpa using hv
theorem Size0 (g : Nat) (w : World) : Calls Try.prog 21 #[.agg (su0s g)] w fun e w' => e = .returned (i64 60) ∧ Sep w' [old w] ∧ Stable w w' := Size_spec (st0 g) (show (0 : Int) ≤ 1 ∧ (1 : Int) ≤ 1000 by omega) (show (1 : Nat) ≤ 1000 by omega) w
theorem Player0 (g : Nat) (w : World) : Calls Try.prog 17 #[.agg (su0s g), i64 0] w fun e w' => e = .returned (i64 48) ∧ Sep w' [old w] ∧ Stable w w' := Player_spec (st0 g) 0 (show (0 : Int) ≤ 1 ∧ (1 : Int) ≤ 1000 by omega) w
theorem Body0 (g : Nat) (w : World) : Calls Try.prog 19 #[.agg (su0s g), i64 0] w fun e w' => e = .returned (i64 52) ∧ Sep w' [old w] ∧ Stable w w' := Body_spec (st0 g) 0 (show (0 : Int) ≤ 1 ∧ (1 : Int) ≤ 1000 by omega) (show (1 : Nat) ≤ 1000 by omega) w
theorem field0 : fieldAt ⟨#[118, 120]⟩ = 2 := by decide

set_option maxRecDepth 100000 in
set_option maxHeartbeats 4000000 in
theorem lives_spec (hS : Sep w L) :
    Calls Try.prog 15 #[] w fun e w' => e = .returned (.bool true) ∧ Sep w' L ∧ Stable w w' := by
  have HN := Lib.hid (And.intro (box2 hS (.cells body0s 52) (.cells (su0s w.heap.size) 31)) (((Stable.refl w).alloc (.cells body0s 52)).alloc (.cells (su0s w.heap.size) 31)))
  clear hS
  go_enter Try.func15, Try.ntmps15
  go_wp2_with (first
    | (refine wpList_load_at 31 _ rfl (w.heap.size + 1) 0 rfl (su0s w.heap.size) _ (cellsAt HN.out.1) Try.underlying31 rfl (by kernel_rfl) (by first | rfl | (go_simp; done)) ?_)
    | (go_at_call 13; refine (Validate0 (HN.out.1.pick 1)).mono ?_; rintro e w2 ⟨rfl, hS2, hst2⟩; have HN := Lib.hid (And.intro (hS2.pick 1) (HN.out.2.trans hst2)); clear hS2 hst2)
    | (go_at_call 21; refine (Size0 _ _).mono ?_; rintro e w2 ⟨rfl, hS2, hst2⟩; have HN := Lib.hid (And.intro (HN.out.1.mount hS2) (HN.out.2.trans hst2)); clear hS2 hst2)
    | (go_at_call 17; refine (Player0 _ _).mono ?_; rintro e w2 ⟨rfl, hS2, hst2⟩; have HN := Lib.hid (And.intro (HN.out.1.mount hS2) (HN.out.2.trans hst2)); clear hS2 hst2)
    | (go_at_call 19; refine (Body0 _ _).mono ?_; rintro e w2 ⟨rfl, hS2, hst2⟩; have HN := Lib.hid (And.intro (HN.out.1.mount hS2) (HN.out.2.trans hst2)); clear hS2 hst2)
    | (go_at_call 23; refine (Field_spec ⟨#[118, 120]⟩ (szle _ (by decide)) _).mono ?_; rintro e w2 ⟨rfl, hS2, hst2⟩; rw [field0]; have HN := Lib.hid (And.intro (HN.out.1.mount hS2) (HN.out.2.trans hst2)); clear hS2 hst2))
  go_ret
  exact ⟨rfl, HN.out.1.drop.drop, HN.out.2⟩

end Go.Proofs.Ytkalpgngoijdmaa
