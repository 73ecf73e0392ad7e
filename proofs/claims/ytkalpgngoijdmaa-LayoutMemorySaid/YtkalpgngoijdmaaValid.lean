/- Contracts: Validate at the example's setup. -/
import Derived.Test.YtkalpgngoijdmaaField
import Derived.Test.YtkalpgngoijdmaaMotion
namespace Go.Proofs.Ytkalpgngoijdmaa
open Go.RowKit Go.Sl

variable {w : World} {L : List Asn}

theorem small_eq {n m : Int} {b : Bool} (hm : 0 ≤ m ∧ m ≤ 1000000000000) (h : inR n (-m) m = b) (w : World) :
    Calls Try.prog 47 #[i64 n, i64 m] w fun e w' => e = .returned (.bool b) ∧ w = w' := by
  have HW := Lib.hid (within_eq h w)
  clear h
  go_enter Try.func47, Try.ntmps47
  go_wp2_with fail
  refine HW.out.mono ?_
  rintro e w' ⟨rfl, rfl⟩
  go_wp2_with fail
  go_ret
  exact ⟨rfl, rfl⟩

@[reducible] def body0 : Value := .agg #[i64 5, .slice none 0 0, i64 0, i64 0, i64 0, i64 0, i64 0, i64 0, i64 0]
@[reducible] def box0 : Value := .agg #[i64 0, i64 0, i64 0, i64 0]

set_option maxRecDepth 100000 in
set_option maxHeartbeats 4000000 in
theorem validBody0 (w : World) :
    Calls Try.prog 40 #[body0, box0] w fun e w' => e = .returned (.bool true) ∧ Sep w' [old w] ∧ Stable w w' := by
  have H0 := fun o1 o2 o3 => And.intro ((((Sep.start w).allocBeside o1).allocBeside o2).allocBeside o3) ((((Stable.refl w).alloc o1).alloc o2).alloc o3)
  have H0 := Lib.hid H0
  go_enter Try.func40, Try.ntmps40
  go_wp2_with (first
    | (go_at_call 46; refine (within_eq (b := true) (by decide) _).mono ?_; rintro e w' ⟨rfl, rfl⟩)
    | (go_at_call 47; refine (small_eq (b := true) (by decide) (by decide) _).mono ?_; rintro e w' ⟨rfl, rfl⟩))
  go_ret
  exact ⟨rfl, H0.out _ _ _⟩

set_option maxRecDepth 100000 in
set_option maxHeartbeats 4000000 in
theorem proper0 (w : World) :
    Calls Try.prog 43 #[box0] w fun e w' => e = .returned (.bool true) ∧ Sep w' [old w] ∧ Stable w w' := by
  have H0 := fun o1 => And.intro ((Sep.start w).allocBeside o1) ((Stable.refl w).alloc o1)
  have H0 := Lib.hid H0
  go_enter Try.func43, Try.ntmps43
  go_wp2_with (first
    | (go_at_call 47; refine (small_eq (b := true) (by decide) (by decide) _).mono ?_; rintro e w' ⟨rfl, rfl⟩))
  go_ret
  exact ⟨rfl, H0.out _⟩

set_option maxRecDepth 100000 in
set_option maxHeartbeats 4000000 in
theorem shape0 (w : World) :
    Calls Try.prog 25 #[.agg #[i64 5, .slice none 0 0]] w fun e w' => e = .returned (i64 0) ∧ Sep w' [old w] ∧ Stable w w' := by
  have H0 := fun o1 o2 o3 => And.intro ((((Sep.start w).allocBeside o1).allocBeside o2).allocBeside o3) ((((Stable.refl w).alloc o1).alloc o2).alloc o3)
  have H0 := Lib.hid H0
  go_enter Try.func25, Try.ntmps25
  go_wp2_with fail
  refine bodyPost_ret (v := i64 0) (by simp [results, Try.results25, go_sem]) rfl ?_
  exact ⟨rfl, H0.out _ _ _⟩

theorem cellD {w : World} {g : Nat} {cs : Array Value} {t : TypeId} {f : Nat × Nat} (h : Sep w (pts g (.cells cs t f) :: L)) (i : Nat) : w.cell? ⟨g, i, none⟩ = cs[i]? := cell_of_blk h.get i

@[reducible] def body0s : Array Value := #[i64 5, .slice none 0 0, i64 0, i64 0, i64 0, i64 0, i64 0, i64 0, i64 0]
@[reducible] def su0s (g : Nat) : Array Value := #[i64 1, .slice (some ⟨g, 0, none⟩) 1 1, i64 0, i64 0, i64 0, i64 0, .slice none 0 0, .slice none 0 0, i64 0, i64 0, i64 0, i64 0, i64 0, i64 0, i64 1, i64 0]

set_option maxRecDepth 100000 in
set_option maxHeartbeats 4000000 in
theorem closure0 {g b : Nat} (hS : Sep w (pts b (.cells (su0s g) 31) :: L)) :
    Calls Try.prog 39 #[body0, .pointer (some ⟨b, 0, none⟩)] w fun e w' => e = .returned (.bool false) ∧ Sep w' (pts b (.cells (su0s g) 31) :: L) ∧ Stable w w' := by
  have H0 := fun o1 => And.intro (hS.allocBeside o1) ((Stable.refl w).alloc o1)
  have H0 := Lib.hid H0
  have c2 : (w.alloc (.cells #[i64 5, .slice none 0 0, i64 0, i64 0, i64 0, i64 0, i64 0, i64 0, i64 0] 52)).cell? ⟨b, 2, none⟩ = some (i64 0) := cellD (hS.allocBeside _) 2
  have c3 : (w.alloc (.cells #[i64 5, .slice none 0 0, i64 0, i64 0, i64 0, i64 0, i64 0, i64 0, i64 0] 52)).cell? ⟨b, 3, none⟩ = some (i64 0) := cellD (hS.allocBeside _) 3
  have c4 : (w.alloc (.cells #[i64 5, .slice none 0 0, i64 0, i64 0, i64 0, i64 0, i64 0, i64 0, i64 0] 52)).cell? ⟨b, 4, none⟩ = some (i64 0) := cellD (hS.allocBeside _) 4
  have c5 : (w.alloc (.cells #[i64 5, .slice none 0 0, i64 0, i64 0, i64 0, i64 0, i64 0, i64 0, i64 0] 52)).cell? ⟨b, 5, none⟩ = some (i64 0) := cellD (hS.allocBeside _) 5
  clear hS
  go_enter Try.func39, Try.ntmps39
  go_wp2_with (first
    | (go_at_call 40; refine (validBody0 _).mono ?_; rintro e w' ⟨rfl, hS1, hst1⟩; have H1 := Lib.hid (And.intro ((H0.out _).1.mount hS1) ((H0.out _).2.trans hst1)); clear hS1 hst1))
  go_ret
  exact ⟨rfl, H1.out.1, H1.out.2⟩

set_option maxRecDepth 100000 in
set_option maxHeartbeats 4000000 in
theorem index0 {g b : Nat} (hS : Sep w (pts b (.cells (su0s g) 31) :: pts g (.cells body0s 52) :: L)) :
    Calls Try.prog 57 #[.slice (some ⟨g, 0, none⟩) 1 1, .func (.func 39) #[] #[.pointer (some ⟨b, 0, none⟩)]] w fun e w' => e = .returned (i64 (-1)) ∧
      Sep w' (pts b (.cells (su0s g) 31) :: pts g (.cells body0s 52) :: L) ∧ Stable w w' := by
  have HS := Lib.hid hS
  clear hS
  go_enter Try.func57, Try.ntmps57
  go_wp2_with fail
  go_loopw [5, 8] (fun j i wr => ∃ k : Nat, k ≤ 1 ∧ i = .int .i64 k ∧ Sep wr (pts b (.cells (su0s g) 31) :: pts g (.cells body0s 52) :: L) ∧ Stable w wr) (fun _ i _ => 1 - (intOf i).toNat)
  case atStart => exact ⟨0, Nat.zero_le _, rfl, HS.out, Stable.refl w⟩
  case round =>
    obtain ⟨k, hk, rfl, hSr, hst⟩ := hrel
    have hcase : k = 0 ∨ k = 1 := by omega
    rcases hcase with rfl | rfl
    · have cc := cellD (hSr.pick 1)
      have c0 := cc 0
      have c1 := cc 1
      have c2 := cc 2
      have c3 := cc 3
      have c4 := cc 4
      have c5 := cc 5
      have c6 := cc 6
      have c7 := cc 7
      have c8 := cc 8
      have H1 := Lib.hid (And.intro hSr hst)
      clear hSr hst cc
      go_wp2_with fail
      refine (closure0 H1.out.1).mono ?_
      rintro e w2 ⟨rfl, hS2, hst2⟩
      have H2 := Lib.hid (And.intro hS2 (H1.out.2.trans hst2))
      clear hS2 hst2
      go_wp2_with fail
      exact ⟨⟨1, by omega, by go_num, H2.out.1, H2.out.2⟩, by simp [intOf]⟩
    · have H1 := Lib.hid (And.intro hSr hst)
      clear hSr hst
      go_wp2_with fail
      go_ret
      exact ⟨rfl, H1.out.1, H1.out.2⟩

set_option maxRecDepth 100000 in
set_option maxHeartbeats 4000000 in
theorem contains0 {g b : Nat} (hS : Sep w (pts b (.cells (su0s g) 31) :: pts g (.cells body0s 52) :: L)) :
    Calls Try.prog 38 #[.slice (some ⟨g, 0, none⟩) 1 1, .func (.func 39) #[] #[.pointer (some ⟨b, 0, none⟩)]] w fun e w' => e = .returned (.bool false) ∧
      Sep w' (pts b (.cells (su0s g) 31) :: pts g (.cells body0s 52) :: L) ∧ Stable w w' := by
  have HS := Lib.hid (index0 hS)
  clear hS
  go_enter Try.func38, Try.ntmps38
  go_wp2_with fail
  refine HS.out.mono ?_
  rintro e w2 ⟨rfl, hS2, hst2⟩
  have H2 := Lib.hid (And.intro hS2 hst2)
  clear hS2 hst2
  go_wp2_with fail
  go_ret
  exact ⟨rfl, H2.out.1, H2.out.2⟩

set_option maxRecDepth 100000 in
set_option maxHeartbeats 4000000 in
theorem rooms0 (f : Value) (w : World) :
    Calls Try.prog 41 #[.slice none 0 0, f] w fun e w' => e = .returned (.bool false) ∧ w = w' := by
  have hI : Calls Try.prog 58 #[.slice none 0 0, f] w fun e w' => e = .returned (i64 (-1)) ∧ w = w' := by
    go_enter Try.func58, Try.ntmps58
    go_wp2_with fail
    go_loopw [8] (fun i wr => i = .int .i64 0 ∧ w = wr) (fun _ _ => 0)
    case atStart => exact ⟨rfl, rfl⟩
    case round =>
      obtain ⟨rfl, rfl⟩ := hrel
      go_wp2_with fail
      go_ret
      exact ⟨rfl, rfl⟩
  have HS := Lib.hid hI
  clear hI
  go_enter Try.func41, Try.ntmps41
  go_wp2_with fail
  refine HS.out.mono ?_
  rintro e w2 ⟨rfl, rfl⟩
  go_wp2_with fail
  go_ret
  exact ⟨rfl, rfl⟩

set_option maxRecDepth 100000 in
set_option maxHeartbeats 4000000 in
theorem doors0 (f : Value) (w : World) :
    Calls Try.prog 44 #[.slice none 0 0, f] w fun e w' => e = .returned (.bool false) ∧ w = w' := by
  have hI : Calls Try.prog 59 #[.slice none 0 0, f] w fun e w' => e = .returned (i64 (-1)) ∧ w = w' := by
    go_enter Try.func59, Try.ntmps59
    go_wp2_with fail
    go_loopw [8] (fun i wr => i = .int .i64 0 ∧ w = wr) (fun _ _ => 0)
    case atStart => exact ⟨rfl, rfl⟩
    case round =>
      obtain ⟨rfl, rfl⟩ := hrel
      go_wp2_with fail
      go_ret
      exact ⟨rfl, rfl⟩
  have HS := Lib.hid hI
  clear hI
  go_enter Try.func44, Try.ntmps44
  go_wp2_with fail
  refine HS.out.mono ?_
  rintro e w2 ⟨rfl, rfl⟩
  go_wp2_with fail
  go_ret
  exact ⟨rfl, rfl⟩

end Go.Proofs.Ytkalpgngoijdmaa
