/- Contracts: Pick. -/
import Derived.Test.YtjmlpjaahankcaaAround
namespace Go.Proofs.Ytjmlpjaahankcaa
open Go.RowKit Go.Sl

variable {w : World} {L : List Asn}

def pickI (l : List Int) (i : Nat) (m : Int) : Int := if i < l.length then around (l.getD i 0) m else 0
theorem pickI_lo {l : List Int} {i : Nat} {m : Int} (hm : 1 ≤ m) : 0 ≤ pickI l i m := by unfold pickI; split; exact around_lo hm; omega
theorem pickI_hi {l : List Int} {i : Nat} {m : Int} (hm : 1 ≤ m) : pickI l i m < m := by unfold pickI; split; exact around_hi hm; omega

set_option maxHeartbeats 400000 in
theorem Pick_spec {v : Value} {l : List Int} (i : Nat) (m : Int) (hr : readsI w v l) (hl : ∀ x ∈ l, inI64 x) (hm : 1 ≤ m) (hm2 : m ≤ 9223372036854775807) :
    Calls Try.prog 30 #[v, i64 i, i64 m] w fun e w' => e = .returned (i64 (pickI l i m)) ∧ w = w' := by
  by_cases h : i < l.length
  · have hp : pickI l i m = around (l.getD i 0) m := by unfold pickI; rw [if_pos h]
    rw [hp]
    have har := fun w => Around_spec (l.getD i 0) m w hm hm2 (hl _ (by rw [show l.getD i 0 = l[i] by simp [List.getD, h]]; exact List.getElem_mem h))
    obtain ⟨b, off, cap, rfl, _, _, hc⟩ := readsI_at hr (by omega)
    have c0 := hc i h
    have HA := Lib.hid har
    clear har hc hr hl hp
    generalize l.getD i 0 = x at *
    go_enter Try.func30, Try.ntmps30
    go_wp2_with fail
    refine (HA.out _).mono ?_
    rintro e w1 ⟨rfl, rfl⟩
    go_wp2_with fail
    go_ret
    exact ⟨rfl, rfl⟩
  · have hp : pickI l i m = 0 := by unfold pickI; rw [if_neg h]
    rw [hp]
    obtain ⟨a, c, rfl⟩ := readsI_len hr
    have h' : l.length ≤ i := by omega
    clear hr hl hp h
    go_enter Try.func30, Try.ntmps30
    go_wp2_with fail
    go_ret
    exact ⟨rfl, rfl⟩

end Go.Proofs.Ytjmlpjaahankcaa
