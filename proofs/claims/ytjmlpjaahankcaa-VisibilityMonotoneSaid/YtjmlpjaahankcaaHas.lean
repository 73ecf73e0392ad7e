/- Has -/
import Derived.Test.YtjmlpjaahankcaaBase
namespace Go.Proofs.Ytjmlpjaahankcaa
open Go.RowKit Go.Sl

variable {w : World} {L : List Asn}

/-- Is x an element of l? -/
def hasE (l : List Int) (x : Int) : Bool := l.contains x
theorem hasE_iff {l : List Int} {x : Int} : hasE l x = true ↔ x ∈ l := by simp [hasE]

set_option maxHeartbeats 400000 in
theorem Has_spec {v : Value} {l : List Int} (x : Int) (h : readsI w v l) (hl : l.length ≤ 1000000000000) :
    Calls Try.prog 23 #[v, i64 x] w fun e w' => e = .returned (.bool (hasE l x)) ∧ w = w' := by
  have hcell : ∀ k, k < l.length → ∃ b off cap, v = .slice (some ⟨b, off, none⟩) l.length cap ∧ w.cell? ⟨b, off + k, none⟩ = some (i64 (l.getD k 0)) := fun k hk => by
    obtain ⟨b, off, cap, hv, _, _, hc⟩ := readsI_at h (by omega)
    exact ⟨b, off, cap, hv, hc k hk⟩
  obtain ⟨a, c, rfl⟩ := readsI_len h
  have HC := Lib.hid hcell
  clear h hcell
  go_enter Try.func23, Try.ntmps23
  go_wp2
  go_loop [5] (fun i => ∃ k : Nat, k ≤ l.length ∧ i = .int .i64 k ∧ hasE (l.take k) x = false) (fun i => l.length - (intOf i).toNat)
  case atStart => exact ⟨0, Nat.zero_le _, rfl, by simp [hasE]⟩
  case round =>
    obtain ⟨k, hk, rfl, hno⟩ := hrel
    have HNO := Lib.hid hno
    clear hno
    by_cases hlt : k < l.length
    · obtain ⟨b, off, cap, hv, hc⟩ := HC.out k hlt
      obtain ⟨rfl, rfl⟩ : a = some ⟨b, off, none⟩ ∧ c = cap := by simpa using hv
      have hsn : l.take (k + 1) = l.take k ++ [l.getD k 0] := by rw [List.take_succ_eq_append_getElem hlt]; simp [List.getD, hlt]
      have hmem : l.getD k 0 ∈ l := by rw [show l.getD k 0 = l[k] by simp [List.getD, hlt]]; exact List.getElem_mem hlt
      have HSN := Lib.hid hsn
      have HMEM := Lib.hid hmem
      clear hv hsn hmem
      generalize l.getD k 0 = y at *
      by_cases hy : y = x
      · have hyb : (y == x) = true := by simpa using hy
        have HY := Lib.hid hy
        clear hy
        go_wp2
        go_ret
        refine ⟨?_, rfl⟩
        have : hasE l x = true := by rw [hasE_iff]; exact HY.out ▸ HMEM.out
        rw [this]; rfl
      · have hyb : (y == x) = false := by simpa using hy
        have HY := Lib.hid hy
        clear hy
        go_wp2
        go_round
        case rel =>
          refine ⟨k + 1, by omega, by go_num, ?_⟩
          have h := HNO.out
          rw [HSN.out]
          simp only [hasE, List.contains_append, Bool.or_eq_false_iff] at h ⊢
          exact ⟨h, by simpa using fun e => HY.out e.symm⟩
        case measure => simp [intOf]; omega
    · obtain rfl : k = l.length := by omega
      go_wp2
      go_ret
      refine ⟨?_, rfl⟩
      have h := HNO.out
      rw [List.take_length] at h
      rw [h]; rfl


end Go.Proofs.Ytjmlpjaahankcaa
