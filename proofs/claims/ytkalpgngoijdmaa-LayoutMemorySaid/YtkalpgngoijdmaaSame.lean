/- SameInts -/
import Derived.Test.YtkalpgngoijdmaaBase
namespace Go.Proofs.Ytkalpgngoijdmaa
open Go.RowKit Go.Sl

variable {w : World} {L : List Asn}

/-- Are the lists one? -/
def sameE (l r : List Int) : Bool := decide (l = r)
theorem sameE_iff {l r : List Int} : sameE l r = true ↔ l = r := by simp [sameE]
theorem sameE_self (l : List Int) : sameE l l = true := by simp [sameE]

set_option maxHeartbeats 400000 in
theorem SameInts_spec {u v : Value} {l r : List Int} (h : readsI w u l) (h' : readsI w v r) (hl : l.length ≤ 1000000000000) (hr : r.length ≤ 1000000000000) :
    Calls Try.prog 31 #[u, v] w fun e w' => e = .returned (.bool (sameE l r)) ∧ ∃ n, w' = w.drewN n := by
  by_cases hlen : l.length = r.length
  · have hcell : ∀ k, k < l.length → ∃ b off cap b' off' cap', u = .slice (some ⟨b, off, none⟩) l.length cap ∧ v = .slice (some ⟨b', off', none⟩) l.length cap' ∧ w.cell? ⟨b, off + k, none⟩ = some (i64 (l.getD k 0)) ∧ w.cell? ⟨b', off' + k, none⟩ = some (i64 (r.getD k 0)) := fun k hk => by
      obtain ⟨b, off, cap, hv, _, _, hc⟩ := readsI_at h (by omega)
      obtain ⟨b', off', cap', hv', _, _, hc'⟩ := readsI_at h' (by omega)
      exact ⟨b, off, cap, b', off', cap', hv, by rw [hlen]; exact hv', hc k hk, hc' k (by omega)⟩
    obtain ⟨a, c, rfl⟩ := readsI_len h
    obtain ⟨a', c', rfl⟩ := readsI_len h'
    rw [← hlen] at hcell ⊢
    have HC := Lib.hid hcell
    have HL := Lib.hid hlen
    clear h h' hcell hlen
    go_enter Try.func31, Try.ntmps31
    go_wp2
    go_loopw [5] (fun i wr => (∃ k : Nat, k ≤ l.length ∧ i = .int .i64 k ∧ l.take k = r.take k) ∧ ∃ n, wr = w.drewN n) (fun i _ => l.length - (intOf i).toNat)
    case atStart => exact ⟨⟨0, Nat.zero_le _, rfl, by simp⟩, 0, rfl⟩
    case round =>
      obtain ⟨⟨k, hk, rfl, hno⟩, nq, rfl⟩ := hrel
      have HNO := Lib.hid hno
      clear hno
      by_cases hlt : k < l.length
      · obtain ⟨b, off, cap, b', off', cap', hv, hv', hc, hc'⟩ := HC.out k hlt
        obtain ⟨rfl, rfl⟩ : a = some ⟨b, off, none⟩ ∧ c = cap := by simpa using hv
        obtain ⟨rfl, rfl⟩ : a' = some ⟨b', off', none⟩ ∧ c' = cap' := by simpa using hv'
        have hrt : k < r.length := by have := HL.out; omega
        have hsn : l.take (k + 1) = l.take k ++ [l.getD k 0] := by rw [List.take_succ_eq_append_getElem hlt]; simp [List.getD, hlt]
        have hsn' : r.take (k + 1) = r.take k ++ [r.getD k 0] := by rw [List.take_succ_eq_append_getElem hrt]; simp [List.getD, hrt]
        have hgl : l[k]? = some (l.getD k 0) := by simp [List.getD, hlt]
        have hgr : r[k]? = some (r.getD k 0) := by simp [List.getD, hrt]
        have HSN := Lib.hid hsn
        have HSN' := Lib.hid hsn'
        have HGL := Lib.hid hgl
        have HGR := Lib.hid hgr
        clear hv hv' hsn hsn' hgl hgr
        generalize l.getD k 0 = y at *
        generalize r.getD k 0 = z at *
        by_cases hy : y = z
        · have hyb : (y != z) = false := by simpa using hy
          have HY := Lib.hid hy
          clear hy
          go_wp2
          go_quiet (fail)
          go_wp2
          go_roundw
          case rel =>
            refine ⟨⟨k + 1, by omega, by go_num, ?_⟩, _, rfl⟩
            rw [HSN.out, HSN'.out, HNO.out, HY.out]
          case measure => simp [intOf]; omega
        · have hyb : (y != z) = true := by simpa using hy
          have HY := Lib.hid hy
          clear hy
          go_wp2
          go_quiet (fail)
          go_wp2
          go_ret
          refine ⟨?_, _, World.drewN_drewN _ _ _⟩
          have : sameE l r = false := by
            unfold sameE; rw [decide_eq_false_iff_not]
            rintro rfl
            have := HGL.out.symm.trans HGR.out
            exact HY.out (by simpa using this)
          rw [this]; rfl
      · obtain rfl : k = l.length := by omega
        go_wp2
        go_ret
        refine ⟨?_, _, rfl⟩
        have h := HNO.out
        rw [List.take_length, List.take_of_length_le (by have := HL.out; omega)] at h
        have : sameE l r = true := by simpa [sameE] using h
        rw [this]; rfl
  · obtain ⟨a, c, rfl⟩ := readsI_len h
    obtain ⟨a', c', rfl⟩ := readsI_len h'
    have hne : ((l.length : Int) != (r.length : Int)) = true := by rw [bne_iff_ne]; omega
    have hd : sameE l r = false := by
      unfold sameE; rw [decide_eq_false_iff_not]; rintro rfl; exact hlen rfl
    rw [hd]
    clear h h' hlen hd
    go_enter Try.func31, Try.ntmps31
    go_wp2
    go_ret
    exact ⟨rfl, 0, rfl⟩


end Go.Proofs.Ytkalpgngoijdmaa
