/- Ints -/
import Derived.Test.YtkalpgngoijdmaaBase
namespace Go.Proofs.Ytkalpgngoijdmaa
open Go.RowKit Go.Sl

variable {w : World} {L : List Asn}

theorem reads_take {a : Option Addr} {n c k : Nat} {l : List Int} (h : readsI w (.slice a n c) l) (hn : n = l.length) (hk : k ≤ l.length) : readsI w (.slice a k c) (l.take k) := by
  subst hn
  refine ⟨by rw [ints_length]; simp, ?_⟩
  rcases h.2 with ⟨hn, a', cap, hv, q1, q2⟩ | ⟨b, off, cap, hv, h1, h2, h3⟩
  · obtain rfl : k = 0 := by omega
    obtain ⟨rfl, _, rfl⟩ : a = a' ∧ l.length = 0 ∧ c = cap := by simpa using hv
    exact .inl ⟨by simp, a, c, rfl, q1, q2⟩
  · obtain ⟨rfl, rfl⟩ : a = some ⟨b, off, none⟩ ∧ c = cap := by simpa using hv
    have e : (l.take k).length = k := by rw [List.length_take, Nat.min_eq_left hk]
    refine .inr ⟨b, off, c, by rw [e], by omega, h2, fun i hi => ?_⟩
    rw [ints_length, e] at hi
    rw [h3 i (by rw [ints_length]; omega), ints_get _ _ (by omega), ints_get _ _ (by rw [e]; exact hi)]
    simp [List.getD, hi]

set_option maxHeartbeats 400000 in
theorem Ints_spec {v : Value} {l : List Int} (k : Nat) (h : readsI w v l) (hl : l.length ≤ 9223372036854775807) (hk : k ≤ 1000000000000) :
    Calls Try.prog 26 #[v, i64 k] w fun e w' => ∃ v', e = .returned v' ∧ Sep w' [old w, rowI v' (l.take k)] ∧ Stable w w' := by
  obtain ⟨i0, hi, hz0, hz1, hz2⟩ := info_parts infoI
  obtain ⟨a, c, rfl⟩ := readsI_len h
  have hS0 := (Sep.start w).addNil 3 1
  have ht : ∀ j, j = min l.length k → readsI w (.slice a j c) (l.take k) := fun j hj => by
    have e : l.take k = l.take j := by
      rw [hj]; exact (List.take_eq_take_min).trans (by rw [Nat.min_comm])
    rw [e]; exact reads_take h rfl (by omega)
  have hlen : (l.take k).length = min l.length k := by rw [List.length_take, Nat.min_comm]
  have hc : l.length ≤ c := by
    obtain ⟨a', c', hv, h1, _⟩ := h.shape
    obtain rfl : c = c' := by simpa using congrArg (fun v => match v with | Value.slice _ _ c => c | _ => 0) hv
    exact h1
  have HT := Lib.hid ht
  have HLEN := Lib.hid hlen
  clear h ht hlen
  by_cases hlk : k < l.length
  · go_enter Try.func26, Try.ntmps26
    go_wp2_with (at_builtin; refine wpList_append_sep rfl (.tmp 6) (.tmp 12) 22 22 rfl 3 i0 _ 1 8 Try.underlying22 hi hz0 hz1 hz2 rfl _ 0 [] rfl hS0 (l.take k).length (ints (l.take k)) ((HT.out k (by omega)).src Try.underlying22 (ints_one _)) (by rw [HLEN.out]; unfold maxLen; omega) (by rw [HLEN.out]; omega) ?_; intro v' w1 hS1 hst1 hn1)
    go_ret
    exact ⟨v', rfl, (rowI_app (l := []) hS1 rfl rfl).pick 1, hst1⟩
  · go_enter Try.func26, Try.ntmps26
    go_wp2_with (at_builtin; refine wpList_append_sep rfl (.tmp 6) (.tmp 12) 22 22 rfl 3 i0 _ 1 8 Try.underlying22 hi hz0 hz1 hz2 rfl _ 0 [] rfl hS0 (l.take k).length (ints (l.take k)) ((HT.out l.length (by omega)).src Try.underlying22 (ints_one _)) (by rw [HLEN.out]; unfold maxLen; omega) (by rw [HLEN.out]; omega) ?_; intro v' w1 hS1 hst1 hn1)
    go_ret
    exact ⟨v', rfl, (rowI_app (l := []) hS1 rfl rfl).pick 1, hst1⟩


end Go.Proofs.Ytkalpgngoijdmaa
