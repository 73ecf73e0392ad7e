/- Contracts of the references' small helpers: Around, Has, SameInts, Ints. -/
import Derived.Test.YtcpicaalponnlaaMem2
namespace Go.Proofs.Ytcpicaalponnlaa
open Go.RowKit Go.Sl

variable {w : World} {L : List Asn}

abbrev readsI (w : World) (v : Value) (l : List Int) : Prop := readsAs w 1 v l.length (ints l)
def inI64 (x : Int) : Prop := -9223372036854775808 ≤ x ∧ x ≤ 9223372036854775807

def around (x m : Int) : Int := if x < 0 then (-(x + 1)) % m else x % m
theorem around_lo {x m : Int} (hm : 1 ≤ m) : 0 ≤ around x m := by unfold around; split <;> exact Int.emod_nonneg _ (by omega)
theorem around_hi {x m : Int} (hm : 1 ≤ m) : around x m < m := by unfold around; split <;> exact Int.emod_lt_of_pos _ (by omega)

set_option maxHeartbeats 400000 in
theorem Around_spec (x m : Int) (w : World) (hm : 1 ≤ m) (hm2 : m ≤ 9223372036854775807) (hx : inI64 x) :
    Calls Try.prog 24 #[i64 x, i64 m] w fun e w' => e = .returned (i64 (around x m)) ∧ w = w' := by
  obtain ⟨h0, h1⟩ := hx
  have ha : around x m = if x < 0 then (-(x + 1)) % m else x % m := rfl
  by_cases hneg : x < 0
  · rw [if_pos hneg] at ha
    have hq : -((x + 1).tmod m) = (-(x + 1)) % m := by rw [← Int.neg_tmod]; exact Int.tmod_eq_emod_of_nonneg (by omega)
    rw [ha]
    have HQ := Lib.hid hq
    clear ha hq
    go_enter Try.func24, Try.ntmps24
    go_wp2
    go_ret
    refine ⟨?_, rfl⟩
    rw [← HQ.out]; rfl
  · rw [if_neg hneg] at ha
    rw [ha]
    clear ha
    go_enter Try.func24, Try.ntmps24
    go_wp2
    go_ret
    exact ⟨rfl, rfl⟩

theorem readsI_len {v : Value} {l : List Int} (h : readsI w v l) : ∃ a c, v = .slice a l.length c := by
  obtain ⟨a, cap, hv, _⟩ := h.shape
  exact ⟨a, cap, hv⟩
theorem readsI_at {v : Value} {l : List Int} (h : readsI w v l) (hl : 0 < l.length) : ∃ b off cap, v = .slice (some ⟨b, off, none⟩) l.length cap ∧ l.length ≤ cap ∧ cap ≤ maxLen ∧ ∀ i, i < l.length → w.cell? ⟨b, off + i, none⟩ = some (i64 (l.getD i 0)) := by
  rcases h.2 with ⟨hn, _⟩ | ⟨b, off, cap, rfl, h1, h2, h3⟩
  · omega
  · exact ⟨b, off, cap, rfl, h1, h2, fun i hi => (h3 i (by rw [ints_length]; exact hi)).trans (ints_get l i hi)⟩

/-- Is x an element of l? -/
def hasE (l : List Int) (x : Int) : Bool := l.contains x
theorem hasE_iff {l : List Int} {x : Int} : hasE l x = true ↔ x ∈ l := by simp [hasE]

set_option maxHeartbeats 400000 in
theorem Has_spec {v : Value} {l : List Int} (x : Int) (h : readsI w v l) (hl : l.length ≤ 1000000000000) :
    Calls Try.prog 28 #[v, i64 x] w fun e w' => e = .returned (.bool (hasE l x)) ∧ w = w' := by
  have hcell : ∀ k, k < l.length → ∃ b off cap, v = .slice (some ⟨b, off, none⟩) l.length cap ∧ w.cell? ⟨b, off + k, none⟩ = some (i64 (l.getD k 0)) := fun k hk => by
    obtain ⟨b, off, cap, hv, _, _, hc⟩ := readsI_at h (by omega)
    exact ⟨b, off, cap, hv, hc k hk⟩
  obtain ⟨a, c, rfl⟩ := readsI_len h
  have HC := Lib.hid hcell
  clear h hcell
  go_enter Try.func28, Try.ntmps28
  go_wp2
  go_loop [5] (fun i => ∃ k : Nat, k ≤ l.length ∧ i = .int .i64 k ∧ hasE (l.take k) x = false) (fun i => l.length - (intOf i).toNat)
  case atStart => exact ⟨0, Nat.zero_le _, rfl, by simp [hasE]⟩
  case round =>
    obtain ⟨k, hk, rfl, hno⟩ := hrel
    have HNO := Lib.hid hno
    clear hno
    by_cases hlt : k < l.length
    · obtain ⟨b, off, cap, hv, hc⟩ := HC.out k hlt
      obtain ⟨rfl, rfl⟩ : a = some ⟨b, off, none⟩ ∧ c = cap := by simpa using hv
      have hsn : l.take (k + 1) = l.take k ++ [l.getD k 0] := by rw [List.take_succ_eq_append_getElem hlt]; simp [List.getD, hlt]
      have hmem : l.getD k 0 ∈ l := by rw [show l.getD k 0 = l[k] by simp [List.getD, hlt]]; exact List.getElem_mem hlt
      have HSN := Lib.hid hsn
      have HMEM := Lib.hid hmem
      clear hv hsn hmem
      generalize l.getD k 0 = y at *
      by_cases hy : y = x
      · have hyb : (y == x) = true := by simpa using hy
        have HY := Lib.hid hy
        clear hy
        go_wp2
        go_ret
        refine ⟨?_, rfl⟩
        have : hasE l x = true := by rw [hasE_iff]; exact HY.out ▸ HMEM.out
        rw [this]; rfl
      · have hyb : (y == x) = false := by simpa using hy
        have HY := Lib.hid hy
        clear hy
        go_wp2
        go_round
        case rel =>
          refine ⟨k + 1, by omega, by go_num, ?_⟩
          have h := HNO.out
          rw [HSN.out]
          simp only [hasE, List.contains_append, Bool.or_eq_false_iff] at h ⊢
          exact ⟨h, by simpa using fun e => HY.out e.symm⟩
        case measure => simp [intOf]; omega
    · obtain rfl : k = l.length := by omega
      go_wp2
      go_ret
      refine ⟨?_, rfl⟩
      have h := HNO.out
      rw [List.take_length] at h
      rw [h]; rfl

/-- Are the lists one? -/
def sameE (l r : List Int) : Bool := decide (l = r)
theorem sameE_iff {l r : List Int} : sameE l r = true ↔ l = r := by simp [sameE]
theorem sameE_self (l : List Int) : sameE l l = true := by simp [sameE]

set_option maxHeartbeats 400000 in
theorem SameInts_spec {u v : Value} {l r : List Int} (h : readsI w u l) (h' : readsI w v r) (hl : l.length ≤ 1000000000000) (hr : r.length ≤ 1000000000000) :
    Calls Try.prog 15 #[u, v] w fun e w' => e = .returned (.bool (sameE l r)) ∧ ∃ n, w' = w.drewN n := by
  by_cases hlen : l.length = r.length
  · have hcell : ∀ k, k < l.length → ∃ b off cap b' off' cap', u = .slice (some ⟨b, off, none⟩) l.length cap ∧ v = .slice (some ⟨b', off', none⟩) l.length cap' ∧ w.cell? ⟨b, off + k, none⟩ = some (i64 (l.getD k 0)) ∧ w.cell? ⟨b', off' + k, none⟩ = some (i64 (r.getD k 0)) := fun k hk => by
      obtain ⟨b, off, cap, hv, _, _, hc⟩ := readsI_at h (by omega)
      obtain ⟨b', off', cap', hv', _, _, hc'⟩ := readsI_at h' (by omega)
      exact ⟨b, off, cap, b', off', cap', hv, by rw [hlen]; exact hv', hc k hk, hc' k (by omega)⟩
    obtain ⟨a, c, rfl⟩ := readsI_len h
    obtain ⟨a', c', rfl⟩ := readsI_len h'
    rw [← hlen] at hcell ⊢
    have HC := Lib.hid hcell
    have HL := Lib.hid hlen
    clear h h' hcell hlen
    go_enter Try.func15, Try.ntmps15
    go_wp2
    go_loopw [5] (fun i wr => (∃ k : Nat, k ≤ l.length ∧ i = .int .i64 k ∧ l.take k = r.take k) ∧ ∃ n, wr = w.drewN n) (fun i _ => l.length - (intOf i).toNat)
    case atStart => exact ⟨⟨0, Nat.zero_le _, rfl, by simp⟩, 0, rfl⟩
    case round =>
      obtain ⟨⟨k, hk, rfl, hno⟩, nq, rfl⟩ := hrel
      have HNO := Lib.hid hno
      clear hno
      by_cases hlt : k < l.length
      · obtain ⟨b, off, cap, b', off', cap', hv, hv', hc, hc'⟩ := HC.out k hlt
        obtain ⟨rfl, rfl⟩ : a = some ⟨b, off, none⟩ ∧ c = cap := by simpa using hv
        obtain ⟨rfl, rfl⟩ : a' = some ⟨b', off', none⟩ ∧ c' = cap' := by simpa using hv'
        have hrt : k < r.length := by have := HL.out; omega
        have hsn : l.take (k + 1) = l.take k ++ [l.getD k 0] := by rw [List.take_succ_eq_append_getElem hlt]; simp [List.getD, hlt]
        have hsn' : r.take (k + 1) = r.take k ++ [r.getD k 0] := by rw [List.take_succ_eq_append_getElem hrt]; simp [List.getD, hrt]
        have hgl : l[k]? = some (l.getD k 0) := by simp [List.getD, hlt]
        have hgr : r[k]? = some (r.getD k 0) := by simp [List.getD, hrt]
        have HSN := Lib.hid hsn
        have HSN' := Lib.hid hsn'
        have HGL := Lib.hid hgl
        have HGR := Lib.hid hgr
        clear hv hv' hsn hsn' hgl hgr
        generalize l.getD k 0 = y at *
        generalize r.getD k 0 = z at *
        by_cases hy : y = z
        · have hyb : (y != z) = false := by simpa using hy
          have HY := Lib.hid hy
          clear hy
          go_wp2
          go_quiet (fail)
          go_wp2
          go_roundw
          case rel =>
            refine ⟨⟨k + 1, by omega, by go_num, ?_⟩, _, rfl⟩
            rw [HSN.out, HSN'.out, HNO.out, HY.out]
          case measure => simp [intOf]; omega
        · have hyb : (y != z) = true := by simpa using hy
          have HY := Lib.hid hy
          clear hy
          go_wp2
          go_quiet (fail)
          go_wp2
          go_ret
          refine ⟨?_, _, World.drewN_drewN _ _ _⟩
          have : sameE l r = false := by
            unfold sameE; rw [decide_eq_false_iff_not]
            rintro rfl
            have := HGL.out.symm.trans HGR.out
            exact HY.out (by simpa using this)
          rw [this]; rfl
      · obtain rfl : k = l.length := by omega
        go_wp2
        go_ret
        refine ⟨?_, _, rfl⟩
        have h := HNO.out
        rw [List.take_length, List.take_of_length_le (by have := HL.out; omega)] at h
        have : sameE l r = true := by simpa [sameE] using h
        rw [this]; rfl
  · obtain ⟨a, c, rfl⟩ := readsI_len h
    obtain ⟨a', c', rfl⟩ := readsI_len h'
    have hne : ((l.length : Int) != (r.length : Int)) = true := by rw [bne_iff_ne]; omega
    have hd : sameE l r = false := by
      unfold sameE; rw [decide_eq_false_iff_not]; rintro rfl; exact hlen rfl
    rw [hd]
    clear h h' hlen hd
    go_enter Try.func15, Try.ntmps15
    go_wp2
    go_ret
    exact ⟨rfl, 0, rfl⟩

theorem reads_take {a : Option Addr} {n c k : Nat} {l : List Int} (h : readsI w (.slice a n c) l) (hn : n = l.length) (hk : k ≤ l.length) : readsI w (.slice a k c) (l.take k) := by
  subst hn
  refine ⟨by rw [ints_length]; simp, ?_⟩
  rcases h.2 with ⟨hn, a', cap, hv, q1, q2⟩ | ⟨b, off, cap, hv, h1, h2, h3⟩
  · obtain rfl : k = 0 := by omega
    obtain ⟨rfl, _, rfl⟩ : a = a' ∧ l.length = 0 ∧ c = cap := by simpa using hv
    exact .inl ⟨by simp, a, c, rfl, q1, q2⟩
  · obtain ⟨rfl, rfl⟩ : a = some ⟨b, off, none⟩ ∧ c = cap := by simpa using hv
    have e : (l.take k).length = k := by rw [List.length_take, Nat.min_eq_left hk]
    refine .inr ⟨b, off, c, by rw [e], by omega, h2, fun i hi => ?_⟩
    rw [ints_length, e] at hi
    rw [h3 i (by rw [ints_length]; omega), ints_get _ _ (by omega), ints_get _ _ (by rw [e]; exact hi)]
    simp [List.getD, hi]

set_option maxHeartbeats 400000 in
theorem Ints_spec {v : Value} {l : List Int} (k : Nat) (h : readsI w v l) (hl : l.length ≤ 9223372036854775807) (hk : k ≤ 1000000000000) :
    Calls Try.prog 20 #[v, i64 k] w fun e w' => ∃ v', e = .returned v' ∧ Sep w' [old w, rowI v' (l.take k)] ∧ Stable w w' := by
  obtain ⟨i0, hi, hz0, hz1, hz2⟩ := info_parts infoI
  obtain ⟨a, c, rfl⟩ := readsI_len h
  have hS0 := (Sep.start w).addNil 3 1
  have ht : ∀ j, j = min l.length k → readsI w (.slice a j c) (l.take k) := fun j hj => by
    have e : l.take k = l.take j := by
      rw [hj]; exact (List.take_eq_take_min).trans (by rw [Nat.min_comm])
    rw [e]; exact reads_take h rfl (by omega)
  have hlen : (l.take k).length = min l.length k := by rw [List.length_take, Nat.min_comm]
  have hc : l.length ≤ c := by
    obtain ⟨a', c', hv, h1, _⟩ := h.shape
    obtain rfl : c = c' := by simpa using congrArg (fun v => match v with | Value.slice _ _ c => c | _ => 0) hv
    exact h1
  have HT := Lib.hid ht
  have HLEN := Lib.hid hlen
  clear h ht hlen
  by_cases hlk : k < l.length
  · go_enter Try.func20, Try.ntmps20
    go_wp2_with (at_builtin; refine wpList_append_sep rfl (.tmp 6) (.tmp 12) 22 22 rfl 3 i0 _ 1 8 Try.underlying22 hi hz0 hz1 hz2 rfl _ 0 [] rfl hS0 (l.take k).length (ints (l.take k)) ((HT.out k (by omega)).src Try.underlying22 (ints_one _)) (by rw [HLEN.out]; unfold maxLen; omega) (by rw [HLEN.out]; omega) ?_; intro v' w1 hS1 hst1 hn1)
    go_ret
    exact ⟨v', rfl, (rowI_app (l := []) hS1 rfl rfl).pick 1, hst1⟩
  · go_enter Try.func20, Try.ntmps20
    go_wp2_with (at_builtin; refine wpList_append_sep rfl (.tmp 6) (.tmp 12) 22 22 rfl 3 i0 _ 1 8 Try.underlying22 hi hz0 hz1 hz2 rfl _ 0 [] rfl hS0 (l.take k).length (ints (l.take k)) ((HT.out l.length (by omega)).src Try.underlying22 (ints_one _)) (by rw [HLEN.out]; unfold maxLen; omega) (by rw [HLEN.out]; omega) ?_; intro v' w1 hS1 hst1 hn1)
    go_ret
    exact ⟨v', rfl, (rowI_app (l := []) hS1 rfl rfl).pick 1, hst1⟩

end Go.Proofs.Ytcpicaalponnlaa
