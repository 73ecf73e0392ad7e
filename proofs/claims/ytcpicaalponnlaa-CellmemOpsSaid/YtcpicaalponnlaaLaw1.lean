/- The law package's helpers: six, lives. -/
import Derived.Test.YtcpicaalponnlaaRef1
import Derived.Test.YtcpicaalponnlaaUndo
import Derived.Test.YtcpicaalponnlaaChg
namespace Go.Proofs.Ytcpicaalponnlaa
open Go.RowKit Go.Sl

variable {w : World} {L : List Asn}

def sixTo (l : List Int) (k : Nat) : List Int := (List.range 6).map fun i => if i < k then l.getD i 0 else 0
def sixL (l : List Int) : List Int := (List.range 6).map fun i => l.getD i 0
theorem sixTo_length (l : List Int) (k : Nat) : (sixTo l k).length = 6 := by simp [sixTo]
theorem sixL_length (l : List Int) : (sixL l).length = 6 := by simp [sixL]
theorem sixTo_succ (l : List Int) (k : Nat) : (sixTo l k).set k (l.getD k 0) = sixTo l (k + 1) := by
  apply List.ext_getElem
  · simp [sixTo]
  · intro i h1 h2
    simp only [sixTo, List.getElem_set, List.getElem_map, List.getElem_range]
    by_cases e : k = i
    · subst e; simp
    · simp only [e, if_false]
      by_cases e2 : i < k
      · simp [e2, Nat.lt_succ_of_lt e2]
      · simp [e2, show ¬ i < k + 1 by omega]
theorem sixTo_end (l : List Int) (k : Nat) (h : k = l.length ∨ 6 ≤ k) : sixTo l k = sixL l := by
  apply List.map_congr_left
  intro i hi
  have := List.mem_range.1 hi
  by_cases e : i < k
  · simp [e]
  · simp [e, List.getD, List.getElem?_eq_none (show l.length ≤ i by omega)]

set_option maxHeartbeats 1000000 in
theorem six_spec {v : Value} {l : List Int} (h : readsI w v l) (hl : l.length ≤ 9223372036854775807) :
    Calls Try.prog 12 #[v] w fun e w' => ∃ v', e = .returned v' ∧ Sep w' [rowI v' (sixL l), old w] ∧ Stable w w' := by
  obtain ⟨i0, hi, hz0, hz1, hz2⟩ := info_parts infoI
  obtain ⟨a, c, rfl⟩ := readsI_len h
  have hS0 := Sep.start w
  have H := Lib.hid h
  clear h
  go_enter Try.func12, Try.ntmps12
  go_wp2_with (at_make; refine wpList_make_sep rfl _ _ _ rfl 3 i0 _ 8 Try.underlying22 hi hz0 hz1 hz2 rfl 6 rfl rfl (by omega) (by unfold maxLen; omega) hS0 ?_; rintro v1 w1 ⟨g, rfl⟩ hS1 hst1)
  go_loopw [4] (fun i wr => ∃ k : Nat, k ≤ l.length ∧ k ≤ 6 ∧ i = .int .i64 k ∧ Sep wr [rowI (.slice (some ⟨g, 0, none⟩) 6 6) (sixTo l k), old w] ∧ Stable w wr) (fun i _ => 6 - (intOf i).toNat)
  case atStart => exact ⟨0, Nat.zero_le _, by omega, rfl, hS1, hst1⟩
  case round =>
    clear hS1 hst1 hS0
    obtain ⟨k, hk, hk6, rfl, hSr, hst⟩ := hrel
    by_cases hlt : k < l.length ∧ k < 6
    · obtain ⟨hlt, hlt6⟩ := hlt
      obtain ⟨b, off, cap, hv, _, _, hc⟩ := readsI_at H.out (by omega)
      obtain ⟨rfl, rfl⟩ : a = some ⟨b, off, none⟩ ∧ c = cap := by simpa using hv
      have hck := hc k hlt
      have hbl := World.block_lt_of_cell? w _ hck
      have hck' : wr.cell? ⟨b, off + k, none⟩ = some (i64 (l.getD k 0)) := (World.cell?_of_block (a := ⟨b, off + k, none⟩) ((hSr.pick 1).oldGet b hbl)).trans hck
      obtain ⟨gg, cap', hv', _, _, hgc, hgf, _, hgs⟩ := hSr.rowAt (by rw [sixTo_length]; omega)
      obtain rfl : g = gg := by simpa using congrArg (fun v => match v with | Value.slice (some a) _ _ => a.block | _ => 0) hv'
      have hgx := hgc k (by rw [ints_length, sixTo_length]; omega)
      rw [ints_get _ _ (by rw [sixTo_length]; omega)] at hgx
      have hS2 := hgs k (i64 (l.getD k 0)) (by rw [ints_length, sixTo_length]; omega)
      rw [ints_set, sixTo_succ, sixTo_length] at hS2
      have HS2 := Lib.hid hS2
      have HST := Lib.hid hst
      clear hv hc hck hv' hgc hgs hS2 hst hSr
      generalize (sixTo l k).getD k 0 = z at *
      generalize l.getD k 0 = y at *
      go_wp2
      refine ⟨⟨k + 1, by omega, by omega, by go_num, ?_, HST.out.setCell _ _⟩, by simp [intOf]; omega⟩
      show Sep _ (row 3 1 _ (sixTo l (k + 1)).length _ :: _)
      rw [sixTo_length]
      exact HS2.out
    · have he : sixTo l k = sixL l := sixTo_end l k (by omega)
      rw [he] at hSr
      clear he
      by_cases hk2 : k < l.length
      · have hk3 : k = 6 := by omega
        subst hk3
        go_wp2
        go_ret
        exact ⟨_, rfl, hSr, hst⟩
      · go_wp2
        go_ret
        exact ⟨_, rfl, hSr, hst⟩

end Go.Proofs.Ytcpicaalponnlaa
