/- The plain law of RinglogAgain, and the contracts by a tick that equals. -/
import Derived.Test.YtfhjdfllkjjldaaNest
import Derived.StillTailTactics
namespace Go.Proofs.Ytfhjdfllkjjldaa
open Go.RowKit Go.Sl

theorem rowA_cells {w : World} {L : List Asn} {a : Option Addr} {c : Nat} {ac : List ActT} (h : Sep w (rowA (.slice a ac.length c) ac :: L)) {j : Nat} (hj : j < ac.length) :
    ∃ g, a = some ⟨g, 0, none⟩ ∧ w.cell? ⟨g, j * 3, none⟩ = some (i64 (ac.getD j (0, 0, 0)).1) ∧ w.cell? ⟨g, j * 3 + 1, none⟩ = some (i64 (ac.getD j (0, 0, 0)).2.1) ∧ w.cell? ⟨g, j * 3 + 2, none⟩ = some (i64 (ac.getD j (0, 0, 0)).2.2) := by
  obtain ⟨g, cap, hv, _, _, hc, _⟩ := h.rowAt (by omega)
  obtain ⟨rfl, rfl⟩ : a = some ⟨g, 0, none⟩ ∧ c = cap := by simpa using hv
  have hl := acells_length ac
  obtain ⟨e0, e1, e2⟩ := acells_get ac j hj
  exact ⟨g, rfl, (hc _ (by omega)).trans e0, (hc _ (by omega)).trans e1, (hc _ (by omega)).trans e2⟩
theorem getD_mem {ac : List ActT} {j : Nat} (hj : j < ac.length) : ac.getD j (0, 0, 0) ∈ ac := by
  rw [show ac.getD j (0, 0, 0) = ac[j] by simp [List.getD, hj]]; exact List.getElem_mem hj

/-- One operation of a pass: the cells, the cells before each tick. -/
def passStep (s : List Int × List (List Int)) (o : ActT) : List Int × List (List Int) :=
  if o.1 < 2 then (setC s.1 o.2.1 o.2.2, s.2) else if s.2.length < 12 then (s.1, s.2 ++ [s.1]) else s
def pass (s : List Int × List (List Int)) (ac : List ActT) (i : Nat) : List Int × List (List Int) := (ac.take i).foldl passStep s
theorem pass_zero (s : List Int × List (List Int)) (ac : List ActT) : pass s ac 0 = s := by simp [pass]
theorem pass_succ (s : List Int × List (List Int)) (ac : List ActT) (i : Nat) (h : i < ac.length) : pass s ac (i + 1) = passStep (pass s ac i) (ac.getD i (0, 0, 0)) := by
  unfold pass
  rw [List.take_succ_eq_append_getElem h, List.foldl_append]
  simp [List.getD, h]
theorem pass_pre (s : List Int × List (List Int)) (ac : List ActT) (i : Nat) (hi : i ≤ ac.length) (h2 : s.2.length ≤ 12) : ∃ t, (pass s ac i).2 = s.2 ++ t ∧ (s.2 ++ t).length ≤ 12 := by
  induction i with
  | zero => exact ⟨[], by simp [pass_zero], by simpa using h2⟩
  | succ i ih =>
    obtain ⟨t, ht, hl⟩ := ih (by omega)
    rw [pass_succ _ _ _ (by omega)]
    unfold passStep
    split
    · exact ⟨t, ht, hl⟩
    · split
      · rename_i hh
        rw [ht] at hh
        exact ⟨t ++ [(pass s ac i).1], by simp [ht], by simp at hh hl ⊢; omega⟩
      · exact ⟨t, ht, hl⟩

variable {w : World} {L : List Asn} {p mp : Value} {keep t0 : Int} {cs : List Int} {sn : List (List Int)} {B : Nat}

theorem Push13 (h : RSt w L p mp 13 0 cs sn B) (hB : B ≤ 1000000) (hl : sn.length < 13) (t : Int) (ht : t = sn.length) :
    Calls Try.prog 12 #[p, i64 t] w fun e w' => e = .returned (i64 0) ∧ RSt w' L p mp 13 0 cs (sn ++ [cs]) B ∧ Stable w w' := by
  have := PushRS h hB (by omega) (by omega) (by omega)
  have e1 : pushT 13 0 sn = 0 := by unfold pushT; rw [if_pos (by omega)]
  have e2 : pushS 13 sn cs = sn ++ [cs] := by unfold pushS; rw [if_pos (by omega)]
  rw [e1, e2, show (0 : Int) + sn.length = t by omega] at this
  exact this
theorem RewAt (h : RSt w L p mp keep t0 cs sn B) (hB : B ≤ 1000000) (hk2 : keep ≤ 1000) (t : Int) (k : Nat) (ht : t = t0 + k) (hk : k < sn.length) :
    Calls Try.prog 16 #[p, i64 t] w fun e w' => e = .returned (i64 0) ∧ RSt w' L p mp keep t0 (sn.getD k []) (sn.take (k + 1)) B ∧ Stable w w' := by
  subst ht
  exact RewRS h hB hk2 k hk
theorem RSt.drew (h : RSt w L p mp keep t0 cs sn B) : RSt w.drew L p mp keep t0 cs sn B := h
theorem RSt.mono {B' : Nat} (h : RSt w L p mp keep t0 cs sn B) (hB : B ≤ B') : RSt w L p mp keep t0 cs sn B' := by
  obtain ⟨base, log, es, hS, hi, hs, hk, hb⟩ := h
  exact ⟨base, log, es, hS, hi, hs, hk, by omega⟩

end Go.Proofs.Ytfhjdfllkjjldaa
