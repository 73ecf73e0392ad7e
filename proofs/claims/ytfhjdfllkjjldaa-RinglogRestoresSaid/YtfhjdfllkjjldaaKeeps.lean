/- keeps, flag and the state's further contracts. -/
import Derived.Test.YtfhjdfllkjjldaaRingS
import Derived.Test.YtfhjdfllkjjldaaAround
namespace Go.Proofs.Ytfhjdfllkjjldaa
open Go.RowKit Go.Sl

variable {w : World} {L : List Asn} {p mp : Value} {keep t0 : Int} {cs : List Int} {sn : List (List Int)} {B : Nat}

theorem keeps_spec (n : Int) (w : World) (hn : inI64 n) :
    Calls Try.prog 9 #[i64 n] w fun e w' => e = .returned (i64 (1 + around n 13)) ∧ w = w' := by
  have hA := fun w => Around_spec n 13 w (by omega) (by omega) hn
  have t0 : 0 ≤ around n 13 := around_lo (by omega)
  have t1 : around n 13 < 13 := around_hi (by omega)
  have HA := Lib.hid hA
  clear hA hn
  generalize around n 13 = t at *
  go_enter Try.func9, Try.ntmps9
  go_wp2_with fail
  refine (HA.out _).mono ?_
  rintro e w2 ⟨rfl, rfl⟩
  go_wp2_with fail
  go_ret
  exact ⟨rfl, rfl⟩

theorem OldestRS (h : RSt w L p mp keep t0 cs sn B) (hk2 : keep ≤ 1000) (hl : 0 < sn.length) :
    Calls Try.prog 14 #[p] w fun e w' => e = .returned (i64 t0) ∧ w = w' := by
  obtain ⟨base, log, es, hS, hi, hs, hk, hb⟩ := h
  have hlen := hi.len
  have := Oldest_spec hS (by omega)
  rw [hi.oldest (by omega)] at this
  exact this

theorem NewestRS (h : RSt w L p mp keep t0 cs sn B) (hk2 : keep ≤ 1000) (hl : 0 < sn.length) :
    Calls Try.prog 15 #[p] w fun e w' => e = .returned (i64 (t0 + sn.length - 1)) ∧ ∃ n, w' = w.drewN n := by
  obtain ⟨base, log, es, hS, hi, hs, hk, hb⟩ := h
  have hlen := hi.len
  have := Newest_spec hS (by omega)
  rw [hi.newest (by omega), ← hlen] at this
  exact this

theorem GetRS (h : RSt w L p mp keep t0 cs sn B) (i : Int) :
    Calls Try.prog 17 #[mp, i64 i] w fun e w' => e = .returned (i64 (getC cs i)) ∧ w = w' := by
  obtain ⟨base, log, es, hS, hi, hs, hk, hb⟩ := h
  exact Get_spec (hS.pick 1) hs i

theorem OldRS (h : RSt w L p mp keep t0 cs sn B) (hk2 : keep ≤ 1000) (hl : 0 < sn.length) (tick : Int) (ht : tick < t0) :
    Calls Try.prog 16 #[p, i64 tick] w fun e w' => e = .returned (i64 24) ∧ RSt w' L p mp keep t0 cs sn B ∧ Stable w w' := by
  obtain ⟨base, log, es, hS, hi, hs, hk, hb⟩ := h
  have hlen := hi.len
  refine (Rew_old hS hs (by omega) tick (by omega) (by rw [hi.oldest (by omega)]; exact ht)).mono ?_
  rintro e w' ⟨rfl, hS', hst⟩
  exact ⟨rfl, ⟨base, log, es, hS', hi, hs, hk, hb⟩, hst⟩

theorem NoneRS (h : RSt w L p mp keep t0 cs [] B) (tick : Int) :
    Calls Try.prog 16 #[p, i64 tick] w fun e w' => e = .returned (i64 24) ∧ RSt w' L p mp keep t0 cs [] B ∧ Stable w w' := by
  obtain ⟨base, log, es, hS, hi, hs, hk, hb⟩ := h
  have hlen := hi.len
  simp only [List.length_nil] at hlen
  refine (Rew_none hS hs (by omega) tick hlen.symm).mono ?_
  rintro e w' ⟨rfl, hS', hst⟩
  exact ⟨rfl, ⟨base, log, es, hS', hi, hs, hk, hb⟩, hst⟩

theorem RSt.made (t0 : Int) (hk : 0 ≤ keep) (hS : Sep w (ring p mp keep [] :: mem mp [3, 1, 4, 1, 5, 9] 0 [] :: L)) : RSt w L p mp keep t0 [3, 1, 4, 1, 5, 9] [] 0 :=
  ⟨0, [], [], hS, RInv.nil _ _ _ _, small_lit _ _ _ (by decide) (by decide) (by decide) (by simp), by simpa using hk, by simp⟩

theorem RSt.drop (h : RSt w L p mp keep t0 cs sn B) : Sep w L := by
  obtain ⟨base, log, es, hS, _⟩ := h
  exact hS.drop.drop

end Go.Proofs.Ytfhjdfllkjjldaa
