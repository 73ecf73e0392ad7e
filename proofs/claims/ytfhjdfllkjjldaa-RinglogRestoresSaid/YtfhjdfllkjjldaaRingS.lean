/- The ring and its memory in one state: contracts by the plain law. -/
import Derived.Test.YtfhjdfllkjjldaaRingP
import Derived.Test.YtfhjdfllkjjldaaLives
namespace Go.Proofs.Ytfhjdfllkjjldaa
open Go.RowKit Go.Sl

variable {w : World} {L : List Asn} {p mp : Value} {keep t0 : Int} {cs : List Int} {base : Int} {log es : Es} {sn : List (List Int)} {B : Nat}

/-- A ring over a memory: the cells, the cells before each tick that is kept, the oldest of these ticks; B bounds the log's position. -/
def RSt (w : World) (L : List Asn) (p mp : Value) (keep t0 : Int) (cs : List Int) (sn : List (List Int)) (B : Nat) : Prop :=
  ∃ base log es, Sep w (ring p mp keep es :: mem mp cs base log :: L) ∧ RInv t0 cs base log es sn ∧ Small cs base log ∧ (es.length : Int) ≤ keep ∧ base + log.length ≤ B

theorem RSt.drewN (h : RSt w L p mp keep t0 cs sn B) (n : Nat) : RSt (w.drewN n) L p mp keep t0 cs sn B := by
  obtain ⟨base, log, es, hS, h⟩ := h
  exact ⟨base, log, es, hS.drewN n, h⟩
theorem Small.set (h : Small cs base log) (i v : Int) (hb : base + log.length < 1000000000000) : Small (setC cs i v) base (setL cs log i) := by
  have hl := setC_length cs i v
  refine ⟨by rw [hl]; exact h.cells, h.low, ?_, fun x hx => ?_⟩
  · unfold setL; split
    · simp; omega
    · omega
  · rw [hasB_congr hl]
    unfold setL at hx
    split at hx
    · rename_i hh
      rcases List.mem_append.1 hx with hx | hx
      · exact h.4 x hx
      · obtain rfl : x = _ := by simpa using hx
        exact hh
    · exact h.4 x hx

theorem SetRS (h : RSt w L p mp keep t0 cs sn B) (hB : B ≤ 1000000) (i v : Int) :
    Calls Try.prog 13 #[mp, i64 i, i64 v] w fun e w' => e = .returned (.tuple #[]) ∧ RSt w' L p mp keep t0 (setC cs i v) sn (B + 1) ∧ Stable w w' := by
  obtain ⟨base, log, es, hS, hi, hs, hk, hb⟩ := h
  have hlow := hs.low
  refine (Set_spec (hS.pick 1) hs (by omega) i v).mono ?_
  rintro e w' ⟨rfl, hS', hst⟩
  refine ⟨rfl, ⟨base, _, es, hS'.pick 1, hi.set i v, hs.set i v (by omega), hk, ?_⟩, hst⟩
  unfold setL; split
  · simp; omega
  · omega

theorem RInv.oldest (h : RInv t0 cs base log es sn) (hl : 0 < es.length) : Go.Proofs.Ytfhjdfllkjjldaa.oldest es = t0 := by
  have := h.tick 0 hl
  unfold Go.Proofs.Ytfhjdfllkjjldaa.oldest; rw [if_neg (by omega)]
  unfold eT at this; rw [this]; omega
theorem RInv.newest (h : RInv t0 cs base log es sn) (hl : 0 < es.length) : Go.Proofs.Ytfhjdfllkjjldaa.newest es = t0 + es.length - 1 := by
  have := h.tick (es.length - 1) (by omega)
  unfold Go.Proofs.Ytfhjdfllkjjldaa.newest; rw [if_neg (by omega)]
  unfold eT at this; rw [this]; omega
theorem RInv.find (h : RInv t0 cs base log es sn) {k : Nat} (hk : k < es.length) : findT es (t0 + k) = k :=
  findT_at hk (fun i hi => by have := h.tick i (by omega); unfold eT at this; rw [this, beq_eq_false_iff_ne]; omega) (by have := h.tick k hk; unfold eT at this; rw [this, beq_iff_eq])

/-- The snapshots behind a Push. -/
def pushS (keep : Int) (sn : List (List Int)) (cs : List Int) : List (List Int) := if (sn.length : Int) < keep then sn ++ [cs] else (sn ++ [cs]).drop 1
def pushT (keep t0 : Int) (sn : List (List Int)) : Int := if (sn.length : Int) < keep then t0 else t0 + 1

theorem PushRS (h : RSt w L p mp keep t0 cs sn B) (hB : B ≤ 1000000) (hk1 : 1 ≤ keep) (hk2 : keep ≤ 1000) (ht : 0 ≤ t0 ∧ t0 ≤ 1000000) :
    Calls Try.prog 12 #[p, i64 (t0 + sn.length)] w fun e w' => e = .returned (i64 0) ∧ RSt w' L p mp keep (pushT keep t0 sn) cs (pushS keep sn cs) B ∧ Stable w w' := by
  obtain ⟨base, log, es, hS, hi, hs, hk, hb⟩ := h
  have hlow := hs.low
  have hlen := hi.len
  have hp := hi.push (by omega)
  rw [hlen]
  have hnw : -1000000 ≤ newest es ∧ newest es ≤ 1000000000000 := by
    by_cases h0 : es.length = 0
    · unfold newest; rw [if_pos h0]; omega
    · rw [hi.newest (by omega)]; omega
  refine (Push_acc hS hs (by omega) hnw (t0 + es.length) (by omega) (fun h0 => by rw [hi.newest h0]; omega) hk hk1 (by omega) (fun h0 => ⟨hp.lo 1 (by simp; omega), hp.hi 1 (by simp; omega)⟩)).mono ?_
  rintro e w' ⟨rfl, hP⟩
  unfold pushPost at hP
  refine ⟨rfl, ?_, hP.2⟩
  unfold pushT pushS
  rw [hlen]
  by_cases hlt : (es.length : Int) < keep
  · rw [if_pos hlt] at hP
    rw [if_pos hlt, if_pos hlt]
    exact ⟨base, log, _, hP.1, hp, hs, by simp; omega, hb⟩
  · rw [if_neg hlt] at hP
    rw [if_neg hlt, if_neg hlt]
    have hf := hp.forget (by simp; omega)
    have hlo := hp.lo 1 (by simp; omega)
    have hhi := hp.hi 1 (by simp; omega)
    unfold eM at hlo hhi
    refine ⟨_, _, _, hP.1, hf, ⟨hs.cells, by omega, ?_, fun x hx => hs.4 x (List.mem_of_mem_drop hx)⟩, by simp; omega, ?_⟩
    · rw [List.length_drop]; have := hs.position; omega
    · rw [List.length_drop]; omega

theorem RewRS (h : RSt w L p mp keep t0 cs sn B) (hB : B ≤ 1000000) (hk2 : keep ≤ 1000) (k : Nat) (hk : k < sn.length) :
    Calls Try.prog 16 #[p, i64 (t0 + k)] w fun e w' => e = .returned (i64 0) ∧ RSt w' L p mp keep t0 (sn.getD k []) (sn.take (k + 1)) B ∧ Stable w w' := by
  obtain ⟨base, log, es, hS, hi, hs, hkk, hb⟩ := h
  have hlen := hi.len
  have hlow := hs.low
  have hke : k < es.length := by omega
  have hlo := hi.lo k hke
  have hhi := hi.hi k hke
  refine (Rew_ok hS hs (by omega) (t0 + k) k hke (by rw [hi.oldest (by omega)]; omega) (hi.find hke) hlo hhi).mono ?_
  rintro e w' ⟨⟨rfl, hS'⟩, hst⟩
  have hsn := hi.snap k hke
  unfold snapAt at hsn
  have hbk := hi.back k hke
  rw [hsn] at hbk
  unfold eM at hsn hbk hlo hhi
  rw [hsn] at hS'
  have hcl : (sn.getD k []).length = cs.length := by rw [← hsn]; exact undoC_length _ _
  refine ⟨rfl, ⟨base, _, _, hS', hbk, ⟨by rw [hcl]; exact hs.cells, hs.low, ?_, fun x hx => by rw [hasB_congr hcl]; exact hs.4 x (List.mem_of_mem_take hx)⟩, by rw [List.length_take]; omega, ?_⟩, hst⟩
  · rw [List.length_take]; have := hs.position; omega
  · rw [List.length_take]; omega

end Go.Proofs.Ytfhjdfllkjjldaa
