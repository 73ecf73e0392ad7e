/- Seeing is symmetric: the plain law. -/
import Derived.Test.YtjmlpjaahankcaaLaw27
namespace Go.Proofs.Ytjmlpjaahankcaa
open Go.RowKit Go.Sl

variable {w : World} {L : List Asn}

theorem hitB_comm (d : Dr) (a b : Int) : hitB d a b = hitB d b a := by unfold hitB; rw [Bool.or_comm]
theorem connB_comm (l : List Dr) (a b : Int) : connB l a b = connB l b a := by
  unfold connB
  rw [show (fun d => hitB d a b) = (fun d => hitB d b a) from funext fun d => hitB_comm d a b, Bool.beq_comm (a := a)]
theorem connB_self (l : List Dr) (a : Int) : connB l a a = true := by simp [connB]
theorem mem_keepL {p : Nat → Bool} {n : Nat} {x : Int} : x ∈ keepL p n ↔ ∃ i : Nat, i < n ∧ p i = true ∧ x = i := by
  unfold keepL
  simp only [List.mem_map, List.mem_filter, List.mem_range]
  constructor
  · rintro ⟨i, ⟨h1, h2⟩, rfl⟩; exact ⟨i, h1, h2, rfl⟩
  · rintro ⟨i, h1, h2, rfl⟩; exact ⟨i, ⟨h1, h2⟩, rfl⟩
theorem keepL_sorted (p : Nat → Bool) (n : Nat) : (keepL p n).Pairwise (· < ·) := by
  induction n with
  | zero => simp [keepL]
  | succ n ih =>
    rw [keepL_succ]
    split
    · rw [List.pairwise_append]
      refine ⟨ih, by simp, fun a ha b hb => ?_⟩
      obtain ⟨i, hi, _, rfl⟩ := mem_keepL.1 ha
      obtain rfl : b = n := by simpa using hb
      omega
    · exact ih
theorem roomsI_own (s : St) (i : Int) (h : 0 ≤ i ∧ i < s.rooms.length) : hasE (roomsI s i) i = true := by
  rw [hasE_iff]; unfold roomsI; rw [if_pos h]
  exact mem_keepL.2 ⟨i.toNat, by omega, by rw [show ((i.toNat : Nat) : Int) = i by omega]; exact connB_self _ _, by omega⟩
theorem roomsI_sorted (s : St) (i : Int) (k : Nat) (hk : k + 1 < (roomsI s i).length) : (roomsI s i).getD k 0 < (roomsI s i).getD (k + 1) 0 := by
  have hp : (roomsI s i).Pairwise (· < ·) := by
    unfold roomsI
    split
    · exact keepL_sorted _ _
    · exact List.Pairwise.nil
  have := List.pairwise_iff_getElem.1 hp k (k + 1) (by omega) hk (by omega)
  simpa [List.getD, hk, show k < (roomsI s i).length by omega] using this
theorem roomsI_sym (s : St) (i : Int) (k : Nat) (h : 0 ≤ i ∧ i < s.rooms.length) (hk : k < (roomsI s i).length) : hasE (roomsI s ((roomsI s i).getD k 0)) i = true := by
  have hm : (roomsI s i).getD k 0 ∈ roomsI s i := by rw [show (roomsI s i).getD k 0 = (roomsI s i)[k] by simp [List.getD, hk]]; exact List.getElem_mem hk
  generalize (roomsI s i).getD k 0 = j at *
  unfold roomsI at hm
  rw [if_pos h] at hm
  obtain ⟨m, hm1, hm2, rfl⟩ := mem_keepL.1 hm
  rw [show ((i.toNat : Nat) : Int) = i by omega] at hm2
  rw [hasE_iff]; unfold roomsI; rw [if_pos (by omega)]
  exact mem_keepL.2 ⟨i.toNat, by omega, by rw [show ((i.toNat : Nat) : Int) = i by omega, connB_comm]; simpa using hm2, by omega⟩
theorem dist2_comm (s : St) (cs : List Int) (p q : Int) : dist2 s cs p q = dist2 s cs q p := by
  unfold dist2
  rw [show posX s cs q - posX s cs p = -(posX s cs p - posX s cs q) by omega, show posY s cs q - posY s cs p = -(posY s cs p - posY s cs q) by omega]
  simp [Int.neg_mul_neg]
theorem seesIn_comm (s : St) (cs : List Int) (p q : Int) : seesIn s cs p q = seesIn s cs q p := by
  unfold seesIn
  rw [dist2_comm, connB_comm, ← Bool.and_assoc, ← Bool.and_assoc, Bool.and_comm (decide (0 ≤ roomOf s cs p)), Bool.and_assoc, Bool.and_assoc]
theorem seesB_comm {s : St} {cs : List Int} {p q : Int} (hm : s.players ≤ s.nb) (hp : 0 ≤ p ∧ p < s.players) (hq : 0 ≤ q ∧ q < s.players) : seesB s cs p q = seesB s cs q p := by
  rw [seesB_in ⟨hp.1, hp.2, hq.1, by omega⟩, seesB_in ⟨hq.1, hq.2, hp.1, by omega⟩, seesIn_comm, Bool.beq_comm (a := p)]
theorem Has_true {v : Value} {l : List Int} {x : Int} (hx : hasE l x = true) (h : readsI w v l) (hl : l.length ≤ 1000000000000) :
    Calls Try.prog 23 #[v, i64 x] w fun e w' => e = .returned (.bool true) ∧ w = w' := by
  have := Has_spec x h hl
  rw [hx] at this
  exact this
theorem rowI_cell {g n cap i : Nat} {l : List Int} (h : Sep w (rowI (.slice (some ⟨g, 0, none⟩) n cap) l :: L)) (hi : i < l.length) : w.cell? ⟨g, i, none⟩ = some (i64 (l.getD i 0)) :=
  (Sep.rowCell h (by rw [ints_length]; exact hi)).trans (ints_get l i hi)

end Go.Proofs.Ytjmlpjaahankcaa
