/- Seeing grows with doors and fog: the plain law. -/
import Derived.Test.YtjmlpjaahankcaaVisSym
namespace Go.Proofs.Ytjmlpjaahankcaa
open Go.RowKit Go.Sl

/-- The doors between every two rooms below a, and from a to those below b. -/
def pairs (a b : Nat) : List Dr := ((List.range a).flatMap fun (x : Nat) => (List.range x).map fun (y : Nat) => ((x : Int), (y : Int))) ++ (List.range b).map fun (y : Nat) => ((a : Int), (y : Int))
theorem pairs_succ (a b : Nat) : pairs a (b + 1) = pairs a b ++ [((a : Int), (b : Int))] := by simp [pairs, List.range_succ]
theorem pairs_next (a : Nat) : pairs (a + 1) 0 = pairs a a := by simp [pairs, List.range_succ]
theorem pairs_len {a b : Nat} (ha : a ≤ 5) (hb : b ≤ 5) : (pairs a b).length ≤ 20 := by
  have : ∀ a, a ≤ 5 → ∀ b, b ≤ 5 → (pairs a b).length ≤ 20 := by decide
  exact this a ha b hb
theorem mem_pairs {a : Nat} {x y : Int} (hx : 0 ≤ x) (hxa : x < a) (hy : 0 ≤ y) (hyx : y < x) : (x, y) ∈ pairs a 0 := by
  unfold pairs
  simp only [List.range_zero, List.map_nil, List.append_nil, List.mem_flatMap, List.mem_map, List.mem_range]
  exact ⟨x.toNat, by omega, y.toNat, by omega, by rw [show ((x.toNat : Nat) : Int) = x by omega, show ((y.toNat : Nat) : Int) = y by omega]⟩
theorem pairs_valid {a : Nat} : ∀ d ∈ pairs a 0, 0 ≤ d.1 ∧ d.1 < (a : Int) ∧ 0 ≤ d.2 ∧ d.2 < (a : Int) := by
  intro d hd
  unfold pairs at hd
  simp only [List.range_zero, List.map_nil, List.append_nil, List.mem_flatMap, List.mem_map, List.mem_range] at hd
  obtain ⟨x, hx, y, hy, rfl⟩ := hd
  dsimp only
  omega
theorem connB_pairs {a : Nat} {x y : Int} (hx : 0 ≤ x ∧ x < a) (hy : 0 ≤ y ∧ y < a) : connB (pairs a 0) x y = true := by
  unfold connB
  rcases Int.lt_trichotomy x y with h | h | h
  · rw [List.any_eq_true.2 ⟨(y, x), mem_pairs hy.1 hy.2 hx.1 h, by simp [hitB]⟩]; rfl
  · subst h; simp
  · rw [List.any_eq_true.2 ⟨(x, y), mem_pairs hx.1 hx.2 hy.1 h, by simp [hitB]⟩]; rfl
theorem connB_mono {l m : List Dr} (h : ∀ d ∈ l, d ∈ m) {x y : Int} (hc : connB l x y = true) : connB m x y = true := by
  unfold connB at *
  rw [Bool.or_eq_true] at *
  rcases hc with hc | hc
  · obtain ⟨d, hd, h2⟩ := List.any_eq_true.1 hc
    exact .inl (List.any_eq_true.2 ⟨d, h d hd, h2⟩)
  · exact .inr hc
theorem sq_le_sq' {f g : Int} (h0 : 0 ≤ f) (h : f ≤ g) : (f + 1) * (f + 1) ≤ (g + 1) * (g + 1) := Int.mul_le_mul (by omega) (by omega) (by omega) (by omega)
theorem seesB_more {s m : St} {cs : List Int} {p i : Int} (hp : m.players = s.players) (hn : m.nb = s.nb) (hr : m.rooms = s.rooms) (hd : ∀ d ∈ s.doors, d ∈ m.doors) (hf0 : 0 ≤ s.fog) (hf : s.fog ≤ m.fog) (h : seesB s cs p i = true) : seesB m cs p i = true := by
  have e1 : ∀ j, posX m cs j = posX s cs j := fun j => by unfold posX bodyAt; rw [hp, hn]
  have e2 : ∀ j, posY m cs j = posY s cs j := fun j => by unfold posY bodyAt; rw [hp, hn]
  have e3 : ∀ j, roomOf m cs j = roomOf s cs j := fun j => by unfold roomOf; rw [e1, e2, hr]
  have e4 : dist2 m cs p i = dist2 s cs p i := by unfold dist2; rw [e1, e2, e1, e2]
  unfold seesB at *
  rw [hp, hn]
  simp only [Bool.and_eq_true, Bool.or_eq_true] at *
  refine ⟨h.1, h.2.imp id fun h2 => ?_⟩
  unfold seesIn at *
  rw [e3, e3, e4]
  simp only [Bool.and_eq_true, decide_eq_true_eq] at *
  have := sq_le_sq' hf0 hf
  exact ⟨h2.1, h2.2.1, connB_mono hd h2.2.2.1, by omega⟩
theorem seenL_more {s m : St} {cs : List Int} {p : Int} (hp : m.players = s.players) (hn : m.nb = s.nb) (hr : m.rooms = s.rooms) (hd : ∀ d ∈ s.doors, d ∈ m.doors) (hf0 : 0 ≤ s.fog) (hf : s.fog ≤ m.fog) (k : Nat) (hk : k < (seenL s cs p).length) :
    hasE (seenL m cs p) ((seenL s cs p).getD k 0) = true := by
  have hm : (seenL s cs p).getD k 0 ∈ seenL s cs p := by rw [show (seenL s cs p).getD k 0 = (seenL s cs p)[k] by simp [List.getD, hk]]; exact List.getElem_mem hk
  generalize (seenL s cs p).getD k 0 = x at *
  rw [hasE_iff]
  unfold seenL at *
  obtain ⟨i, h1, h2, rfl⟩ := mem_keepL.1 hm
  exact mem_keepL.2 ⟨i, by rw [hn]; exact h1, seesB_more hp hn hr hd hf0 hf h2, rfl⟩
theorem seesB_all {s : St} {cs : List Int} {p i : Int} (hd : s.doors = pairs s.rooms.length 0) (hf : s.fog = 4194304) (hn : ∀ i : Int, 0 ≤ i → i < s.nb → near (posX s cs i) ∧ near (posY s cs i)) (hm : s.players ≤ s.nb) (h : 0 ≤ p ∧ p < s.players ∧ 0 ≤ i ∧ i < s.nb) :
    seesB s cs p i = (p == i || (decide (0 ≤ roomOf s cs p) && decide (0 ≤ roomOf s cs i))) := by
  rw [seesB_in h]
  congr 1
  unfold seesIn
  have n1 := hn p h.1 (by omega)
  have n2 := hn i h.2.2.1 h.2.2.2
  have hdist : decide (dist2 s cs p i < (s.fog + 1) * (s.fog + 1)) = true := by
    rw [hf, decide_eq_true_iff]
    unfold dist2
    unfold near at n1 n2
    have := sq_bd (x := posX s cs i - posX s cs p) (by omega)
    have := sq_bd (x := posY s cs i - posY s cs p) (by omega)
    have : ((4194304 : Int) + 1) * (4194304 + 1) = 17592194433025 := by decide
    omega
  rw [hdist, Bool.and_true]
  by_cases h1 : 0 ≤ roomOf s cs p
  · by_cases h2 : 0 ≤ roomOf s cs i
    · have c : connB s.doors (roomOf s cs p) (roomOf s cs i) = true := by
        rw [hd]
        refine connB_pairs ⟨h1, ?_⟩ ⟨h2, ?_⟩
        · rcases roomIx_lt s.rooms (posX s cs p) (posY s cs p) with e | e
          · unfold roomOf at h1; omega
          · exact e.2
        · rcases roomIx_lt s.rooms (posX s cs i) (posY s cs i) with e | e
          · unfold roomOf at h2; omega
          · exact e.2
      rw [c]; simp
    · rw [decide_eq_false h2]; simp
  · rw [decide_eq_false h1]; simp

end Go.Proofs.Ytjmlpjaahankcaa
