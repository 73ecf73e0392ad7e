/- Contracts of package cellmem: the memory as an assertion, and what its small methods answer. -/
import Derived.Test.YtkalpgngoijdmaaBase
import Derived.WalkLawsBesides
import Derived.Deep.QuietTactic
import Derived.BigQuiet
import Derived.StillTailTactics
import Derived.Lib.Hide
namespace Go.Proofs.Ytkalpgngoijdmaa
open Go.RowKit Go.Sl

def ents (l : List (Int × Int)) : List Value := l.flatMap fun x => [i64 x.1, i64 x.2]
theorem ents_length (l : List (Int × Int)) : (ents l).length = l.length * 2 := by
  induction l with
  | nil => rfl
  | cons a l ih => simp only [ents, List.flatMap_cons, List.length_append, List.length_cons, List.length_nil] at *; omega
theorem ents_get : ∀ (l : List (Int × Int)) (i : Nat), i < l.length → (ents l)[i * 2]? = some (i64 (l.getD i (0, 0)).1) ∧ (ents l)[i * 2 + 1]? = some (i64 (l.getD i (0, 0)).2)
  | [], i, h => by simp at h
  | a :: l, 0, _ => by simp [ents]
  | a :: l, i + 1, h => by
    have := ents_get l i (by simpa using h)
    simp only [ents, List.flatMap_cons, Nat.add_mul, Nat.one_mul] at *
    exact this

theorem ents_take : ∀ (l : List (Int × Int)) (k : Nat), (ents l).take (k * 2) = ents (l.take k)
  | [], k => by simp [ents]
  | a :: l, 0 => by simp [ents]
  | a :: l, k + 1 => by
    have := ents_take l k
    simp only [ents, List.flatMap_cons, Nat.add_mul, Nat.one_mul, List.take_succ_cons] at *
    rw [← this]; rfl

theorem ents_drop : ∀ (l : List (Int × Int)) (k : Nat), ents (l.drop k) = (ents l).drop (k * 2)
  | [], k => by simp [ents]
  | a :: l, 0 => by simp
  | a :: l, k + 1 => by
    have := ents_drop l k
    simp only [ents, List.flatMap_cons, Nat.add_mul, Nat.one_mul, List.drop_succ_cons] at *
    rw [this]; rfl

abbrev rowE (v : Value) (l : List (Int × Int)) : Asn := row 95 2 v l.length (ents l)

/-- The pointer p leads to a memory: the cells cs, the base, the log. -/
def mem (p : Value) (cs : List Int) (base : Int) (log : List (Int × Int)) : Asn := fun h =>
  ∃ p0, p = .pointer (some ⟨p0, 0, none⟩) ∧ (fun h => ∃ cv lv, star [pts p0 (.cells #[cv, i64 base, lv] 92 (0, 0)), rowI cv cs, rowE lv log] h) h

variable {w : World} {L : List Asn} {p : Value} {cs : List Int} {base : Int} {log : List (Int × Int)}

theorem mem_open (h : Sep w (mem p cs base log :: L)) : ∃ p0 cv lv, p = .pointer (some ⟨p0, 0, none⟩) ∧
    Sep w (pts p0 (.cells #[cv, i64 base, lv] 92 (0, 0)) :: rowI cv cs :: rowE lv log :: L) := by
  obtain ⟨p0, h⟩ := Sep.ex (F := fun p0 h => p = .pointer (some ⟨p0, 0, none⟩) ∧ (fun h => ∃ cv lv, star [pts p0 (.cells #[cv, i64 base, lv] 92 (0, 0)), rowI cv cs, rowE lv log] h) h) h
  obtain ⟨hp, h⟩ := h.pure
  obtain ⟨cv, h⟩ := h.ex
  obtain ⟨lv, h⟩ := h.ex
  exact ⟨p0, cv, lv, hp, h.flat⟩

theorem mem_shut {p0 : Nat} {cv lv : Value} (h : Sep w (pts p0 (.cells #[cv, i64 base, lv] 92 (0, 0)) :: rowI cv cs :: rowE lv log :: L)) :
    Sep w (mem (.pointer (some ⟨p0, 0, none⟩)) cs base log :: L) :=
  (Sep.unflat [_, _, _] h).imp fun _ hs => ⟨p0, rfl, cv, lv, hs⟩

theorem mem_shut' {p0 n m : Nat} {cv lv : Value} {xs es : List Value} (h : Sep w (pts p0 (.cells #[cv, i64 base, lv] 92 (0, 0)) :: row 3 1 cv n xs :: row 95 2 lv m es :: L))
    (hn : n = cs.length) (hx : xs = ints cs) (hm : m = log.length) (he : es = ents log) : Sep w (mem (.pointer (some ⟨p0, 0, none⟩)) cs base log :: L) := by
  subst hn hx hm he
  exact mem_shut h

def hasB (cs : List Int) (i : Int) : Bool := decide (0 ≤ i ∧ i < cs.length)
theorem hasB_iff {cs : List Int} {i : Int} : hasB cs i = true ↔ 0 ≤ i ∧ i < cs.length := by simp [hasB]

/-- What a memory must keep to for its counts to fit. -/
structure Small (cs : List Int) (base : Int) (log : List (Int × Int)) : Prop where
  cells : cs.length ≤ 1000000000000
  low : 0 ≤ base
  position : base + log.length ≤ 1000000000000
  entries : ∀ x ∈ log, hasB cs x.1 = true

/-- A memory opened: the pointer's block and its three cells. -/
theorem mem_cells (h : Sep w (mem p cs base log :: L)) : ∃ p0 a n b m, p = .pointer (some ⟨p0, 0, none⟩) ∧
    w.cell? ⟨p0, 0, none⟩ = some (.slice a cs.length n) ∧ w.cell? ⟨p0, 1, none⟩ = some (i64 base) ∧ w.cell? ⟨p0, 2, none⟩ = some (.slice b log.length m) ∧
    (∀ i, w.frozen? ⟨p0, i, none⟩ = false) ∧ log.length ≤ m ∧ m ≤ maxLen ∧
    Sep w (pts p0 (.cells #[.slice a cs.length n, i64 base, .slice b log.length m] 92 (0, 0)) :: rowI (.slice a cs.length n) cs :: rowE (.slice b log.length m) log :: L) := by
  obtain ⟨p0, cv, lv, hp, h⟩ := mem_open h
  obtain ⟨a, n, rfl, _⟩ := (h.pick 1).rowShape
  obtain ⟨b, m, rfl, hm⟩ := (h.pick 2).rowShape
  exact ⟨p0, a, n, b, m, hp, cell_of_blk h.get 0, cell_of_blk h.get 1, cell_of_blk h.get 2, fun i => frozen_of_blk h.get i, hm.1, hm.2, h⟩

set_option maxHeartbeats 400000 in
theorem Mark_spec (hS : Sep w (mem p cs base log :: L)) (hb : Small cs base log) :
    Calls Try.prog 33 #[p] w fun e w' => e = .returned (i64 (base + log.length)) ∧ ∃ n, w' = w.drewN n := by
  obtain ⟨p0, a, n, b, m, rfl, h0, h1, h2, _, _⟩ := mem_cells hS
  have hc := hb.position
  have hc2 := hb.low
  clear hS hb
  go_enter Try.func33, Try.ntmps33
  go_wp2
  go_quiet (fail)
  go_wp2
  go_ret
  exact ⟨rfl, _, rfl⟩

set_option maxHeartbeats 400000 in
theorem has_spec (hS : Sep w (mem p cs base log :: L)) (hb : Small cs base log) (i : Int) :
    Calls Try.prog 54 #[p, i64 i] w fun e w' => e = .returned (.bool (hasB cs i)) ∧ w = w' := by
  obtain ⟨p0, a, n, b, m, rfl, h0, h1, h2, _, _⟩ := mem_cells hS
  have hc := hb.cells
  clear hS hb
  by_cases i0 : 0 ≤ i
  · by_cases i1 : i < cs.length
    all_goals
      go_enter Try.func54, Try.ntmps54
      go_wp2
      go_ret
      exact ⟨by simp [hasB, i0, i1], rfl⟩
  · go_enter Try.func54, Try.ntmps54
    go_wp2
    go_ret
    have hf : hasB cs i = false := by simp [hasB]; omega
    exact ⟨by rw [hf]; rfl, rfl⟩

/-- What check answers: 24 is ErrStale, 6 is ErrRange. -/
def chk (base : Int) (log : List (Int × Int)) (mark : Int) : Int := if mark < base then 24 else if base + log.length < mark then 6 else 0

set_option maxHeartbeats 400000 in
theorem check_spec (hS : Sep w (mem p cs base log :: L)) (hb : Small cs base log) (mark : Int) :
    Calls Try.prog 55 #[p, i64 mark] w fun e w' => e = .returned (i64 (chk base log mark)) ∧ ∃ n, w' = w.drewN n := by
  have hm := Mark_spec hS hb
  obtain ⟨p0, a, n, b, m, rfl, h0, h1, h2, _, _, _, hS2⟩ := mem_cells hS
  have e : chk base log mark = if mark < base then 24 else if base + log.length < mark then 6 else 0 := rfl
  clear hS hb hS2
  by_cases c1 : mark < base
  · rw [if_pos c1] at e
    rw [e]; clear e
    go_enter Try.func55, Try.ntmps55
    go_wp2
    go_ret
    exact ⟨rfl, 0, rfl⟩
  · rw [if_neg c1] at e
    generalize base + (log.length : Int) = pos at *
    by_cases c2 : pos < mark
    · rw [if_pos c2] at e
      rw [e]; clear e
      go_enter Try.func55, Try.ntmps55
      go_wp2_with (go_at_call 33; refine hm.mono ?_; rintro e w' ⟨rfl, nq, rfl⟩)
      go_ret
      exact ⟨rfl, _, rfl⟩
    · rw [if_neg c2] at e
      rw [e]; clear e
      go_enter Try.func55, Try.ntmps55
      go_wp2_with (go_at_call 33; refine hm.mono ?_; rintro e w' ⟨rfl, nq, rfl⟩)
      go_ret
      exact ⟨rfl, _, rfl⟩

end Go.Proofs.Ytkalpgngoijdmaa
