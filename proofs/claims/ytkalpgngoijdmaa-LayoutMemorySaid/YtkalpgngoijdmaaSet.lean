/- A setup as data, and what its value reads as. -/
import Derived.Test.YtkalpgngoijdmaaSame
import Derived.Test.YtkalpgngoijdmaaAround
namespace Go.Proofs.Ytkalpgngoijdmaa
open Go.RowKit Go.Sl

variable {w : World} {L : List Asn}

abbrev Bx := Int × Int × Int × Int
abbrev Dr := Int × Int
def bcells (l : List Bx) : List Value := l.flatMap fun b => [i64 b.1, i64 b.2.1, i64 b.2.2.1, i64 b.2.2.2]
def dcells (l : List Dr) : List Value := l.flatMap fun d => [i64 d.1, i64 d.2]
theorem bcells_length (l : List Bx) : (bcells l).length = l.length * 4 := by
  induction l with
  | nil => rfl
  | cons a l ih => simp only [bcells, List.flatMap_cons, List.length_append, List.length_cons, List.length_nil] at *; omega
theorem dcells_length (l : List Dr) : (dcells l).length = l.length * 2 := by
  induction l with
  | nil => rfl
  | cons a l ih => simp only [dcells, List.flatMap_cons, List.length_append, List.length_cons, List.length_nil] at *; omega
theorem bcells_one (l : List Bx) : ∀ u ∈ bcells l, u.oneCell' = true := by
  intro u hu; obtain ⟨x, _, hx⟩ := List.mem_flatMap.1 hu; simp at hx; rcases hx with rfl | rfl | rfl | rfl <;> rfl
theorem dcells_one (l : List Dr) : ∀ u ∈ dcells l, u.oneCell' = true := by
  intro u hu; obtain ⟨x, _, hx⟩ := List.mem_flatMap.1 hu; simp at hx; rcases hx with rfl | rfl <;> rfl
theorem bcells_get : ∀ (l : List Bx) (i : Nat), i < l.length → (bcells l)[i * 4]? = some (i64 (l.getD i (0, 0, 0, 0)).1) ∧ (bcells l)[i * 4 + 1]? = some (i64 (l.getD i (0, 0, 0, 0)).2.1) ∧
    (bcells l)[i * 4 + 2]? = some (i64 (l.getD i (0, 0, 0, 0)).2.2.1) ∧ (bcells l)[i * 4 + 3]? = some (i64 (l.getD i (0, 0, 0, 0)).2.2.2)
  | [], i, h => by simp at h
  | a :: l, 0, _ => by simp [bcells]
  | a :: l, i + 1, h => by
    have := bcells_get l i (by simpa using h)
    simp only [bcells, List.flatMap_cons, Nat.add_mul, Nat.one_mul] at *
    exact this
theorem dcells_get : ∀ (l : List Dr) (i : Nat), i < l.length → (dcells l)[i * 2]? = some (i64 (l.getD i (0, 0)).1) ∧ (dcells l)[i * 2 + 1]? = some (i64 (l.getD i (0, 0)).2)
  | [], i, h => by simp at h
  | a :: l, 0, _ => by simp [dcells]
  | a :: l, i + 1, h => by
    have := dcells_get l i (by simpa using h)
    simp only [dcells, List.flatMap_cons, Nat.add_mul, Nat.one_mul] at *
    exact this
abbrev readsB (w : World) (v : Value) (l : List Bx) : Prop := readsAs w 4 v l.length (bcells l)
abbrev readsD (w : World) (v : Value) (l : List Dr) : Prop := readsAs w 2 v l.length (dcells l)
theorem readsB_at {v : Value} {l : List Bx} (h : readsB w v l) (hl : 0 < l.length) : ∃ b off cap, v = .slice (some ⟨b, off, none⟩) l.length cap ∧ ∀ i, i < l.length →
    w.cell? ⟨b, off + i * 4, none⟩ = some (i64 (l.getD i (0, 0, 0, 0)).1) ∧ w.cell? ⟨b, off + i * 4 + 1, none⟩ = some (i64 (l.getD i (0, 0, 0, 0)).2.1) ∧
    w.cell? ⟨b, off + i * 4 + 2, none⟩ = some (i64 (l.getD i (0, 0, 0, 0)).2.2.1) ∧ w.cell? ⟨b, off + i * 4 + 3, none⟩ = some (i64 (l.getD i (0, 0, 0, 0)).2.2.2) := by
  rcases h.2 with ⟨hn, _⟩ | ⟨b, off, cap, rfl, h1, h2, h3⟩
  · omega
  · refine ⟨b, off, cap, rfl, fun i hi => ?_⟩
    have e := bcells_get l i hi
    exact ⟨(h3 (i * 4) (by rw [bcells_length]; omega)).trans e.1, (h3 (i * 4 + 1) (by rw [bcells_length]; omega)).trans e.2.1, (h3 (i * 4 + 2) (by rw [bcells_length]; omega)).trans e.2.2.1, (h3 (i * 4 + 3) (by rw [bcells_length]; omega)).trans e.2.2.2⟩
theorem readsD_at {v : Value} {l : List Dr} (h : readsD w v l) (hl : 0 < l.length) : ∃ b off cap, v = .slice (some ⟨b, off, none⟩) l.length cap ∧ ∀ i, i < l.length →
    w.cell? ⟨b, off + i * 2, none⟩ = some (i64 (l.getD i (0, 0)).1) ∧ w.cell? ⟨b, off + i * 2 + 1, none⟩ = some (i64 (l.getD i (0, 0)).2) := by
  rcases h.2 with ⟨hn, _⟩ | ⟨b, off, cap, rfl, h1, h2, h3⟩
  · omega
  · refine ⟨b, off, cap, rfl, fun i hi => ?_⟩
    have e := dcells_get l i hi
    exact ⟨(h3 (i * 2) (by rw [dcells_length]; omega)).trans e.1, (h3 (i * 2 + 1) (by rw [dcells_length]; omega)).trans e.2⟩

/-- A setup: its numbers, how many bodies, its rooms and doors, and the three slices. -/
structure St where
  players : Int
  nb : Nat
  ba : Option Addr
  bc : Nat
  x0 : Int
  y0 : Int
  x1 : Int
  y1 : Int
  rooms : List Bx
  ra : Option Addr
  rc : Nat
  doors : List Dr
  da : Option Addr
  dc : Nat
  fog : Int
  gx : Int
  gy : Int
  push : Int
  drag : Int
  rest : Int
  rounds : Int
  fuel : Int

@[reducible] def St.bodiesV (s : St) : Value := .slice s.ba s.nb s.bc
@[reducible] def St.roomsV (s : St) : Value := .slice s.ra s.rooms.length s.rc
@[reducible] def St.doorsV (s : St) : Value := .slice s.da s.doors.length s.dc
@[reducible] def St.val (s : St) : Value := .agg #[i64 s.players, .slice s.ba s.nb s.bc, i64 s.x0, i64 s.y0, i64 s.x1, i64 s.y1, .slice s.ra s.rooms.length s.rc, .slice s.da s.doors.length s.dc,
  i64 s.fog, i64 s.gx, i64 s.gy, i64 s.push, i64 s.drag, i64 s.rest, i64 s.rounds, i64 s.fuel]
/-- What of a setup the package reads. -/
structure St.Reads (w : World) (s : St) : Prop where
  rooms : readsB w s.roomsV s.rooms
  doors : readsD w s.doorsV s.doors
theorem St.Reads.below {w w' : World} {s : St} (h : s.Reads w) (b : Below w.heap.size w w') : s.Reads w' := ⟨h.rooms.of_heap b.block, h.doors.of_heap b.block⟩
/-- Its sizes are small. -/
structure St.Fine (s : St) : Prop where
  rooms : s.rooms.length ≤ 8
  doors : s.doors.length ≤ 40
  valid : ∀ d ∈ s.doors, 0 ≤ d.1 ∧ d.1 < s.rooms.length ∧ 0 ≤ d.2 ∧ d.2 < s.rooms.length

/-- Does the rectangle hold the point? -/
def inB (b : Bx) (x y : Int) : Bool := decide (b.1 ≤ x) && decide (x ≤ b.2.2.1) && (decide (b.2.1 ≤ y) && decide (y ≤ b.2.2.2))
def roomIx (l : List Bx) (x y : Int) : Int := match (List.range l.length).find? fun i => inB (l.getD i (0, 0, 0, 0)) x y with
  | some i => (i : Int)
  | none => -1
theorem roomIx_at {l : List Bx} {x y : Int} {k : Nat} (hk : k < l.length) (h : ∀ i, i < k → inB (l.getD i (0, 0, 0, 0)) x y = false) (hb : inB (l.getD k (0, 0, 0, 0)) x y = true) : roomIx l x y = k := by
  unfold roomIx
  have : (List.range l.length).find? (fun i => inB (l.getD i (0, 0, 0, 0)) x y) = some k := by
    rw [List.find?_range_eq_some]
    exact ⟨hb, by simpa using hk, fun i hi => by simpa using h i hi⟩
  rw [this]
theorem roomIx_none {l : List Bx} {x y : Int} (h : ∀ i, i < l.length → inB (l.getD i (0, 0, 0, 0)) x y = false) : roomIx l x y = -1 := by
  unfold roomIx
  have : (List.range l.length).find? (fun i => inB (l.getD i (0, 0, 0, 0)) x y) = none := by
    rw [List.find?_range_eq_none]
    exact fun i hi => by simpa using h i hi
  rw [this]

end Go.Proofs.Ytkalpgngoijdmaa
