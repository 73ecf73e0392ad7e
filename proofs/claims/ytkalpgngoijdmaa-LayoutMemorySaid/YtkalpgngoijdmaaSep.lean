/- A small separation logic over the model's heap: lists of assertions that hold of pairwise disjoint blocks. Program independent. -/
import Derived.WalkKit
import Derived.WalkSpells
import Derived.Deep.AppendSrc
import Derived.Deep.Draws
namespace Go.Sl
open Go Go.RowKit

abbrev Hl := Nat → Option Obj
abbrev Asn := Hl → Prop
def Hl.le (h k : Hl) : Prop := ∀ b o, h b = some o → k b = some o
def Hl.dj (h k : Hl) : Prop := ∀ b, h b = none ∨ k b = none
def Hl.or (h k : Hl) : Hl := fun b => (h b).or (k b)
def Hl.none : Hl := fun _ => Option.none

theorem Hl.le_refl (h : Hl) : Hl.le h h := fun _ _ e => e
theorem Hl.le_trans {a b c : Hl} (h : Hl.le a b) (k : Hl.le b c) : Hl.le a c := fun x o e => k x o (h x o e)
theorem Hl.none_le (h : Hl) : Hl.le Hl.none h := fun _ _ e => by cases e
theorem Hl.dj_none (h : Hl) : Hl.dj Hl.none h := fun _ => .inl rfl
theorem Hl.dj_symm {h k : Hl} (d : Hl.dj h k) : Hl.dj k h := fun b => (d b).symm
theorem Hl.dj_le {a b c : Hl} (d : Hl.dj a b) (l : Hl.le c b) : Hl.dj a c := fun x => by
  rcases d x with h | h
  · exact .inl h
  · cases hc : c x with
    | none => exact .inr rfl
    | some u => rw [l x u hc] at h; cases h
theorem Hl.le_or_left (h k : Hl) : Hl.le h (Hl.or h k) := fun b o e => by simp [Hl.or, e]
theorem Hl.le_or_right {h k : Hl} (d : Hl.dj h k) : Hl.le k (Hl.or h k) := fun b o e => by
  rcases d b with x | x
  · simp [Hl.or, x, e]
  · rw [x] at e; cases e
theorem Hl.or_le {a b c : Hl} (h : Hl.le a c) (k : Hl.le b c) : Hl.le (Hl.or a b) c := fun x o e => by
  simp only [Hl.or, Option.or_eq_some_iff] at e
  rcases e with e | ⟨_, e⟩
  · exact h x o e
  · exact k x o e
theorem Hl.dj_or {a b c : Hl} (h : Hl.dj a b) (k : Hl.dj a c) : Hl.dj a (Hl.or b c) := fun x => by
  rcases h x with h | h
  · exact .inl h
  · rcases k x with k | k
    · exact .inl k
    · exact .inr (by simp [Hl.or, h, k])

def star : List Asn → Asn
  | [], _ => True
  | A :: L, h => ∃ x y, A x ∧ star L y ∧ Hl.dj x y ∧ Hl.le x h ∧ Hl.le y h

def hl (w : World) : Hl := fun b => w.heap[b]?
def Sep (w : World) (L : List Asn) : Prop := star L (hl w)

theorem star_le {L : List Asn} {h k : Hl} (hs : star L h) (l : Hl.le h k) : star L k := by
  cases L with
  | nil => trivial
  | cons A L =>
    obtain ⟨x, y, a, s, d, lx, ly⟩ := hs
    exact ⟨x, y, a, s, d, Hl.le_trans lx l, Hl.le_trans ly l⟩

theorem star_swap {A B : Asn} {L : List Asn} {h : Hl} (hs : star (A :: B :: L) h) : star (B :: A :: L) h := by
  obtain ⟨x, y, a, ⟨x2, y2, b, s, d2, lx2, ly2⟩, d, lx, ly⟩ := hs
  refine ⟨x2, Hl.or x y2, b, ⟨x, y2, a, s, Hl.dj_le d ly2, Hl.le_or_left _ _, Hl.le_or_right (Hl.dj_le d ly2)⟩, ?_, Hl.le_trans lx2 ly, Hl.or_le lx (Hl.le_trans ly2 ly)⟩
  exact Hl.dj_or (Hl.dj_symm (Hl.dj_le d lx2)) d2

theorem star_tail {A : Asn} {L L' : List Asn} (f : ∀ h, star L h → star L' h) {h : Hl} (hs : star (A :: L) h) : star (A :: L') h := by
  obtain ⟨x, y, a, s, d, lx, ly⟩ := hs
  exact ⟨x, y, a, f y s, d, lx, ly⟩

theorem star_perm {L L' : List Asn} (p : L.Perm L') : ∀ h, star L h → star L' h := by
  induction p with
  | nil => exact fun _ h => h
  | cons A _ ih => exact fun h s => star_tail ih s
  | swap A B L => exact fun h s => star_swap s
  | trans _ _ ih1 ih2 => exact fun h s => ih2 h (ih1 h s)

def pickL {α : Type _} : Nat → List α → List α
  | 0, l => l
  | _ + 1, [] => []
  | k + 1, a :: l => match pickL k l with
    | [] => [a]
    | b :: r => b :: a :: r

theorem pickL_perm {α : Type _} : ∀ (k : Nat) (l : List α), l.Perm (pickL k l)
  | 0, l => List.Perm.refl l
  | _ + 1, [] => List.Perm.refl []
  | k + 1, a :: l => by
    have ih := pickL_perm k l
    unfold pickL
    split
    · rename_i h; rw [h] at ih; rw [ih.eq_nil]
    · rename_i b r h; rw [h] at ih; exact (ih.cons a).trans (List.Perm.swap b a r)

theorem star_app {L1 L2 : List Asn} : ∀ {h : Hl}, star (L1 ++ L2) h ↔ ∃ x y, star L1 x ∧ star L2 y ∧ Hl.dj x y ∧ Hl.le x h ∧ Hl.le y h := by
  induction L1 with
  | nil =>
    intro h
    constructor
    · exact fun s => ⟨Hl.none, h, trivial, s, Hl.dj_none h, Hl.none_le h, Hl.le_refl h⟩
    · rintro ⟨x, y, _, s, _, _, l⟩; exact star_le s l
  | cons A L1 ih =>
    intro h
    constructor
    · rintro ⟨x, y, a, s, d, lx, ly⟩
      obtain ⟨x1, y1, s1, s2, d1, lx1, ly1⟩ := ih.1 s
      have dx1 := Hl.dj_le d lx1
      refine ⟨Hl.or x x1, y1, ⟨x, x1, a, s1, dx1, Hl.le_or_left _ _, Hl.le_or_right dx1⟩, s2, ?_, Hl.or_le lx (Hl.le_trans lx1 ly), Hl.le_trans ly1 ly⟩
      exact Hl.dj_symm (Hl.dj_or (Hl.dj_symm (Hl.dj_le d ly1)) (Hl.dj_symm d1))
    · rintro ⟨x, y, ⟨x1, y1, a, s, d1, lx1, ly1⟩, s2, d, lx, ly⟩
      have dyx := Hl.dj_symm d
      have dy1 : Hl.dj y1 y := Hl.dj_symm (Hl.dj_le dyx ly1)
      refine ⟨x1, Hl.or y1 y, a, ih.2 ⟨y1, y, s, s2, dy1, Hl.le_or_left _ _, Hl.le_or_right dy1⟩, ?_, Hl.le_trans lx1 lx, Hl.or_le (Hl.le_trans ly1 lx) ly⟩
      exact Hl.dj_or d1 (Hl.dj_symm (Hl.dj_le dyx lx1))

variable {w w' : World} {A B : Asn} {L L' M : List Asn}

theorem Sep.perm (p : L.Perm L') (h : Sep w L) : Sep w L' := star_perm p _ h
theorem Sep.pick (k : Nat) (h : Sep w L) : Sep w (pickL k L) := h.perm (pickL_perm k L)
theorem Sep.drop (h : Sep w (A :: L)) : Sep w L := by
  obtain ⟨x, y, _, s, _, _, l⟩ := h
  exact star_le s l
theorem Sep.imp (f : ∀ h, A h → B h) (h : Sep w (A :: L)) : Sep w (B :: L) := by
  obtain ⟨x, y, a, s⟩ := h
  exact ⟨x, y, f x a, s⟩
theorem Sep.flat (h : Sep w (star M :: L)) : Sep w (M ++ L) := by
  obtain ⟨x, y, a, s, d, lx, ly⟩ := h
  exact star_app.2 ⟨x, y, a, s, d, lx, ly⟩
theorem Sep.unflat (M : List Asn) (h : Sep w (M ++ L)) : Sep w (star M :: L) := by
  obtain ⟨x, y, a, s, d, lx, ly⟩ := star_app.1 h
  exact ⟨x, y, a, s, d, lx, ly⟩
theorem Sep.ex {α : Sort _} {F : α → Asn} (h : Sep w ((fun k => ∃ a, F a k) :: L)) : ∃ a, Sep w (F a :: L) := by
  obtain ⟨x, y, ⟨a, ha⟩, s⟩ := h
  exact ⟨a, x, y, ha, s⟩
theorem Sep.pure {p : Prop} (h : Sep w ((fun k => p ∧ A k) :: L)) : p ∧ Sep w (A :: L) := by
  obtain ⟨x, y, ⟨hp, ha⟩, s⟩ := h
  exact ⟨hp, x, y, ha, s⟩
theorem Sep.head (h : Sep w (A :: L)) : ∃ x, A x ∧ Hl.le x (hl w) := by
  obtain ⟨x, y, a, _, _, l, _⟩ := h
  exact ⟨x, a, l⟩

/-- Block b holds the object o. -/
def pts (b : Nat) (o : Obj) : Asn := fun h => h b = some o

theorem Sep.get {b : Nat} {o : Obj} (h : Sep w (pts b o :: L)) : w.heap[b]? = some o := by
  obtain ⟨x, y, a, _, _, l, _⟩ := h
  exact l b o a

theorem hl_lt {b : Nat} {o : Obj} (h : hl w b = some o) : b < w.heap.size := (Array.getElem?_eq_some_iff.1 h).1

theorem Sep.same (h : Sep w L) (hk : ∀ k, k < w.heap.size → w'.heap[k]? = w.heap[k]?) : Sep w' L :=
  star_le h fun b _ e => (hk b (hl_lt e)).trans e

theorem Sep.put {b : Nat} {o o' : Obj} (h : Sep w (pts b o :: L)) (hb : w'.heap[b]? = some o') (hk : ∀ k, k < w.heap.size → k ≠ b → w'.heap[k]? = w.heap[k]?) :
    Sep w' (pts b o' :: L) := by
  obtain ⟨x, y, a, s, d, lx, ly⟩ := h
  refine ⟨fun k => if k = b then some o' else Option.none, y, by simp [pts], s, fun k => ?_, fun k u e => ?_, fun k u e => ?_⟩
  · by_cases e : k = b
    · subst e
      rcases d k with h | h
      · simp only [pts] at a; rw [a] at h; cases h
      · exact .inr h
    · simp [e]
  · by_cases e' : k = b
    · subst e'; simp at e; subst e; exact hb
    · simp [e'] at e
  · have hw := ly k u e
    have hne : k ≠ b := by
      rintro rfl
      rcases d k with h | h
      · simp only [pts] at a; rw [a] at h; cases h
      · rw [h] at e; cases e
    exact (hk k (hl_lt hw) hne).trans hw

theorem Sep.ne {a b : Nat} {o o' : Obj} (h : Sep w (pts a o :: pts b o' :: L)) : a ≠ b := by
  obtain ⟨x, y, hx, ⟨x2, y2, hx2, _, _, lx2, _⟩, d, _, _⟩ := h
  rintro rfl
  rcases d a with e | e
  · simp only [pts] at hx; rw [hx] at e; cases e
  · simp only [pts] at hx2; rw [lx2 _ _ hx2] at e; cases e

theorem Sep.put2 {a b : Nat} {o1 o2 o1' o2' : Obj} (h : Sep w (pts a o1 :: pts b o2 :: L)) (ha : w'.heap[a]? = some o1') (hb : w'.heap[b]? = some o2')
    (hk : ∀ k, k < w.heap.size → k ≠ a → k ≠ b → w'.heap[k]? = w.heap[k]?) : Sep w' (pts a o1' :: pts b o2' :: L) := by
  have hlt := hl_lt h.get
  have h1 : Sep { w with heap := w.heap.set a o1' hlt } (pts a o1' :: pts b o2 :: L) := h.put (by simp) (fun k _ hne => by simp [Ne.symm hne])
  have h2 : Sep w' (pts b o2' :: pts a o1' :: L) := (h1.pick 1).put hb (fun k hk' hne => by
    by_cases e : k = a
    · subst e; simp [ha]
    · simp only [Array.size_set] at hk'
      rw [hk k hk' e hne]; simp [Ne.symm e])
  exact h2.pick 1

theorem Sep.new {b : Nat} {o : Obj} (h : Sep w L) (hs : w.heap.size ≤ b) (hb : w'.heap[b]? = some o) (hk : ∀ k, k < w.heap.size → w'.heap[k]? = w.heap[k]?) :
    Sep w' (pts b o :: L) := by
  refine ⟨fun k => if k = b then some o else Option.none, hl w, by simp [pts], h, fun k => ?_, fun k u e => ?_, fun k u e => (hk k (hl_lt e)).trans e⟩
  · by_cases e : k = b
    · subst e
      exact .inr (Array.getElem?_eq_none hs)
    · simp [e]
  · by_cases e' : k = b
    · subst e'; simp at e; subst e; exact hb
    · simp [e'] at e

theorem heap_alloc_at (w : World) (o : Obj) : (w.alloc o).heap[w.heap.size]? = some o := heap_alloc_new w o
theorem heap_alloc_lt (w : World) (o : Obj) (k : Nat) (h : k < w.heap.size) : (w.alloc o).heap[k]? = w.heap[k]? := Below.heap_alloc w o k h

theorem Sep.alloc (h : Sep w L) (o : Obj) : Sep (w.alloc o) (pts w.heap.size o :: L) :=
  h.new (Nat.le_refl _) (heap_alloc_at w o) (heap_alloc_lt w o)
theorem Sep.allocBeside (h : Sep w L) (o : Obj) : Sep (w.alloc o) L := h.same (heap_alloc_lt w o)
theorem Sep.drew (h : Sep w L) : Sep w.drew L := h
theorem Sep.drewN (h : Sep w L) (n : Nat) : Sep (w.drewN n) L := h

theorem heap_setCell_at {b : Nat} {c : Array Value} {t : TypeId} {f : Nat × Nat} (h : w.heap[b]? = some (.cells c t f)) (i : Nat) (v : Value) :
    (w.setCell ⟨b, i, none⟩ v).heap[b]? = some (.cells (c.setIfInBounds i v) t f) := by
  simp [World.setCell, Array.getElem?_modify, h]

theorem Sep.setCell {b : Nat} {c : Array Value} {t : TypeId} {f : Nat × Nat} (h : Sep w (pts b (.cells c t f) :: L)) (i : Nat) (v : Value) :
    Sep (w.setCell ⟨b, i, none⟩ v) (pts b (.cells (c.setIfInBounds i v) t f) :: L) :=
  h.put (heap_setCell_at h.get i v) fun k _ hk => Below.heap_setCell w ⟨b, i, none⟩ v k hk

/-- All that the world w0 holds is there, unchanged. -/
def old (w0 : World) : Asn := fun h => Hl.le (hl w0) h

theorem Sep.start (w : World) : Sep w [old w] := ⟨hl w, Hl.none, Hl.le_refl _, trivial, Hl.dj_symm (Hl.dj_none _), Hl.le_refl _, Hl.none_le _⟩
theorem Sep.oldGet {w0 : World} (h : Sep w (old w0 :: L)) : ∀ k, k < w0.heap.size → w.heap[k]? = w0.heap[k]? := by
  obtain ⟨x, y, a, _, _, l, _⟩ := h
  intro k hk
  have e : hl w0 k = some w0.heap[k] := by simp [hl, hk]
  exact (l k _ (a k _ e)).trans e.symm
theorem Sep.mount (h : Sep w L) (h' : Sep w' (old w :: M)) : Sep w' (M ++ L) := by
  obtain ⟨x, y, a, s, d, lx, ly⟩ := h'
  exact star_app.2 ⟨y, x, s, star_le h a, Hl.dj_symm d, ly, lx⟩

/-- The streams, the tape and the world outside are as they were; no block has gone. -/
structure Stable (w w' : World) : Prop where
  os : w'.os = w.os
  tape : w'.tape = w.tape
  output : w'.output = w.output
  size : w.heap.size ≤ w'.heap.size
theorem Stable.refl (w : World) : Stable w w := ⟨rfl, rfl, rfl, Nat.le_refl _⟩
theorem Stable.trans {a b c : World} (h : Stable a b) (k : Stable b c) : Stable a c := ⟨k.os.trans h.os, k.tape.trans h.tape, k.output.trans h.output, Nat.le_trans h.size k.size⟩
theorem Stable.drew {a b : World} (h : Stable a b) : Stable a b.drew := ⟨h.os, h.tape, h.output, h.size⟩
theorem Stable.drewN {a b : World} (h : Stable a b) (n : Nat) : Stable a (b.drewN n) := ⟨h.os, h.tape, h.output, h.size⟩
theorem Stable.alloc {a b : World} (h : Stable a b) (o : Obj) : Stable a (b.alloc o) := ⟨h.os, h.tape, h.output, by have := h.size; simp; omega⟩
theorem Stable.setCell {a b : World} (h : Stable a b) (p : Addr) (v : Value) : Stable a (b.setCell p v) := ⟨h.os, h.tape, h.output, by have := h.size; simpa using this⟩
theorem Stable.grown {a b c : World} (h : Stable a b) {r : Option Nat} (k : b.grownBy c r) : Stable a c := h.trans ⟨k.os, k.tape, k.output, k.size⟩
theorem Stable.below {B : Nat} {a b c : World} (h : Stable a b) (k : Below B b c) : Stable a c := h.trans ⟨k.os, k.tape, k.output, k.size⟩

theorem Sep.below {w0 : World} (h : Sep w (old w0 :: L)) (s : Stable w0 w) : Below w0.heap.size w0 w := ⟨s.os, s.tape, s.output, s.size, h.oldGet⟩
theorem Sep.ofBelow {w w' : World} (h : Sep w L) (b : Below w.heap.size w w') : Sep w' L := h.same b.block

/-- v is a slice that owns a row of cells: n elements of type e (size cells each), the cells xs; nil counts. -/
def row (e : TypeId) (size : Nat) (v : Value) (n : Nat) (xs : List Value) : Asn := fun h =>
  xs.length = n * size ∧ ((v = .slice none 0 0 ∧ n = 0) ∨
   ∃ g cap cur, v = .slice (some ⟨g, 0, none⟩) n cap ∧ n ≤ cap ∧ cap ≤ maxLen ∧ cur.size = cap * size ∧ cur.toList.take (n * size) = xs ∧ h g = some (.cells cur e (0, 0)))

section row
variable {e : TypeId} {size : Nat} {v : Value} {n : Nat} {xs : List Value}

theorem row_nil (e : TypeId) (size : Nat) (h : Hl) : row e size (.slice none 0 0) 0 [] h := ⟨by simp, .inl ⟨rfl, rfl⟩⟩
theorem Sep.addNil (e : TypeId) (size : Nat) (h : Sep w L) : Sep w (row e size (.slice none 0 0) 0 [] :: L) :=
  ⟨Hl.none, hl w, row_nil e size _, h, Hl.dj_none _, Hl.none_le _, Hl.le_refl _⟩

theorem Sep.rowLen (h : Sep w (row e size v n xs :: L)) : xs.length = n * size := by
  obtain ⟨x, a, _⟩ := h.head
  exact a.1

/-- The two shapes of an owned row. -/
theorem Sep.rowCases (h : Sep w (row e size v n xs :: L)) :
    (v = .slice none 0 0 ∧ n = 0 ∧ xs = [] ∧ Sep w L) ∨
    ∃ g cap cur, v = .slice (some ⟨g, 0, none⟩) n cap ∧ n ≤ cap ∧ cap ≤ maxLen ∧ cur.size = cap * size ∧ cur.toList.take (n * size) = xs ∧ xs.length = n * size ∧ Sep w (pts g (.cells cur e (0, 0)) :: L) := by
  have hd := h.drop
  obtain ⟨x, y, ⟨hl, a⟩, s⟩ := h
  rcases a with ⟨hv, hn⟩ | ⟨g, cap, cur, hv, h1, h2, h3, h4, h5⟩
  · subst hn
    exact .inl ⟨hv, rfl, List.eq_nil_of_length_eq_zero (by simpa using hl), hd⟩
  · exact .inr ⟨g, cap, cur, hv, h1, h2, h3, h4, hl, x, y, h5, s⟩

theorem Sep.toRow {g cap : Nat} {cur : Array Value} (h : Sep w (pts g (.cells cur e (0, 0)) :: L)) (h1 : n ≤ cap) (h2 : cap ≤ maxLen) (h3 : cur.size = cap * size) (h4 : cur.toList.take (n * size) = xs) :
    Sep w (row e size (.slice (some ⟨g, 0, none⟩) n cap) n xs :: L) := by
  refine h.imp fun k hk => ⟨?_, .inr ⟨g, cap, cur, rfl, h1, h2, h3, h4, hk⟩⟩
  rw [← h4, List.length_take, Array.length_toList, h3]
  exact Nat.min_eq_left (Nat.mul_le_mul_right _ h1)

/-- x = x[:k]: the row cut short. -/
theorem Sep.rowTake {b : Option Addr} {cap k : Nat} (h : Sep w (row e size (.slice b n cap) n xs :: L)) (hk : k ≤ n) : Sep w (row e size (.slice b k cap) k (xs.take (k * size)) :: L) := by
  rcases h.rowCases with ⟨hv, hn, rfl, hL⟩ | ⟨g, cap', cur, hv, h1, h2, h3, h4, h5, h6⟩
  · obtain ⟨rfl, _, rfl⟩ : b = none ∧ n = 0 ∧ cap = 0 := by simpa using hv
    obtain rfl : k = 0 := by omega
    simpa using hL.addNil e size
  · obtain ⟨rfl, rfl⟩ : b = some ⟨g, 0, none⟩ ∧ cap = cap' := by simpa using hv
    refine h6.toRow (by omega) h2 h3 ?_
    rw [← h4, List.take_take, Nat.min_eq_left (Nat.mul_le_mul_right _ hk)]

theorem Sep.owns (h : Sep w (row e size v n xs :: L)) : w.ownsRow 0 e size v n xs := by
  refine ⟨h.rowLen, ?_⟩
  rcases h.rowCases with ⟨hv, hn, _⟩ | ⟨g, cap, cur, hv, h1, h2, h3, h4, _, h5⟩
  · exact .inl ⟨hv, hn⟩
  · exact .inr ⟨g, cap, cur, hv, Nat.zero_le _, h5.get, h1, h2, h3, h4⟩

/-- A row of the call's own, made new: out of the kit's words. -/
theorem Sep.ofOwns (h : Sep w L) (k : w'.ownsRow w.heap.size e size v n xs) (hk : ∀ k, k < w.heap.size → w'.heap[k]? = w.heap[k]?) : Sep w' (row e size v n xs :: L) := by
  obtain ⟨hl, hv | ⟨g, cap, cur, hv, hb, hg, h1, h2, h3, h4⟩⟩ := k
  · obtain ⟨rfl, rfl⟩ := hv
    obtain rfl : xs = [] := List.eq_nil_of_length_eq_zero (by simpa using hl)
    exact (h.same hk).addNil e size
  · subst hv
    exact (h.new hb hg hk).toRow h1 h2 h3 h4

theorem cell_of_blk {g : Nat} {cur : Array Value} {t : TypeId} {f : Nat × Nat} (h : w.heap[g]? = some (.cells cur t f)) (i : Nat) : w.cell? ⟨g, i, none⟩ = cur[i]? := by simp [World.cell?, h]
theorem frozen_of_blk {g : Nat} {cur : Array Value} {t : TypeId} (h : w.heap[g]? = some (.cells cur t (0, 0))) (i : Nat) : w.frozen? ⟨g, i, none⟩ = false := by simp [World.frozen?, h]

theorem take_getElem? {cur : Array Value} {m : Nat} (h : cur.toList.take m = xs) {i : Nat} (hi : i < m) : cur[i]? = xs[i]? := by
  rw [← h, List.getElem?_take, if_pos hi]; simp

theorem Sep.rowShape (h : Sep w (row e size v n xs :: L)) : ∃ a cap, v = .slice a n cap ∧ n ≤ cap ∧ cap ≤ maxLen := by
  rcases h.rowCases with ⟨hv, hn, _⟩ | ⟨g, cap, cur, hv, h1, h2, _⟩
  · subst hn; exact ⟨none, 0, hv, Nat.le_refl _, Nat.zero_le _⟩
  · exact ⟨_, cap, hv, h1, h2⟩

/-- An owned row with an element: its block, its cells; a store into it. -/
theorem Sep.rowAt (h : Sep w (row e size v n xs :: L)) (hn : 0 < n) : ∃ g cap, v = .slice (some ⟨g, 0, none⟩) n cap ∧ n ≤ cap ∧ cap ≤ maxLen ∧
    (∀ i, i < xs.length → w.cell? ⟨g, i, none⟩ = xs[i]?) ∧ (∀ i, w.frozen? ⟨g, i, none⟩ = false) ∧ g < w.heap.size ∧
    (∀ i u, i < xs.length → Sep (w.setCell ⟨g, i, none⟩ u) (row e size v n (xs.set i u) :: L)) := by
  rcases h.rowCases with ⟨_, h0, _⟩ | ⟨g, cap, cur, hv, h1, h2, h3, h4, h5, h6⟩
  · omega
  · refine ⟨g, cap, hv, h1, h2, fun i hi => ?_, fun i => frozen_of_blk h6.get i, hl_lt h6.get, fun i u hi => ?_⟩
    · rw [cell_of_blk h6.get, take_getElem? h4 (by omega)]
    · subst hv
      refine (h6.setCell i u).toRow h1 h2 (by simpa using h3) ?_
      rw [Array.toList_setIfInBounds, List.take_set, h4]

end row

/-- A slice value reads as n elements, the cells xs, in w. Nothing is owned. -/
def readsAs (w : World) (size : Nat) (v : Value) (n : Nat) (xs : List Value) : Prop :=
  xs.length = n * size ∧ ((n = 0 ∧ ∃ a cap, v = .slice a 0 cap ∧ cap ≤ maxLen ∧ (a = none → cap = 0)) ∨
   ∃ b off cap, v = .slice (some ⟨b, off, none⟩) n cap ∧ n ≤ cap ∧ cap ≤ maxLen ∧ ∀ i, i < xs.length → w.cell? ⟨b, off + i, none⟩ = xs[i]?)

theorem readsAs.shape {size : Nat} {v : Value} {n : Nat} {xs : List Value} (h : readsAs w size v n xs) : ∃ a cap, v = .slice a n cap ∧ n ≤ cap ∧ cap ≤ maxLen ∧ (a = none → n = 0 ∧ cap = 0) := by
  rcases h.2 with ⟨rfl, a, cap, rfl, h1, h2⟩ | ⟨b, off, cap, rfl, h1, h2, _⟩
  · exact ⟨a, cap, rfl, Nat.zero_le _, h1, fun e => ⟨rfl, h2 e⟩⟩
  · exact ⟨_, cap, rfl, h1, h2, fun e => by cases e⟩

theorem Sep.reads {e : TypeId} {size : Nat} {v : Value} {n : Nat} {xs : List Value} (h : Sep w (row e size v n xs :: L)) : readsAs w size v n xs := by
  refine ⟨h.rowLen, ?_⟩
  rcases h.rowCases with ⟨hv, hn, _⟩ | ⟨g, cap, cur, hv, h1, h2, h3, h4, h5, h6⟩
  · exact .inl ⟨hn, none, 0, hv, Nat.zero_le _, fun _ => rfl⟩
  · refine .inr ⟨g, 0, cap, hv, h1, h2, fun i hi => ?_⟩
    rw [Nat.zero_add, cell_of_blk h6.get, take_getElem? h4 (by omega)]

theorem readsAs.of_heap {size : Nat} {v : Value} {n : Nat} {xs : List Value} (h : readsAs w size v n xs) (hk : ∀ k, k < w.heap.size → w'.heap[k]? = w.heap[k]?) : readsAs w' size v n xs := by
  refine ⟨h.1, ?_⟩
  rcases h.2 with h | ⟨b, off, cap, hv, h1, h2, h3⟩
  · exact .inl h
  · refine .inr ⟨b, off, cap, hv, h1, h2, fun i hi => ?_⟩
    have e := h3 i hi
    rw [List.getElem?_eq_getElem hi] at e ⊢
    rw [← e]
    exact World.cell?_of_block (hk b (World.block_lt_of_cell? w ⟨b, off + i, none⟩ e))

theorem quiet_of_eq {P : Program} {f : FuncId} {args : Array Value} {w : World} {n : Nat} {v : Value}
    (h : Calls P f args (w.drewN n) fun e w' => e = .returned v ∧ w.drewN n = w') : Calls P f args (w.drewN n) fun e w'' => e = .returned v ∧ ∃ m, w'' = w.drewN m :=
  h.mono fun _ _ ⟨he, hm⟩ => ⟨he, n, hm.symm⟩

theorem still_of_eq {P : Program} {f : FuncId} {args : Array Value} {w : World} {v : Value}
    (h : Calls P f args w fun e w' => e = .returned v ∧ w = w') : Calls P f args w fun e w' => e = .returned v ∧ w' = w :=
  h.mono fun _ _ ⟨he, hm⟩ => ⟨he, hm.symm⟩

end Go.Sl
