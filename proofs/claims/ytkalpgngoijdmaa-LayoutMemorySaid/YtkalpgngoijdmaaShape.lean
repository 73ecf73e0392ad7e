/- Contracts: ShapeOf makes a good shape. -/
import Derived.Test.YtkalpgngoijdmaaSet
import Derived.Test.YtkalpgngoijdmaaHeld
namespace Go.Proofs.Ytkalpgngoijdmaa
open Go.RowKit Go.Sl

variable {w : World} {L : List Asn}

/-- A shape: its radius, its points. -/
structure Shp where
  rad : Int
  pl : List Dr
  pa : Option Addr
  pc : Nat
@[reducible] def Shp.polyV (s : Shp) : Value := .slice s.pa s.pl.length s.pc
/-- One of the shapes that the generator makes. -/
def Shp.Good (s : Shp) : Prop := ∃ k : Int, 1 ≤ k ∧ k ≤ 5 ∧ ((s.rad = 512 * k ∧ s.pl = []) ∨ (s.rad = 0 ∧ (s.pl = [(-(512 * k), -(512 * k)), (512 * k, -(512 * k)), (512 * k, 512 * k), (-(512 * k), 512 * k)] ∨
  s.pl = [(-(512 * k), -(512 * k)), (512 * k, -(512 * k)), (0, 512 * k)] ∨ s.pl = [(-2 * (512 * k), -300), (2 * (512 * k), -300), (2 * (512 * k), 300), (-2 * (512 * k), 300)])))
abbrev Shp.held (s : Shp) : Asn := Sl.held 2 s.polyV s.pl.length (dcells s.pl)

set_option maxHeartbeats 4000000 in
theorem ShapeOf_spec (n : Int) (hn : inI64 n) (w : World) :
    Calls Try.prog 37 #[i64 n] w fun e w' => ∃ s : Shp, e = .returned (.agg #[i64 s.rad, .slice s.pa s.pl.length s.pc]) ∧ s.Good ∧ Sep w' [s.held, old w] ∧ Stable w w' := by
  have h1 := fun w => Around_spec n 1000 w (by omega) (by omega) hn
  have n0 : 0 ≤ around n 1000 := around_lo (by omega)
  have n1 : around n 1000 < 1000 := around_hi (by omega)
  generalize around n 1000 = k at *
  have H1 := Lib.hid h1
  clear h1
  have GC : ∀ (x : Int), 1 ≤ x → x ≤ 5 → ∀ W : World, ∃ s : Shp, Value.agg #[i64 (512 * x), .slice none 0 0] = (.agg #[i64 s.rad, .slice s.pa s.pl.length s.pc]) ∧ s.Good ∧ Sep (W.alloc (.cells #[i64 (512 * x), .slice none 0 0] 48)) [s.held, old W] ∧ Stable W (W.alloc (.cells #[i64 (512 * x), .slice none 0 0] 48)) := fun x a b W =>
    ⟨⟨512 * x, [], none, 0⟩, rfl, ⟨x, a, b, .inl ⟨rfl, rfl⟩⟩, ((Sep.start W).allocBeside _).add (held_nil 2), (Stable.refl W).alloc _⟩
  have GP : ∀ (x : Int), 1 ≤ x → x ≤ 5 → ∀ (W : World) (l : List Dr), l.length ≤ 8 → (Shp.mk 0 l (some ⟨W.heap.size + 1, 0, none⟩) l.length).Good → ∃ s : Shp, Value.agg #[i64 0, .slice (some ⟨W.heap.size + 1, 0, none⟩) l.length l.length] = (.agg #[i64 s.rad, .slice s.pa s.pl.length s.pc]) ∧ s.Good ∧
      Sep ((W.alloc (.cells #[i64 0, .slice (some ⟨W.heap.size + 1, 0, none⟩) l.length l.length] 48)).alloc (.cells (dcells l).toArray 29)) [s.held, old W] ∧
      Stable W ((W.alloc (.cells #[i64 0, .slice (some ⟨W.heap.size + 1, 0, none⟩) l.length l.length] 48)).alloc (.cells (dcells l).toArray 29)) := fun x a b W l hl hg => by
    refine ⟨⟨0, l, some ⟨W.heap.size + 1, 0, none⟩, l.length⟩, rfl, hg, ?_, ((Stable.refl W).alloc _).alloc _⟩
    have h := ((Sep.start W).allocBeside (.cells #[i64 0, .slice (some ⟨W.heap.size + 1, 0, none⟩) l.length l.length] 48)).alloc (.cells (dcells l).toArray 29)
    have h2 := h.lit (size := 2) (n := l.length) (by simp [dcells_length]) (by unfold maxLen; omega)
    simpa using h2
  have GC := Lib.hid GC
  have GP := Lib.hid GP
  have r0 : 1 ≤ 1 + k / 7 % 5 ∧ 1 + k / 7 % 5 ≤ 5 := by omega
  go_enter Try.func37, Try.ntmps37
  go_wp2_with fail
  refine (H1.out _).mono ?_
  rintro e w1 ⟨rfl, rfl⟩
  go_wp2_with fail
  · refine bodyPost_ret (v := .agg #[i64 (512 * (1 + k / 7 % 5)), .slice none 0 0]) (by simp [results, Try.results37, go_sem]) rfl ?_
    obtain ⟨s, h⟩ := GC.out (1 + k / 7 % 5) r0.1 r0.2 w
    exact ⟨s, congrArg _ h.1, h.2⟩
  · refine bodyPost_ret (v := .agg #[i64 (512 * (1 + k / 7 % 5)), .slice none 0 0]) (by simp [results, Try.results37, go_sem]) rfl ?_
    obtain ⟨s, h⟩ := GC.out (1 + k / 7 % 5) r0.1 r0.2 w
    exact ⟨s, congrArg _ h.1, h.2⟩
  · refine bodyPost_ret (v := .agg #[i64 (512 * (1 + k / 7 % 5)), .slice none 0 0]) (by simp [results, Try.results37, go_sem]) rfl ?_
    obtain ⟨s, h⟩ := GC.out (1 + k / 7 % 5) r0.1 r0.2 w
    exact ⟨s, congrArg _ h.1, h.2⟩
  · refine bodyPost_ret (v := .agg #[i64 0, .slice (some ⟨w.heap.size + 1, 0, none⟩) 4 4]) (by simp [results, Try.results37, go_sem]) rfl ?_
    obtain ⟨s, h⟩ := GP.out (1 + k / 7 % 5) r0.1 r0.2 w [(-(512 * (1 + k / 7 % 5)), -(512 * (1 + k / 7 % 5))), (512 * (1 + k / 7 % 5), -(512 * (1 + k / 7 % 5))), (512 * (1 + k / 7 % 5), 512 * (1 + k / 7 % 5)), (-(512 * (1 + k / 7 % 5)), 512 * (1 + k / 7 % 5))] (by simp) ⟨_, r0.1, r0.2, .inr ⟨rfl, .inl rfl⟩⟩
    exact ⟨s, congrArg _ h.1, h.2⟩
  · refine bodyPost_ret (v := .agg #[i64 0, .slice (some ⟨w.heap.size + 1, 0, none⟩) 4 4]) (by simp [results, Try.results37, go_sem]) rfl ?_
    obtain ⟨s, h⟩ := GP.out (1 + k / 7 % 5) r0.1 r0.2 w [(-(512 * (1 + k / 7 % 5)), -(512 * (1 + k / 7 % 5))), (512 * (1 + k / 7 % 5), -(512 * (1 + k / 7 % 5))), (512 * (1 + k / 7 % 5), 512 * (1 + k / 7 % 5)), (-(512 * (1 + k / 7 % 5)), 512 * (1 + k / 7 % 5))] (by simp) ⟨_, r0.1, r0.2, .inr ⟨rfl, .inl rfl⟩⟩
    exact ⟨s, congrArg _ h.1, h.2⟩
  · refine bodyPost_ret (v := .agg #[i64 0, .slice (some ⟨w.heap.size + 1, 0, none⟩) 3 3]) (by simp [results, Try.results37, go_sem]) rfl ?_
    obtain ⟨s, h⟩ := GP.out (1 + k / 7 % 5) r0.1 r0.2 w [(-(512 * (1 + k / 7 % 5)), -(512 * (1 + k / 7 % 5))), (512 * (1 + k / 7 % 5), -(512 * (1 + k / 7 % 5))), (0, 512 * (1 + k / 7 % 5))] (by simp) ⟨_, r0.1, r0.2, .inr ⟨rfl, .inr <| .inl rfl⟩⟩
    exact ⟨s, congrArg _ h.1, h.2⟩
  · refine bodyPost_ret (v := .agg #[i64 0, .slice (some ⟨w.heap.size + 1, 0, none⟩) 4 4]) (by simp [results, Try.results37, go_sem]) rfl ?_
    obtain ⟨s, h⟩ := GP.out (1 + k / 7 % 5) r0.1 r0.2 w [(-2 * (512 * (1 + k / 7 % 5)), -300), (2 * (512 * (1 + k / 7 % 5)), -300), (2 * (512 * (1 + k / 7 % 5)), 300), (-2 * (512 * (1 + k / 7 % 5)), 300)] (by simp) ⟨_, r0.1, r0.2, .inr ⟨rfl, .inr <| .inr rfl⟩⟩
    exact ⟨s, congrArg _ h.1, h.2⟩

end Go.Proofs.Ytkalpgngoijdmaa
