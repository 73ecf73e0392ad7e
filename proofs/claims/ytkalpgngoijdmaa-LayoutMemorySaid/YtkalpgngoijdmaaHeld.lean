/- A reading over a part of the heap: a slice that reads as a list, owned. Program independent. -/
import Derived.Test.YtkalpgngoijdmaaApp
import Derived.Tactics
import Derived.Laws.Rows
namespace Go.Sl
open Go Go.RowKit

variable {w w' : World} {A B C : Asn} {L L' M : List Asn}

/-- A slice value reads as n elements, the cells xs, in the part h of a heap. -/
def held (size : Nat) (v : Value) (n : Nat) (xs : List Value) : Asn := fun h =>
  xs.length = n * size ∧ ((n = 0 ∧ ∃ a cap, v = .slice a 0 cap ∧ cap ≤ maxLen ∧ (a = none → cap = 0)) ∨
   ∃ b off cap cur t f, v = .slice (some ⟨b, off, none⟩) n cap ∧ n ≤ cap ∧ cap ≤ maxLen ∧ h b = some (.cells cur t f) ∧ ∀ i, i < xs.length → cur[off + i]? = xs[i]?)

def Mono (A : Asn) : Prop := ∀ h k, A h → Hl.le h k → A k
theorem held_mono {size : Nat} {v : Value} {n : Nat} {xs : List Value} : Mono (held size v n xs) := by
  rintro h k ⟨hl, a | ⟨b, off, cap, cur, t, f, hv, h1, h2, hb, hc⟩⟩ l
  · exact ⟨hl, .inl a⟩
  · exact ⟨hl, .inr ⟨b, off, cap, cur, t, f, hv, h1, h2, l _ _ hb, hc⟩⟩

theorem readsAs_of_held {size : Nat} {v : Value} {n : Nat} {xs : List Value} (h : held size v n xs (hl w)) : readsAs w size v n xs := by
  obtain ⟨hl, a | ⟨b, off, cap, cur, t, f, hv, h1, h2, hb, hc⟩⟩ := h
  · exact ⟨hl, .inl a⟩
  · exact ⟨hl, .inr ⟨b, off, cap, hv, h1, h2, fun i hi => by rw [cell_of_blk hb]; exact hc i hi⟩⟩
theorem Sep.heldReads {size : Nat} {v : Value} {n : Nat} {xs : List Value} (h : Sep w (held size v n xs :: L)) : readsAs w size v n xs := by
  obtain ⟨x, a, l⟩ := h.head
  exact readsAs_of_held (held_mono _ _ a l)

theorem Sep.join (f : ∀ h, A h → B h → C h) (mA : Mono A) (mB : Mono B) (h : Sep w (A :: B :: L)) : Sep w (C :: L) := by
  obtain ⟨x, y, a, ⟨x2, y2, b, s, d2, lx2, ly2⟩, d, lx, ly⟩ := h
  refine ⟨Hl.or x x2, y2, f _ (mA _ _ a (Hl.le_or_left _ _)) (mB _ _ b (Hl.le_or_right (Hl.dj_le d lx2))), s, ?_, Hl.or_le lx (Hl.le_trans lx2 ly), Hl.le_trans ly2 ly⟩
  exact Hl.dj_symm (Hl.dj_or (Hl.dj_symm (Hl.dj_le d ly2)) (Hl.dj_symm d2))

theorem Sep.add (h : Sep w L) (hA : A Hl.none) : Sep w (A :: L) := ⟨Hl.none, hl w, hA, h, Hl.dj_none _, Hl.none_le _, Hl.le_refl _⟩

/-- A literal: a block made just now, read as a slice. -/
theorem Sep.lit {b : Nat} {cur : Array Value} {t : TypeId} {f : Nat × Nat} {size n : Nat} (h : Sep w (pts b (.cells cur t f) :: L)) (hn : cur.size = n * size) (hm : n ≤ maxLen) :
    Sep w (held size (.slice (some ⟨b, 0, none⟩) n n) n cur.toList :: L) :=
  h.imp fun k hk => ⟨by simpa using hn, .inr ⟨b, 0, n, cur, t, f, rfl, Nat.le_refl _, hm, hk, fun i hi => by simp⟩⟩

theorem held_nil (size : Nat) : held size (.slice none 0 0) 0 [] Hl.none := ⟨by simp, .inl ⟨rfl, none, 0, rfl, Nat.zero_le _, fun _ => rfl⟩⟩

/-- An owned row, read only from now on. -/
theorem Sep.rowHeld {e : TypeId} {size : Nat} {v : Value} {n : Nat} {xs : List Value} (h : Sep w (row e size v n xs :: L)) : Sep w (Go.Sl.held size v n xs :: L) := by
  rcases h.rowCases with ⟨rfl, rfl, rfl, hL⟩ | ⟨g, cap, cur, rfl, h1, h2, h3, h4, h5, h6⟩
  · exact hL.add (held_nil size)
  · exact h6.imp fun k hk => ⟨h5, .inr ⟨g, 0, cap, cur, e, (0, 0), rfl, h1, h2, hk, fun i hi => by rw [Nat.zero_add]; exact take_getElem? h4 (by omega)⟩⟩

/-- What a world holds, read as a part that is there unchanged. -/
theorem Sep.readOld {w0 : World} (h : Sep w (old w0 :: L)) {size : Nat} {v : Value} {n : Nat} {xs : List Value} (hr : readsAs w0 size v n xs) : readsAs w size v n xs :=
  hr.of_heap h.oldGet

theorem readsAs_lt {size : Nat} {v : Value} {n : Nat} {xs : List Value} (h : readsAs w size v n xs) (hx : 0 < xs.length) : ∃ b off cap, v = .slice (some ⟨b, off, none⟩) n cap ∧ b < w.heap.size := by
  obtain ⟨hl, ⟨rfl, _⟩ | ⟨b, off, cap, hv, h1, h2, hc⟩⟩ := h
  · simp at hl; rw [hl] at hx; simp at hx
  · refine ⟨b, off, cap, hv, ?_⟩
    have := hc 0 hx
    rw [List.getElem?_eq_getElem hx] at this
    exact World.block_lt_of_cell? w ⟨b, off + 0, none⟩ this

theorem cell_alloc {a : Addr} {v : Value} (h : w.cell? a = some v) (o : Obj) : (w.alloc o).cell? a = some v :=
  (World.cell?_of_block (heap_alloc_lt w o a.block (World.block_lt_of_cell? w a h))).trans h

/-- A load of a whole struct, guarded or not. -/
theorem wpList_load_g {P : Program} {ops : Array Oper} {rest : List Oper} {o : Oper} {a : Act} {w : World} {Q : Exit → Act → World → Prop} (ty : TypeId) (x : Operand) (ho : o.op = .load ty x)
    (g : Nat) (hx : a.eval x = .pointer (some ⟨g, 0, none⟩)) (t : TypeId) (cs : Array Value) (fr : Nat × Nat) (d : TypeDesc) (hg : w.heap[g]? = some (.cells cs t fr))
    (hu : P.underlying ty = some d) (hd : (match d with | .struct _ | .array _ _ => true | _ => false) = true) (hi : (P.info? ty).map (·.size) = some cs.size)
    (hw : Region.wanted o (yielded ops a.tmps) = true) (h : wpList P ops Q rest (a.put o.dst (.agg cs)) w) : wpList P ops Q (o :: rest) a w :=
  wpList_step fun K hK => by
    rw [if_pos hw]
    exact wp_load_row ty x ho g hx t cs fr d hg hu hd hi (hK _ _ h)

end Go.Sl
