/- More laws: a struct loaded from the middle of a block, a number stored into an owned row. -/
import Derived.Test.YtkalpgngoijdmaaBase
import Derived.Test.YtkalpgngoijdmaaHeld
import Derived.Laws.Tables
namespace Go.Sl
open Go Go.RowKit

section
variable {P : Program}
theorem run_loadVar_at (w : World) (g k : Nat) (ty : TypeId) (cs : Array Value) (d : TypeDesc) (hc : ∀ j v, cs.toList[j]? = some v → w.cell? ⟨g, k + j, none⟩ = some v)
    (hu : P.underlying ty = some d) (hd : (match d with | .struct _ | .array _ _ => true | _ => false) = true) (hi : (P.info? ty).map (·.size) = some cs.size) :
    (loadVar ty ⟨g, k, none⟩).run P w = .ok (.agg cs) w := by
  have hl : (loadCells ⟨g, k, none⟩ cs.toList.length).run P w = .ok cs.toList.toArray w :=
    run_loadCells_list (P := P) w ⟨g, k, none⟩ cs.toList (fun j v hv => by rw [Addr.add_lit]; exact hc j v hv)
  cases hq : P.info? ty with
  | none => simp [hq] at hi
  | some i =>
    have hs : i.size = cs.size := by simpa [hq] using hi
    have hagg : (isAgg ty).run P w = .ok true w := by
      unfold isAgg
      rw [Sem.run_bind, run_underlying hu w]
      cases d <;> simp_all
    simp only [Array.length_toList, Array.toArray_toList] at hl
    simp [loadVar, Sem.run_bind, hagg, sizeOf, typeInfo, hq, hs, hl]

theorem wp_load_at {o : Oper} {a : Act} {w : World} {K : Act → World → Prop} {Q : Exit → Act → World → Prop} (ty : TypeId) (x : Operand) (ho : o.op = .load ty x)
    (g k : Nat) (hx : a.eval x = .pointer (some ⟨g, k, none⟩)) (cs : Array Value) (d : TypeDesc) (hc : ∀ j v, cs.toList[j]? = some v → w.cell? ⟨g, k + j, none⟩ = some v)
    (hu : P.underlying ty = some d) (hd : (match d with | .struct _ | .array _ _ => true | _ => false) = true) (hi : (P.info? ty).map (·.size) = some cs.size)
    (h : K (a.put o.dst (.agg cs)) w) : o.wp P a w K Q := by
  unfold Oper.wp execOp
  simp only [ho, hx, Instr.loadAt, Instr.sureAddr, Sem.run_bind, Sem.run_pure, Result.andThen_ok, run_loadVar_at w g k ty cs d hc hu hd hi]
  exact h

theorem wpList_load_at {ops : Array Oper} {rest : List Oper} {o : Oper} {a : Act} {w : World} {Q : Exit → Act → World → Prop} (ty : TypeId) (x : Operand) (ho : o.op = .load ty x)
    (g k : Nat) (hx : a.eval x = .pointer (some ⟨g, k, none⟩)) (cs : Array Value) (d : TypeDesc) (hc : ∀ j v, cs.toList[j]? = some v → w.cell? ⟨g, k + j, none⟩ = some v)
    (hu : P.underlying ty = some d) (hd : (match d with | .struct _ | .array _ _ => true | _ => false) = true) (hi : (P.info? ty).map (·.size) = some cs.size)
    (hw : Region.wanted o (yielded ops a.tmps) = true) (h : wpList P ops Q rest (a.put o.dst (.agg cs)) w) : wpList P ops Q (o :: rest) a w :=
  wpList_step fun K hK => by
    rw [if_pos hw]
    exact wp_load_at ty x ho g k hx cs d hc hu hd hi (hK _ _ h)

/-- A whole struct stored into a block of its own. -/
theorem wpList_store_sep {L : List Asn} {ops : Array Oper} {rest : List Oper} {o : Oper} {a : Act} {w : World} {Q : Exit → Act → World → Prop} (hgd : o.guard = none) (ty : TypeId) (x y : Operand) (ho : o.op = .store ty x y)
    (g : Nat) (cells : Array Value) (hx : a.eval x = .pointer (some ⟨g, 0, none⟩)) (hy : a.eval y = .agg cells) {t : TypeId} {old : Array Value} (hS : Sep w (pts g (.cells old t (0, 0)) :: L))
    (hi : (P.info? ty).map (·.size) = some cells.size) (hold : old.size = cells.size) (h1 : cells.all (·.oneCell') = true)
    (h : ∀ w', Sep w' (pts g (.cells cells t (0, 0)) :: L) → Stable w w' → wpList P ops Q rest (a.put o.dst undef) w') : wpList P ops Q (o :: rest) a w :=
  wpList_store_row hgd ty x y ho g cells hx hy t old hS.get hi hold h1 (h _ (hS.put (setRow_heap w g old cells t _ hS.get) (fun k _ hk => setRow_other w g k _ hk)) ⟨rfl, rfl, rfl, by simp [World.setRow]⟩)

theorem run_storeVar_cell {L : List Asn} {w : World} (ty : TypeId) {b : Nat} {cs : Array Value} {t : TypeId} (hS : Sep w (pts b (.cells cs t (0, 0)) :: L)) (i : Nat) (v : Value) (h1 : v.oneCell' = true) (hi : i < cs.size) (hty : (P.info? ty).map (·.size) = some 1) :
    (storeVar ty ⟨b, i, none⟩ v).run P w = .ok () (w.setCell ⟨b, i, none⟩ v) := by
  have hf := frozen_of_blk hS.get i
  have hci : w.cell? ⟨b, i, none⟩ = some cs[i] := by rw [cell_of_blk hS.get i]; simp [hi]
  have hs : (store ⟨b, i, none⟩ v).run P w = .ok () (w.setCell ⟨b, i, none⟩ v) := by
    rw [run_store P w ⟨b, i, none⟩ v _ h1, hci]
    simp [hf]
  have hc : v.cells = #[v] := by cases v <;> first | rfl | cases h1
  cases hq : P.info? ty with
  | none => simp [hq] at hty
  | some i' =>
    have hs2 : i'.size = 1 := by simpa [hq] using hty
    have hadd : (⟨b, i, none⟩ : Addr).add 0 = ⟨b, i, none⟩ := by rw [Addr.add_lit]; rfl
    simp [storeVar, sizeOf, typeInfo, hq, hc, hs2, storeCells, hadd, hs]

/-- One cell of a block stored. -/
theorem wpList_store_cell {L : List Asn} {ops : Array Oper} {rest : List Oper} {o : Oper} {a : Act} {w : World} {Q : Exit → Act → World → Prop} (hgd : o.guard = none) (ty : TypeId) (x y : Operand) (ho : o.op = .store ty x y)
    {b : Nat} {cs : Array Value} {t : TypeId} (hS : Sep w (pts b (.cells cs t (0, 0)) :: L)) (i : Nat) (v : Value) (hx : a.eval x = .pointer (some ⟨b, i, none⟩)) (hy : a.eval y = v) (h1 : v.oneCell' = true) (hi : i < cs.size) (hty : (P.info? ty).map (·.size) = some 1)
    (h : ∀ w', Sep w' (pts b (.cells (cs.setIfInBounds i v) t (0, 0)) :: L) → Stable w w' → wpList P ops Q rest (a.put o.dst undef) w') : wpList P ops Q (o :: rest) a w :=
  wpList_plain hgd fun _ hK => by
    unfold Oper.wp execOp
    simp only [ho, hx, hy, Instr.storeAt, Instr.sureAddr, Sem.run_bind, Sem.run_pure, Result.andThen_ok, run_storeVar_cell ty hS i v h1 hi hty]
    exact hK _ _ (h _ (hS.setCell i v) ((Stable.refl w).setCell _ _))

/-- A struct result that lies in a block of its own. -/
theorem bodyPost_cell {w : World} {fn : Func} {p : Tmp} {ty : TypeId} {L : List Asn} {tmps : Array Value} {g : Nat} {t : TypeId} {cs : Array Value} {fr : Nat × Nat} {d : TypeDesc} (h : fn.results = #[.cell p ty])
    (hp : tmps.getD p undef = .pointer (some ⟨g, 0, none⟩)) (hS : Sep w (pts g (.cells cs t fr) :: L)) (hu : P.underlying ty = some d) (hd : (match d with | .struct _ | .array _ _ => true | _ => false) = true) (hi : (P.info? ty).map (·.size) = some cs.size) :
    (results fn tmps).run P w = .ok (.agg cs) w :=
  results_cell_row h tmps w g t cs fr d hp hS.get hu hd hi
end

theorem Sep.rowBase {w : World} {L : List Asn} {a : Option Addr} {n n' cap size : Nat} {e : TypeId} {xs : List Value} (h : Sep w (row e size (.slice a n' cap) n xs :: L)) : a = none ∨ ∃ g, a = some ⟨g, 0, none⟩ := by
  rcases h.rowCases with ⟨hv, _⟩ | ⟨g', cap', cur, hv, _⟩
  · simp at hv; exact .inl hv.1
  · simp at hv; exact .inr ⟨g', hv.1⟩
theorem Sep.ne_row {w : World} {L : List Asn} {b g n n' cap size : Nat} {o : Obj} {e : TypeId} {xs : List Value} (h : Sep w (pts b o :: row e size (.slice (some ⟨g, 0, none⟩) n' cap) n xs :: L)) : b ≠ g := by
  rcases (h.pick 1).rowCases with ⟨hv, _⟩ | ⟨g', cap', cur, hv, _, _, _, _, _, h6⟩
  · cases hv
  · obtain ⟨⟨rfl, _⟩, _⟩ : (g = g' ∧ True) ∧ True := by simp at hv; exact ⟨⟨hv.1, trivial⟩, trivial⟩
    exact (h6.ne).symm

end Go.Sl
namespace Go.Proofs.Ytkalpgngoijdmaa
open Go.RowKit Go.Sl

variable {w : World} {L : List Asn}

/-- A number stored into an owned row. -/
theorem rowI_set {g n cap : Nat} {l : List Int} (h : Sep w (rowI (.slice (some ⟨g, 0, none⟩) n cap) l :: L)) (i : Nat) (x : Int) (hi : i < l.length) :
    Sep (w.setCell ⟨g, i, none⟩ (i64 x)) (rowI (.slice (some ⟨g, 0, none⟩) n cap) (l.set i x) :: L) := by
  obtain ⟨g', cap', hv, _, _, _, _, _, hset⟩ := h.rowAt (by omega)
  obtain rfl : g = g' := by have := congrArg (fun v => match v with | Value.slice (some a) _ _ => a.block | _ => 0) hv; simpa using this
  have := hset i (i64 x) (by rw [ints_length]; exact hi)
  rw [ints_set] at this
  show Sep _ (row 3 1 _ (l.set i x).length (ints (l.set i x)) :: L)
  rw [List.length_set]
  exact this
theorem wpList_store_rowI {P : Program} {ops : Array Oper} {rest : List Oper} {o : Oper} {a : Act} {Q : Exit → Act → World → Prop} (hgd : o.guard = none) (ty : TypeId) (x y : Operand) (ho : o.op = .store ty x y)
    {g n cap : Nat} {l : List Int} (hS : Sep w (rowI (.slice (some ⟨g, 0, none⟩) n cap) l :: L)) (i : Nat) (v : Int) (hx : a.eval x = .pointer (some ⟨g, i, none⟩)) (hy : a.eval y = i64 v) (hi : i < l.length) (hty : (P.info? ty).map (·.size) = some 1)
    (h : ∀ w', Sep w' (rowI (.slice (some ⟨g, 0, none⟩) n cap) (l.set i v) :: L) → Stable w w' → wpList P ops Q rest (a.put o.dst undef) w') : wpList P ops Q (o :: rest) a w :=
  wpList_plain hgd fun _ hK => by
    obtain ⟨g', cap', hv, _, _, hc, hf, _, _⟩ := hS.rowAt (by omega)
    obtain rfl : g = g' := by have := congrArg (fun v => match v with | Value.slice (some a) _ _ => a.block | _ => 0) hv; simpa using this
    have hci := (hc i (by rw [ints_length]; exact hi)).trans (ints_get l i hi)
    have hst : (storeVar ty ⟨g, i, none⟩ (i64 v)).run P w = .ok () (w.setCell ⟨g, i, none⟩ (i64 v)) := by
      have hs : (store ⟨g, i, none⟩ (i64 v)).run P w = .ok () (w.setCell ⟨g, i, none⟩ (i64 v)) := by
        rw [run_store P w ⟨g, i, none⟩ (i64 v) _ rfl, hci]
        simp [hf]
      cases hq : P.info? ty with
      | none => simp [hq] at hty
      | some i' =>
        have hs2 : i'.size = 1 := by simpa [hq] using hty
        have hadd : (⟨g, i, none⟩ : Addr).add 0 = ⟨g, i, none⟩ := by rw [Addr.add_lit]; rfl
        simp [storeVar, sizeOf, typeInfo, hq, Value.cells, hs2, storeCells, hadd, hs]
    unfold Oper.wp execOp
    simp only [ho, hx, hy, Instr.storeAt, Instr.sureAddr, Sem.run_bind, Sem.run_pure, Result.andThen_ok, hst]
    exact hK _ _ (h _ (rowI_set hS i v hi) ((Stable.refl w).setCell _ _))
theorem rowI_at {v : Value} {l : List Int} (h : Sep w (rowI v l :: L)) (hl : 0 < l.length) : ∃ g cap, v = .slice (some ⟨g, 0, none⟩) l.length cap ∧ l.length ≤ cap ∧ cap ≤ maxLen ∧
    (∀ i, i < l.length → w.cell? ⟨g, i, none⟩ = some (i64 (l.getD i 0))) ∧ (∀ i, w.frozen? ⟨g, i, none⟩ = false) ∧ g < w.heap.size := by
  obtain ⟨g, cap, hv, h1, h2, h3, h4, h5, _⟩ := h.rowAt hl
  exact ⟨g, cap, hv, h1, h2, fun i hi => (h3 i (by rw [ints_length]; exact hi)).trans (ints_get l i hi), h4, h5⟩

end Go.Proofs.Ytkalpgngoijdmaa
