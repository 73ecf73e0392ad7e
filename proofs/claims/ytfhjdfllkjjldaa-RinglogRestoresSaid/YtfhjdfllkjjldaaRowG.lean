/- A row whose block may be longer than its capacity (a slice cut by a third index); append onto it. Program independent. -/
import Derived.Test.YtfhjdfllkjjldaaApp
namespace Go.Sl
open Go Go.RowKit

/-- As row, but the block may hold more cells than the capacity says. -/
def rowG (e : TypeId) (size : Nat) (v : Value) (n : Nat) (xs : List Value) : Asn := fun h =>
  xs.length = n * size ∧ ((v = .slice none 0 0 ∧ n = 0) ∨
   ∃ g cap cur, v = .slice (some ⟨g, 0, none⟩) n cap ∧ n ≤ cap ∧ cap ≤ maxLen ∧ cap * size ≤ cur.size ∧ cur.toList.take (n * size) = xs ∧ h g = some (.cells cur e (0, 0)))

section
variable {P : Program} {w : World} {L : List Asn} {e : TypeId} {size : Nat} {v : Value} {n : Nat} {xs : List Value}

theorem rowG_of_row (h : Hl) (k : row e size v n xs h) : rowG e size v n xs h := by
  obtain ⟨hl, a | ⟨g, cap, cur, hv, h1, h2, h3, h4, h5⟩⟩ := k
  · exact ⟨hl, .inl a⟩
  · exact ⟨hl, .inr ⟨g, cap, cur, hv, h1, h2, by omega, h4, h5⟩⟩
theorem Sep.rowG (h : Sep w (row e size v n xs :: L)) : Sep w (Go.Sl.rowG e size v n xs :: L) := h.imp rowG_of_row
theorem Sep.casesG (h : Sep w (Go.Sl.rowG e size v n xs :: L)) :
    (v = .slice none 0 0 ∧ n = 0 ∧ xs = [] ∧ Sep w L) ∨
    ∃ g cap cur, v = .slice (some ⟨g, 0, none⟩) n cap ∧ n ≤ cap ∧ cap ≤ maxLen ∧ cap * size ≤ cur.size ∧ cur.toList.take (n * size) = xs ∧ xs.length = n * size ∧ Sep w (pts g (.cells cur e (0, 0)) :: L) := by
  have hd := h.drop
  obtain ⟨x, y, ⟨hl, a⟩, s⟩ := h
  rcases a with ⟨hv, hn⟩ | ⟨g, cap, cur, hv, h1, h2, h3, h4, h5⟩
  · subst hn
    exact .inl ⟨hv, rfl, List.eq_nil_of_length_eq_zero (by simpa using hl), hd⟩
  · exact .inr ⟨g, cap, cur, hv, h1, h2, h3, h4, hl, x, y, h5, s⟩
theorem Sep.toRowG {g cap : Nat} {cur : Array Value} (h : Sep w (pts g (.cells cur e (0, 0)) :: L)) (h1 : n ≤ cap) (h2 : cap ≤ maxLen) (h3 : cap * size ≤ cur.size) (h4 : cur.toList.take (n * size) = xs) :
    Sep w (Go.Sl.rowG e size (.slice (some ⟨g, 0, none⟩) n cap) n xs :: L) := by
  refine h.imp fun k hk => ⟨?_, .inr ⟨g, cap, cur, rfl, h1, h2, h3, h4, hk⟩⟩
  rw [← h4, List.length_take, Array.length_toList]
  exact Nat.min_eq_left (Nat.le_trans (Nat.mul_le_mul_right _ h1) h3)
theorem Sep.shapeG (h : Sep w (Go.Sl.rowG e size v n xs :: L)) : ∃ a cap, v = .slice a n cap ∧ n ≤ cap ∧ cap ≤ maxLen ∧ (a = none → n = 0 ∧ cap = 0) := by
  rcases h.casesG with ⟨hv, hn, _⟩ | ⟨g, cap, cur, hv, h1, h2, _⟩
  · subst hn; exact ⟨none, 0, hv, Nat.le_refl _, Nat.zero_le _, fun _ => ⟨rfl, rfl⟩⟩
  · exact ⟨_, cap, hv, h1, h2, fun e => by cases e⟩
theorem Sep.readsG (h : Sep w (Go.Sl.rowG e size v n xs :: L)) : readsAs w size v n xs := by
  rcases h.casesG with ⟨hv, hn, hx, _⟩ | ⟨g, cap, cur, hv, h1, h2, h3, h4, h5, h6⟩
  · subst hn hx; exact ⟨by simp, .inl ⟨rfl, none, 0, hv, Nat.zero_le _, fun _ => rfl⟩⟩
  · refine ⟨h5, .inr ⟨g, 0, cap, hv, h1, h2, fun i hi => ?_⟩⟩
    rw [Nat.zero_add, cell_of_blk h6.get, take_getElem? h4 (by omega)]
/-- x = x[:k:k] -/
theorem Sep.cutG {b : Option Addr} {cap k : Nat} (h : Sep w (Go.Sl.rowG e size (.slice b n cap) n xs :: L)) (hk : k ≤ n) (h0 : 0 < k) : Sep w (Go.Sl.rowG e size (.slice b k k) k (xs.take (k * size)) :: L) := by
  rcases h.casesG with ⟨hv, hn, rfl, hL⟩ | ⟨g, cap', cur, hv, h1, h2, h3, h4, h5, h6⟩
  · omega
  · obtain ⟨rfl, rfl⟩ : b = some ⟨g, 0, none⟩ ∧ cap = cap' := by simpa using hv
    refine h6.toRowG (Nat.le_refl _) (by omega) (Nat.le_trans (Nat.mul_le_mul_right _ (by omega)) h3) ?_
    rw [← h4, List.take_take, Nat.min_eq_left (Nat.mul_le_mul_right _ hk)]

/-- append onto such a row. -/
theorem run_append_G (t tx ty e : TypeId) (i : TypeInfo) (z : Value) (size bytes : Nat) (ht : P.underlying t = some (.slice e)) (hi : P.info? e = some i) (hz : i.zero = some z)
    (hsize : i.size = size) (hby : i.bytes = bytes) (hzs : z.cells.size = size)
    (v : Value) (n : Nat) (xs : List Value) (hS : Sep w (Go.Sl.rowG e size v n xs :: L)) (x : Value) (m : Nat) (news : List Value) (hx : Src P size tx x m news w) (hm0 : 0 < m)
    (h63 : n + m ≤ maxLen) (hbytes : (n + m) * bytes ≤ 140737488355328) :
    ∃ v' w', (Builtin.append_ #[t, tx] ty #[v, x]).run P w = .ok v' w' ∧ Sep w' (Go.Sl.rowG e size v' (n + m) (xs ++ news) :: L) ∧ Stable w w' := by
  subst hsize
  subst hby
  have hsmall : n + m ≤ 9223372036854775807 := by simp only [maxLen] at h63; omega
  have hlen0 : xs.length = n * i.size := by
    rcases hS.casesG with ⟨_, rfl, rfl, _⟩ | ⟨_, _, _, _, _, _, _, _, h5, _⟩
    · simp
    · exact h5
  have hlen : (xs ++ news).length = (n + m) * i.size := by rw [List.length_append, hlen0, hx.newsLen, Nat.add_mul]
  have grown : ∀ (old : Nat), old < n + m → Sep w L → Sep (w.drew.alloc (.cells ((xs ++ news).toArray ++ Builtin.zeroCells z.cells (grownCap w (n + m) old e - (n + m))) e))
      (Go.Sl.rowG e i.size (.slice (some ⟨w.heap.size, 0, none⟩) (n + m) (grownCap w (n + m) old e)) (n + m) (xs ++ news) :: L) := by
    intro old ho hL
    have hge := grownCap_ge w (n + m) old e
    have h1 : Sep (w.drew.alloc (.cells ((xs ++ news).toArray ++ Builtin.zeroCells z.cells (grownCap w (n + m) old e - (n + m))) e))
        (pts w.heap.size (.cells ((xs ++ news).toArray ++ Builtin.zeroCells z.cells (grownCap w (n + m) old e - (n + m))) e) :: L) := hL.drew.alloc _
    refine h1.toRowG hge (grownCap_le_maxLen w (n + m) old e h63) ?_ ?_
    · simp only [Array.size_append, List.size_toArray, size_zeroCells, hzs, hlen, ← Nat.add_mul]
      exact Nat.mul_le_mul_right _ (by omega)
    · simp only [Array.toList_append]
      rw [← hlen]
      exact List.take_left
  have gstab : ∀ (old : Nat), Stable w (w.drew.alloc (.cells ((xs ++ news).toArray ++ Builtin.zeroCells z.cells (grownCap w (n + m) old e - (n + m))) e)) := fun old => (Stable.refl w).drew.alloc _
  rcases hS.casesG with ⟨rfl, rfl, rfl, hL⟩ | ⟨g, cap, cur, rfl, hnc, hcm, hcs, htake, hxl, hS'⟩
  · have hr := run_append_grow_src (P := P) w t tx ty e i z ht hi hz none 0 0 [] (run_firstCells_none w.drew i.size 0 0 0) x m news hx (by omega) (by omega) (growslice_fits (by omega) hbytes)
    have hgr := grown 0 (by omega) hL
    have hst := gstab 0
    simp only [Nat.zero_add, List.nil_append] at hgr hst hr ⊢
    exact ⟨_, _, hr, hgr, hst⟩
  · by_cases hroom : n + m ≤ cap
    · have hfit : n * i.size + news.length ≤ cur.size := by rw [hx.newsLen, ← Nat.add_mul]; exact Nat.le_trans (Nat.mul_le_mul_right _ hroom) hcs
      have hr := run_append_room_at (P := P) w t tx ty e i ht hi g n cap cur hS'.get x m news hx hroom hfit
      refine ⟨_, _, hr, ?_, ⟨rfl, rfl, rfl, by simp [World.setRow]⟩⟩
      refine (hS'.put (o' := .cells (cur.toList.take (n * i.size) ++ news ++ cur.toList.drop (n * i.size + news.length)).toArray e (0, 0)) (setRow_heap w g cur _ e _ hS'.get) (fun k _ hk => setRow_other w g k _ hk)).toRowG hroom hcm ?_ ?_
      · simp only [List.size_toArray, List.length_append, List.length_take, List.length_drop, Array.length_toList]
        omega
      · rw [htake, ← hlen]
        exact List.take_left
    · have holds : (Builtin.firstCells i.size n (.slice (some ⟨g, 0, none⟩) n cap)).run P w.drew = .ok xs.toArray w.drew :=
        run_firstCells_some w.drew i.size n ⟨g, 0, none⟩ n cap xs hxl (fun j u hu => by
          have hj : j < xs.length := (List.getElem?_eq_some_iff.1 hu).1
          rw [Addr.add_lit, Nat.zero_add]
          show w.cell? ⟨g, j, none⟩ = some u
          rw [cell_of_blk hS'.get, take_getElem? htake (by omega)]; exact hu)
      have hr := run_append_grow_src (P := P) w t tx ty e i z ht hi hz (some ⟨g, 0, none⟩) n cap xs holds x m news hx (by omega) (by omega) (growslice_fits (by omega) hbytes)
      exact ⟨_, _, hr, grown cap (by omega) hS'.drop, gstab cap⟩

theorem wpList_append_G {ops : Array Oper} {rest : List Oper} {o : Oper} {a : Act} {Q : Exit → Act → World → Prop} (hgd : o.guard = none) (s x : Operand) (t tx : TypeId)
    (ho : o.op = .call { callee := .builtin .append, args := #[s, x], argTypes := #[t, tx] })
    (e : TypeId) (i : TypeInfo) (z : Value) (size bytes : Nat) (ht : P.underlying t = some (.slice e)) (hi : P.info? e = some i) (hz : i.zero = some z)
    (hsize : i.size = size) (hby : i.bytes = bytes) (hzs : z.cells.size = size)
    (v : Value) (n : Nat) (xs : List Value) (hs : a.eval s = v) (hS : Sep w (Go.Sl.rowG e size v n xs :: L)) (m : Nat) (news : List Value) (hx : Src P size tx (a.eval x) m news w) (hm0 : 0 < m)
    (h63 : n + m ≤ maxLen) (hbytes : (n + m) * bytes ≤ 140737488355328)
    (h : ∀ v' w', Sep w' (Go.Sl.rowG e size v' (n + m) (xs ++ news) :: L) → Stable w w' → wpList P ops Q rest (a.put o.dst v') w') : wpList P ops Q (o :: rest) a w :=
  wpList_plain hgd fun _ hK => by
    obtain ⟨v', w', hr, h2, h3⟩ := run_append_G (P := P) t tx o.type e i z size bytes ht hi hz hsize hby hzs v n xs hS (a.eval x) m news hx hm0 h63 hbytes
    unfold Oper.wp execOp
    simp only [ho, resolve, invoke, builtin, Sem.run_bind, Sem.run_pure, Result.andThen_ok, List.map_toArray, List.map_cons, List.map_nil, hs, hr]
    exact hK _ _ (h v' w' h2 h3)
theorem step_append_G {ops : Array Oper} {o : Oper} {a : Act} {K : Act → World → Prop} {Q : Exit → Act → World → Prop} {E : Prop} (hgd : o.guard = none) (s x : Operand) (t tx : TypeId)
    (ho : o.op = .call { callee := .builtin .append, args := #[s, x], argTypes := #[t, tx] })
    (e : TypeId) (i : TypeInfo) (z : Value) (size bytes : Nat) (ht : P.underlying t = some (.slice e)) (hi : P.info? e = some i) (hz : i.zero = some z)
    (hsize : i.size = size) (hby : i.bytes = bytes) (hzs : z.cells.size = size)
    (v : Value) (n : Nat) (xs : List Value) (hs : a.eval s = v) (hS : Sep w (Go.Sl.rowG e size v n xs :: L)) (m : Nat) (news : List Value) (hx : Src P size tx (a.eval x) m news w) (hm0 : 0 < m)
    (h63 : n + m ≤ maxLen) (hbytes : (n + m) * bytes ≤ 140737488355328)
    (h : ∀ v' w', Sep w' (Go.Sl.rowG e size v' (n + m) (xs ++ news) :: L) → Stable w w' → K (a.put o.dst v') w') :
    if Region.wanted o (yielded ops a.tmps) = true then o.wp P a w K Q else E := by
  rw [if_pos (by simp [Region.wanted, hgd])]
  obtain ⟨v', w', hr, h2, h3⟩ := run_append_G (P := P) t tx o.type e i z size bytes ht hi hz hsize hby hzs v n xs hS (a.eval x) m news hx hm0 h63 hbytes
  unfold Oper.wp execOp
  simp only [ho, resolve, invoke, builtin, Sem.run_bind, Sem.run_pure, Result.andThen_ok, List.map_toArray, List.map_cons, List.map_nil, hs, hr]
  exact h v' w' h2 h3

end
end Go.Sl
