/- append and make, said of owned rows in the separation logic. Program independent. -/
import Derived.Test.YtkalpgngoijdmaaSep
import Derived.OwnWalk
namespace Go.Sl
open Go Go.RowKit

section
variable {P : Program} {w : World} {L : List Asn}

theorem run_append_room_at (w : World) (t tx ty e : TypeId) (i : TypeInfo) (ht : P.underlying t = some (.slice e)) (hi : P.info? e = some i) (g sLen sCap : Nat) (cur : Array Value) (hg : w.heap[g]? = some (.cells cur e (0, 0)))
    (x : Value) (n : Nat) (news : List Value) (hs : Src P i.size tx x n news w) (hroom : sLen + n ≤ sCap) (hfit : sLen * i.size + news.length ≤ cur.size) :
    (Builtin.append_ #[t, tx] ty #[.slice (some ⟨g, 0, none⟩) sLen sCap, x]).run P w =
      .ok (.slice (some ⟨g, 0, none⟩) (sLen + n) sCap) (w.setRow g (cur.toList.take (sLen * i.size) ++ news ++ cur.toList.drop (sLen * i.size + news.length)).toArray) := by
  have hst := run_storeCells_at P g (sLen * i.size) e news 0 cur w hg (by simpa using hfit) hs.one
  simp only [Nat.add_zero] at hst
  rcases hs.kind with ⟨e', hk⟩ | hk <;> simp [Builtin.append_, run_underlying ht, run_underlying hk, sizeOf, typeInfo, hi, hs.len, hroom, hs.cells, Addr.add_lit, hst]

theorem run_append_none (w : World) (t tx ty e : TypeId) (i : TypeInfo) (ht : P.underlying t = some (.slice e)) (hi : P.info? e = some i)
    (x : Value) (hs : Src P i.size tx x 0 [] w) : (Builtin.append_ #[t, tx] ty #[.slice none 0 0, x]).run P w = .ok (.slice none 0 0) w := by
  rcases hs.kind with ⟨e', hk⟩ | hk <;> simp [Builtin.append_, run_underlying ht, run_underlying hk, sizeOf, typeInfo, hi, hs.len, hs.cells]

/-- append onto an owned row: whatever the source; it may grow. -/
theorem run_append_sep (t tx ty e : TypeId) (i : TypeInfo) (z : Value) (size bytes : Nat) (ht : P.underlying t = some (.slice e)) (hi : P.info? e = some i) (hz : i.zero = some z)
    (hsize : i.size = size) (hby : i.bytes = bytes) (hzs : z.cells.size = size)
    (v : Value) (n : Nat) (xs : List Value) (hS : Sep w (row e size v n xs :: L)) (x : Value) (m : Nat) (news : List Value) (hx : Src P size tx x m news w)
    (h63 : n + m ≤ maxLen) (hbytes : (n + m) * bytes ≤ 140737488355328) :
    ∃ v' w', (Builtin.append_ #[t, tx] ty #[v, x]).run P w = .ok v' w' ∧ Sep w' (row e size v' (n + m) (xs ++ news) :: L) ∧ Stable w w' ∧
      (v' = .slice none 0 0 ↔ v = .slice none 0 0 ∧ m = 0) ∧ (∀ k, k < w.heap.size → v.ownBlock ≠ some k → w'.heap[k]? = w.heap[k]?) := by
  subst hsize
  subst hby
  have hsmall : n + m ≤ 9223372036854775807 := by simp only [maxLen] at h63; omega
  have hxl := hS.rowLen
  have hlen : (xs ++ news).length = (n + m) * i.size := by rw [List.length_append, hxl, hx.newsLen, Nat.add_mul]
  have grown : ∀ (old : Nat), old < n + m → Sep (w.drew.alloc (.cells ((xs ++ news).toArray ++ Builtin.zeroCells z.cells (grownCap w (n + m) old e - (n + m))) e))
      (row e i.size (.slice (some ⟨w.heap.size, 0, none⟩) (n + m) (grownCap w (n + m) old e)) (n + m) (xs ++ news) :: L) := by
    intro old ho
    have hge := grownCap_ge w (n + m) old e
    have h1 : Sep (w.drew.alloc (.cells ((xs ++ news).toArray ++ Builtin.zeroCells z.cells (grownCap w (n + m) old e - (n + m))) e))
        (pts w.heap.size (.cells ((xs ++ news).toArray ++ Builtin.zeroCells z.cells (grownCap w (n + m) old e - (n + m))) e) :: L) := hS.drop.drew.alloc _
    refine h1.toRow hge (grownCap_le_maxLen w (n + m) old e h63) ?_ ?_
    · simp only [Array.size_append, List.size_toArray, size_zeroCells, hzs, hlen, ← Nat.add_mul]
      congr 1
      omega
    · simp only [Array.toList_append]
      rw [← hlen]
      exact List.take_left
  have gstab : ∀ (old : Nat), Stable w (w.drew.alloc (.cells ((xs ++ news).toArray ++ Builtin.zeroCells z.cells (grownCap w (n + m) old e - (n + m))) e)) := fun old => (Stable.refl w).drew.alloc _
  rcases hS.rowCases with ⟨rfl, rfl, rfl, hL⟩ | ⟨g, cap, cur, rfl, hnc, hcm, hcs, htake, _, hS'⟩
  · by_cases hm : m = 0
    · subst hm
      have hn : news = [] := List.eq_nil_of_length_eq_zero (by simpa using hx.newsLen)
      subst hn
      exact ⟨_, w, run_append_none w t tx ty e i ht hi x hx, hL.addNil e i.size, Stable.refl w, by simp, fun _ _ _ => rfl⟩
    · have hr := run_append_grow_src (P := P) w t tx ty e i z ht hi hz none 0 0 [] (run_firstCells_none w.drew i.size 0 0 0) x m news hx (by omega) (by omega) (growslice_fits (by omega) hbytes)
      have hgr := grown 0 (by omega)
      have hst := gstab 0
      simp only [Nat.zero_add, List.nil_append] at hgr hst hr ⊢
      exact ⟨_, _, hr, hgr, hst, by simp [hm], fun k hk _ => heap_alloc_lt w.drew _ k hk⟩
  · by_cases hroom : n + m ≤ cap
    · have hfit : n * i.size + news.length ≤ cur.size := by rw [hx.newsLen, hcs, ← Nat.add_mul]; exact Nat.mul_le_mul_right _ hroom
      have hr := run_append_room_at (P := P) w t tx ty e i ht hi g n cap cur hS'.get x m news hx hroom hfit
      refine ⟨_, _, hr, ?_, ⟨rfl, rfl, rfl, by simp [World.setRow]⟩, by simp, fun k _ hk => setRow_other w g k _ (fun e => hk (by simp [Value.ownBlock, e]))⟩
      refine (hS'.put (o' := .cells (cur.toList.take (n * i.size) ++ news ++ cur.toList.drop (n * i.size + news.length)).toArray e (0, 0)) (setRow_heap w g cur _ e _ hS'.get) (fun k _ hk => setRow_other w g k _ hk)).toRow hroom hcm ?_ ?_
      · simp only [List.size_toArray, List.length_append, List.length_take, List.length_drop, Array.length_toList]
        omega
      · rw [htake, ← hlen]
        exact List.take_left
    · have holds : (Builtin.firstCells i.size n (.slice (some ⟨g, 0, none⟩) n cap)).run P w.drew = .ok xs.toArray w.drew :=
        run_firstCells_some w.drew i.size n ⟨g, 0, none⟩ n cap xs hxl (by simpa using hS.owns.cells (g := g) rfl)
      have hr := run_append_grow_src (P := P) w t tx ty e i z ht hi hz (some ⟨g, 0, none⟩) n cap xs holds x m news hx (by omega) (by omega) (growslice_fits (by omega) hbytes)
      exact ⟨_, _, hr, grown cap (by omega), gstab cap, by simp, fun k hk _ => heap_alloc_lt w.drew _ k hk⟩

theorem wp_append_sep {o : Oper} {a : Act} {K : Act → World → Prop} {Q : Exit → Act → World → Prop} (s x : Operand) (t tx : TypeId)
    (ho : o.op = .call { callee := .builtin .append, args := #[s, x], argTypes := #[t, tx] })
    (e : TypeId) (i : TypeInfo) (z : Value) (size bytes : Nat) (ht : P.underlying t = some (.slice e)) (hi : P.info? e = some i) (hz : i.zero = some z)
    (hsize : i.size = size) (hby : i.bytes = bytes) (hzs : z.cells.size = size)
    (v : Value) (n : Nat) (xs : List Value) (hs : a.eval s = v) (hS : Sep w (row e size v n xs :: L)) (m : Nat) (news : List Value) (hx : Src P size tx (a.eval x) m news w)
    (h63 : n + m ≤ maxLen) (hbytes : (n + m) * bytes ≤ 140737488355328)
    (h : ∀ v' w', Sep w' (row e size v' (n + m) (xs ++ news) :: L) → Stable w w' → (v' = .slice none 0 0 ↔ v = .slice none 0 0 ∧ m = 0) → K (a.put o.dst v') w') : o.wp P a w K Q := by
  obtain ⟨v', w', hr, h2, h3, h4, _⟩ := run_append_sep (P := P) t tx o.type e i z size bytes ht hi hz hsize hby hzs v n xs hS (a.eval x) m news hx h63 hbytes
  unfold Oper.wp execOp
  simp only [ho, resolve, invoke, builtin, Sem.run_bind, Sem.run_pure, Result.andThen_ok, List.map_toArray, List.map_cons, List.map_nil, hs, hr]
  exact h v' w' h2 h3 h4

theorem wpList_append_sep {ops : Array Oper} {rest : List Oper} {o : Oper} {a : Act} {Q : Exit → Act → World → Prop} (hgd : o.guard = none) (s x : Operand) (t tx : TypeId)
    (ho : o.op = .call { callee := .builtin .append, args := #[s, x], argTypes := #[t, tx] })
    (e : TypeId) (i : TypeInfo) (z : Value) (size bytes : Nat) (ht : P.underlying t = some (.slice e)) (hi : P.info? e = some i) (hz : i.zero = some z)
    (hsize : i.size = size) (hby : i.bytes = bytes) (hzs : z.cells.size = size)
    (v : Value) (n : Nat) (xs : List Value) (hs : a.eval s = v) (hS : Sep w (row e size v n xs :: L)) (m : Nat) (news : List Value) (hx : Src P size tx (a.eval x) m news w)
    (h63 : n + m ≤ maxLen) (hbytes : (n + m) * bytes ≤ 140737488355328)
    (h : ∀ v' w', Sep w' (row e size v' (n + m) (xs ++ news) :: L) → Stable w w' → (v' = .slice none 0 0 ↔ v = .slice none 0 0 ∧ m = 0) → wpList P ops Q rest (a.put o.dst v') w') : wpList P ops Q (o :: rest) a w :=
  wpList_plain hgd fun _ hK => wp_append_sep s x t tx ho e i z size bytes ht hi hz hsize hby hzs v n xs hs hS m news hx h63 hbytes fun v' w' h2 h3 h4 => hK _ _ (h v' w' h2 h3 h4)

theorem step_append_sep {ops : Array Oper} {o : Oper} {a : Act} {K : Act → World → Prop} {Q : Exit → Act → World → Prop} {E : Prop} (hgd : o.guard = none) (s x : Operand) (t tx : TypeId)
    (ho : o.op = .call { callee := .builtin .append, args := #[s, x], argTypes := #[t, tx] })
    (e : TypeId) (i : TypeInfo) (z : Value) (size bytes : Nat) (ht : P.underlying t = some (.slice e)) (hi : P.info? e = some i) (hz : i.zero = some z)
    (hsize : i.size = size) (hby : i.bytes = bytes) (hzs : z.cells.size = size)
    (v : Value) (n : Nat) (xs : List Value) (hs : a.eval s = v) (hS : Sep w (row e size v n xs :: L)) (m : Nat) (news : List Value) (hx : Src P size tx (a.eval x) m news w)
    (h63 : n + m ≤ maxLen) (hbytes : (n + m) * bytes ≤ 140737488355328)
    (h : ∀ v' w', Sep w' (row e size v' (n + m) (xs ++ news) :: L) → Stable w w' → (v' = .slice none 0 0 ↔ v = .slice none 0 0 ∧ m = 0) → K (a.put o.dst v') w') :
    if Region.wanted o (yielded ops a.tmps) = true then o.wp P a w K Q else E := by
  rw [if_pos (by simp [Region.wanted, hgd])]
  exact wp_append_sep s x t tx ho e i z size bytes ht hi hz hsize hby hzs v n xs hs hS m news hx h63 hbytes h

theorem madeCells_one (z : Value) (n : Nat) : (madeCells #[z] n).toList = List.replicate n z := by
  apply List.ext_getElem
  · simp [madeCells]
  · intro i h1 h2
    simp [madeCells, Nat.mod_one]

/-- make([]T, n), an element of one cell. -/
theorem wpList_make_sep {ops : Array Oper} {rest : List Oper} {o : Oper} {a : Act} {Q : Exit → Act → World → Prop} (hg : o.guard = none) (l c : Operand) (t : TypeId) (hop : o.op = Op.makeSlice t l c)
    (e : TypeId) (i : TypeInfo) (z : Value) (bytes : Nat) (h1 : P.underlying t = some (.slice e)) (h2 : P.info? e = some i) (h3 : i.zero = some z) (h4 : i.size = 1) (h5 : i.bytes = bytes) (hz : z.cells = #[z])
    (n : Nat) (hl : a.eval l = .int .i64 n) (hc : a.eval c = .int .i64 n) (b2 : bytes * n ≤ 281474976710656) (b3 : n ≤ maxLen) (hS : Sep w L)
    (hK : ∀ v w', (∃ g, v = .slice (some ⟨g, 0, none⟩) n n) → Sep w' (row e 1 v n (List.replicate n z) :: L) → Stable w w' → wpList P ops Q rest (a.put o.dst v) w') :
    wpList P ops Q (o :: rest) a w := by
  refine wpList_make_full w hg l c t hop w.heap.size e i z 1 h1 h2 h3 h4 .i64 .i64 n n n hl hc rfl rfl (by rw [h5]; exact b2) b3 (Nat.le_refl _) (fun w' ho hgr => ?_)
  rw [hz, Nat.mul_one, madeCells_one] at ho
  exact hK _ _ ⟨_, rfl⟩ (hS.ofOwns ho (fun k hk => hgr.block k hk (by simp))) ((Stable.refl w).grown hgr)

/-- A source out of a reading. -/
theorem readsAs.src {size : Nat} {tx e' : TypeId} (hk : P.underlying tx = some (.slice e')) {v : Value} {n : Nat} {xs : List Value} (h : readsAs w size v n xs) (h1 : ∀ u ∈ xs, u.oneCell' = true) : Src P size tx v n xs w := by
  obtain ⟨hl, ⟨rfl, a, cap, rfl, _, _⟩ | ⟨b, off, cap, rfl, _, _, hc⟩⟩ := h
  · obtain rfl : xs = [] := List.eq_nil_of_length_eq_zero (by simpa using hl)
    cases a with
    | none => exact Src.ofNil w hk cap
    | some ad => exact Src.ofSlice w hk ad 0 cap [] (by simp) (fun j u hu => by cases hu) (by simp)
  · refine Src.ofSlice w hk ⟨b, off, none⟩ n cap xs hl (fun j u hu => ?_) h1
    have hj : j < xs.length := (List.getElem?_eq_some_iff.1 hu).1
    rw [Addr.add_lit, hc j hj]
    exact hu
end

end Go.Sl
