/- Contracts of package cellmem: Undo. -/
import Derived.Test.YtkalpgngoijdmaaBack
import Derived.Test.YtkalpgngoijdmaaRound
import Derived.Test.YtkalpgngoijdmaaHist
namespace Go.Proofs.Ytkalpgngoijdmaa
open Go.RowKit Go.Sl Go.Shelf

attribute [local go_sem] Oper.semAt_some
variable {w : World} {L : List Asn} {p : Value} {cs : List Int} {base : Int} {log : List (Int × Int)}

set_option maxHeartbeats 400000 in
theorem Undo_no (hS : Sep w (mem p cs base log :: L)) (hb : Small cs base log) (mark : Int) (hc : chk base log mark ≠ 0) :
    Calls Try.prog 36 #[p, i64 mark] w fun e w' => e = .returned (i64 (chk base log mark)) ∧ Sep w' (mem p cs base log :: L) ∧ Stable w w' := by
  have hk := check_spec (hS.allocBeside (.cells #[p] 60)) hb mark
  obtain ⟨p0, _, _, _, _, rfl, _⟩ := mem_cells hS
  have hS1 := hS.allocBeside (.cells #[.pointer (some ⟨p0, 0, none⟩)] 60)
  clear hS hb
  have hc' : (chk base log mark != 0) = true := by simpa using hc
  clear hc
  generalize chk base log mark = c at *
  go_enter Try.func36, Try.ntmps36
  go_wp2_with (go_at_call 55; refine hk.mono ?_; rintro e w' ⟨rfl, nq, rfl⟩)
  go_ret
  exact ⟨rfl, hS1, ((Stable.refl w).alloc _).drewN _⟩

/-- A valid entry, with its index. -/
abbrev Ent (n : Nat) := Int × {x : Int × Int // 0 ≤ x.1 ∧ x.1 < (n : Int)}
def undoP (cs : List Int) (pre : List (Ent cs.length)) : List Int := pre.foldl (fun c x => c.set x.2.1.1.toNat x.2.1.2) cs
theorem undoP_length (cs : List Int) (pre : List (Ent cs.length)) : (undoP cs pre).length = cs.length := by
  have : ∀ (l : List (Ent cs.length)) (c : List Int), (l.foldl (fun c x => c.set x.2.1.1.toNat x.2.1.2) c).length = c.length := by
    intro l
    induction l with
    | nil => exact fun _ => rfl
    | cons a l ih => intro c; rw [List.foldl_cons, ih, List.length_set]
  exact this pre cs
theorem undoP_snoc (cs : List Int) (pre : List (Ent cs.length)) (x : Ent cs.length) : undoP cs (pre ++ [x]) = (undoP cs pre).set x.2.1.1.toNat x.2.1.2 := by simp [undoP]

theorem handed_exists (cs : List Int) (es : List (Int × Int)) (h : ∀ x ∈ es, 0 ≤ x.1 ∧ x.1 < (cs.length : Int)) :
    ∃ S : List (Ent cs.length), Handed (fun x : Ent cs.length => #[i64 x.1, .agg #[i64 x.2.1.1, i64 x.2.1.2]]) S es ∧ undoP cs S = undoC cs es := by
  have hv : ∀ i (hi : i < es.length), 0 ≤ (es[i]).1 ∧ (es[i]).1 < (cs.length : Int) := fun i hi => h _ (List.getElem_mem hi)
  refine ⟨List.ofFn fun k : Fin es.length => (((es.length - 1 - k.1 : Nat) : Int), ⟨es[es.length - 1 - k.1]'(by have := k.2; omega), hv _ _⟩), ⟨by simp, fun k hk => ?_⟩, ?_⟩
  · have hk' : k < es.length := by simpa using hk
    have hj : es.length - 1 - k < es.length := by omega
    simp [List.getElem_ofFn, eAt, List.getD, List.getElem?_eq_getElem hj]
  · have e : (List.ofFn fun k : Fin es.length => ((((es.length - 1 - k.1 : Nat) : Int), ⟨es[es.length - 1 - k.1]'(by have := k.2; omega), hv _ _⟩) : Ent cs.length)).map (fun x => x.2.1) = es.reverse := by
      apply List.ext_getElem
      · simp
      · intro i h1 h2
        simp [List.getElem_ofFn, List.getElem_reverse]
    unfold undoP undoC
    rw [← List.foldl_reverse, ← e, List.foldl_map]

theorem ownFrom_blk (B b : Nat) (o : Obj) (ho : o.isCells = true) : OwnFrom B (fun (_ : Unit) W => W.heap[b]? = some o) := fun _ W W' row hs hg hr => by
  refine (hg.block b (Array.getElem?_eq_some_iff.1 hs).1 (fun e => ?_)).trans hs
  obtain ⟨_, o', ho', hc⟩ := hr b e.symm
  rw [hs] at ho'; cases ho'; rw [ho] at hc; cases hc

set_option maxRecDepth 100000 in
set_option maxHeartbeats 2000000 in
theorem Undo_ok (hS : Sep w (mem p cs base log :: L)) (hb : Small cs base log) (mark : Int) (h1 : base ≤ mark) (h2 : mark ≤ base + log.length) :
    Calls Try.prog 36 #[p, i64 mark] w fun e w' => e = .returned (i64 0) ∧
      Sep w' (mem p (undoC cs (log.drop (mark - base).toNat)) base (log.take (mark - base).toNat) :: L) ∧ Stable w w' := by
  have hchk : chk base log mark = 0 := by unfold chk; rw [if_neg (by omega), if_neg (by omega)]
  have hk := check_spec (hS.allocBeside (.cells #[p] 60)) hb mark
  rw [hchk] at hk
  obtain ⟨p0, a, n, b, m, rfl, c0, c1, c2, hf0, hlm, hmm, hS2⟩ := mem_cells hS
  have hc := hb.cells
  have hpos := hb.position
  have hlow := hb.low
  obtain ⟨keep, hkeep⟩ : ∃ k : Nat, mark = base + k := ⟨(mark - base).toNat, by omega⟩
  subst hkeep
  have hkl : keep ≤ log.length := by omega
  rw [show (base + (keep : Int) - base).toNat = keep from by omega]
  refine (callsIn_wide (n := 5)).1 ?_
  refine callsIn_of_wp_marks Try.func36 rfl trivial ?_ rfl
  simp only [Try.ntmps36, List.size_toArray, List.length_cons, List.length_nil, Nat.reduceAdd, Nat.reduceSub, Array.replicate_succ, Array.replicate_zero, List.push_toArray, List.append_toArray, List.nil_append, List.cons_append]
  have hw0 : p0 < w.heap.size := hl_lt hS2.get
  have hsub : base + (keep : Int) - base = keep := by omega
  -- the part of the log that is undone, as a slice value
  obtain ⟨sa, sc, hsa, hsc, hsv⟩ : ∃ (sa : Option Addr) (sc : Nat), (if m = keep then b else b.map (·.add (keep * 2))) = sa ∧ (m - keep) = sc ∧
      (Value.slice sa (log.length - keep) sc = .slice none 0 0 ∧ log.drop keep = [] ∨ ∃ lb off cap, Value.slice sa (log.length - keep) sc = .slice (some ⟨lb, off, none⟩) (log.drop keep).length cap ∧ lb < w.heap.size ∧ b = some ⟨lb, 0, none⟩ ∧
        ∀ j, j < (log.drop keep).length → w.cell? ⟨lb, off + j * 2, none⟩ = some (i64 (eAt (log.drop keep) j).1) ∧ w.cell? ⟨lb, off + j * 2 + 1, none⟩ = some (i64 (eAt (log.drop keep) j).2)) := by
    refine ⟨_, _, rfl, rfl, ?_⟩
    rcases (hS2.pick 2).rowCases with ⟨hv, hn, _, _⟩ | ⟨lb, cap, cur, hv, k1, k2, k3, k4, k5, k6⟩
    · obtain ⟨rfl, hl, rfl⟩ : b = none ∧ log.length = 0 ∧ m = 0 := by simpa using hv
      obtain rfl : keep = 0 := by omega
      exact .inl ⟨by simp [hl], by rw [List.eq_nil_of_length_eq_zero hl]; rfl⟩
    · obtain ⟨rfl, rfl⟩ : b = some ⟨lb, 0, none⟩ ∧ m = cap := by simpa using hv
      right
      by_cases hmk : m = keep
      · have hz : log.length - keep = 0 := by omega
        refine ⟨lb, 0, m - keep, by simp [hmk], hl_lt k6.get, rfl, fun j hj => ?_⟩
        rw [List.length_drop] at hj; omega
      · refine ⟨lb, keep * 2, m - keep, by simp [hmk, Addr.add_lit], hl_lt k6.get, rfl, fun j hj => ?_⟩
        rw [List.length_drop] at hj
        have e := ents_get log (keep + j) (by omega)
        have e2 : eAt (log.drop keep) j = log.getD (keep + j) (0, 0) := by simp [eAt, List.getD]
        rw [e2, cell_of_blk k6.get, cell_of_blk k6.get, take_getElem? k4 (by omega), take_getElem? k4 (by omega), ← Nat.add_mul]
        exact e
  generalize hes : log.drop keep = es at *
  have hesl : es.length = log.length - keep := by rw [← hes, List.length_drop]
  -- the cells' block
  have hrow := (hS2.pick 1).rowCases
  have hesv : ∀ x ∈ es, 0 ≤ x.1 ∧ x.1 < cs.length := fun x hx => hasB_iff.1 (hb.entries x (List.mem_of_mem_drop (hes ▸ hx)))
  have HS := Lib.hid hS
  have HS2 := Lib.hid hS2
  have HES := Lib.hid hes
  have HESL := Lib.hid hesl
  have HROW := Lib.hid hrow
  have HSV := Lib.hid hsv
  have HEV := Lib.hid hesv
  clear hS hS2 hes hesl hrow hsv hesv hb hchk
  gi_wp2_with first | (refine ⟨trivial, ?_⟩; gi_at_call 55; refine (callsIn_wide.2 hk).mono ?_; rintro e w' ⟨rfl, nq, rfl⟩) | (refine ⟨trivial, ?_⟩; gi_at_call 56; refine (back_in _ _ trivial rfl _ _ _ _).mono ?_; rintro e w' ⟨rfl, rfl⟩)
  obtain ⟨W0, hW0⟩ : ∃ W0, (((w.alloc (.cells #[.pointer (some ⟨p0, 0, none⟩)] 60)).drewN nq).alloc (.cells #[.slice sa (log.length - keep) sc] 90)) = W0 := ⟨_, rfl⟩
  have hsz1 : ((w.alloc (.cells #[.pointer (some ⟨p0, 0, none⟩)] 60)).drewN nq).heap.size = w.heap.size + 1 := by simp [World.drewN]
  have hsz : W0.heap.size = w.heap.size + 2 := by rw [← hW0, World.size_alloc, hsz1]
  have hst0 : Stable w W0 := by rw [← hW0]; exact (((Stable.refl w).alloc _).drewN _).alloc _
  have hold : ∀ k, k < w.heap.size → W0.heap[k]? = w.heap[k]? := fun k hk => by
    rw [← hW0, heap_alloc_lt _ _ _ (by rw [hsz1]; omega)]
    exact heap_alloc_lt w _ k hk
  have bM : Boxed W0 w.heap.size 60 (.pointer (some ⟨p0, 0, none⟩)) := by
    rw [← hW0]; exact (show Boxed ((w.alloc _).drewN nq) _ _ _ from Boxed.new w _ _).alloc _
  have bS : Boxed W0 (w.heap.size + 1) 90 (.slice sa (log.length - keep) sc) := by
    rw [← hW0]; have := Boxed.new ((w.alloc (.cells #[.pointer (some ⟨p0, 0, none⟩)] 60)).drewN nq) 90 (.slice sa (log.length - keep) sc); rwa [hsz1] at this
  rw [hW0]
  clear hW0 hsz1
  obtain ⟨S, hH, hSu⟩ := handed_exists cs es HEV.out
  have HH := Lib.hid hH
  have HSU := Lib.hid hSu
  clear hH hSu
  -- the cells' block, as a function of the cells
  obtain ⟨blk, hblk, hblkAt⟩ : ∃ blk : List Int → Obj, (∀ l, (blk l).isCells = true) ∧ (∀ g, a = some ⟨g, 0, none⟩ → W0.heap[g]? = some (blk cs) ∧ g < w.heap.size ∧ g ≠ p0 ∧ (∀ lb, b = some ⟨lb, 0, none⟩ → g ≠ lb) ∧
      (∀ l : List Int, l.length = cs.length → (∃ cur : Array Value, blk l = .cells cur 3 (0, 0) ∧ (∀ i, i < l.length → cur[i]? = some (i64 (l.getD i 0))) ∧ (∀ i v, i < l.length → blk (l.set i v) = .cells (cur.setIfInBounds i (i64 v)) 3 (0, 0))) ∧
        (∀ W (L' : List Asn), Sep W (pts g (blk l) :: L') → Sep W (rowI (.slice a cs.length n) l :: L')))) := by
    rcases HROW.out with ⟨hv, _, _, _⟩ | ⟨g, cap, cur, hv, k1, k2, k3, k4, k5, k6⟩
    · obtain ⟨rfl, _⟩ : a = none ∧ _ := by simpa using hv
      exact ⟨fun _ => .cells #[] 3 (0, 0), fun _ => rfl, fun g hg => by cases hg⟩
    · obtain ⟨rfl, rfl⟩ : a = some ⟨g, 0, none⟩ ∧ n = cap := by simpa using hv
      refine ⟨fun l => .cells (ints l ++ cur.toList.drop cs.length).toArray 3 (0, 0), fun _ => rfl, fun g' hg' => ?_⟩
      obtain rfl : g = g' := by simpa using hg'
      have hg := hl_lt k6.get
      refine ⟨?_, hg, k6.ne, fun lb hlb => ?_, fun l hl => ⟨⟨_, rfl, fun i hi => ?_, fun i v hi => ?_⟩, fun W L' hs => ?_⟩⟩
      · dsimp only
        rw [hold g hg, k6.get, ← k4, Nat.mul_one, List.take_append_drop]
      · rcases (k6.pick 2).rowCases with ⟨hv', _⟩ | ⟨lb', _, _, hv', _, _, _, _, _, k7⟩
        · rw [hlb] at hv'; cases hv'
        · rw [hlb] at hv'
          obtain rfl : lb = lb' := by simpa using congrArg (fun v => match v with | Value.slice (some a) _ _ => a.block | _ => 0) hv'
          exact k7.ne.symm
      · rw [List.getElem?_toArray, List.getElem?_append_left (by rw [ints_length]; exact hi), ints_get _ _ hi]
      · rw [List.setIfInBounds_toArray, List.set_append_left _ _ (by rw [ints_length]; exact hi), ints_set]
      · have := hs.toRow (n := cs.length) (cap := n) (size := 1) (xs := ints l) k1 k2 ?_ ?_
        · show Sep W (row 3 1 _ l.length (ints l) :: L')
          rw [hl]; exact this
        · simp only [List.size_toArray, List.length_append, List.length_drop, Array.length_toList, ints_length]; omega
        · simp [← hl, ← ints_length l]
  have hanone : ∀ x : Ent cs.length, ∃ g, a = some ⟨g, 0, none⟩ := by
    intro x
    obtain ⟨g, _, hv, _⟩ := (HS2.out.pick 1).rowAt (by have := x.2.2; omega)
    exact ⟨g, by simpa using congrArg (fun v => match v with | Value.slice a _ _ => a | _ => none) hv⟩
  have hbl : ∀ lb, b = some ⟨lb, 0, none⟩ → lb < w.heap.size := by
    intro lb hlb
    rcases (HS2.out.pick 2).rowCases with ⟨hv', _⟩ | ⟨lb', _, _, hv', _, _, _, _, _, k7⟩
    · rw [hlb] at hv'; cases hv'
    · rw [hlb] at hv'
      obtain rfl : lb = lb' := by simpa using congrArg (fun v => match v with | Value.slice (some a) _ _ => a.block | _ => 0) hv'
      exact hl_lt k7.get
  refine wpIn_rangeFunc_ownH rfl (by omega) (gf := 63) (lb := #[.pointer (some ⟨w.heap.size + 1, 0, none⟩)]) rfl trivial (enters_of Try.func63 (by kernel_rfl) rfl)
    (back_stops Fence.wide (5 - 1) trivial rfl (by omega) (w.heap.size + 1) (.slice sa (log.length - keep) sc) es HH.out (by have := HESL.out; omega) W0 bS.cell ?hsv
      (fun A B => (∀ lb, b = some ⟨lb, 0, none⟩ → B.heap[lb]? = A.heap[lb]?) ∧ B.heap[w.heap.size + 1]? = A.heap[w.heap.size + 1]?) ?hKp)
    (fun h k => ⟨fun lb e => (k.1 lb e).trans (h.1 lb e), k.2.trans h.2⟩) ?hKb (Below.refl _ _) (fun _ => rfl)
    (fun pre W => (∀ k, k < W0.heap.size → (∀ g, a = some ⟨g, 0, none⟩ → k ≠ g) → W.heap[k]? = W0.heap[k]?) ∧ (∀ g, a = some ⟨g, 0, none⟩ → W.heap[g]? = some (blk (undoP cs pre))) ∧ Stable W0 W)
    (fun _ _ _ => False) ?hI (fun _ _ _ _ _ hs _ _ => hs) ?h0
    (fun x a' W => ∃ Bx, w.heap.size + 1 < Bx ∧ W.heap[Bx]? = some (.cells #[i64 x.2.1.1, i64 x.2.1.2] 95 (0, 0)) ∧ a' = { tmps := #[.pointer (some ⟨p0, 0, none⟩), i64 (base + keep), .pointer (some ⟨w.heap.size, 0, none⟩), undef, .int .i64 0, i64 0, .int .i64 keep, undef, .pointer (some ⟨Bx, 0, none⟩), .pointer (some ⟨p0, 0, none⟩), i64 (base + keep), i64 0, i64 0, .bool false, undef, i64 (base + keep), .pointer (some ⟨p0, 0, none⟩), .pointer (some ⟨p0, 0, none⟩), .pointer (some ⟨p0, 1, none⟩), i64 base, .int .i64 keep, .pointer (some ⟨p0, 0, none⟩), .pointer (some ⟨p0, 0, none⟩), .pointer (some ⟨p0, 2, none⟩), .slice b log.length m, .int .i64 keep, .slice sa (log.length - keep) sc, .func (.func 63) #[] #[.pointer (some ⟨w.heap.size + 1, 0, none⟩)], i64 x.1, .agg #[i64 x.2.1.1, i64 x.2.1.2], undef, undef, undef, undef, undef, undef, undef, undef, undef, undef, undef, undef, undef, undef, undef, undef, undef, undef], defers := [] })
    (fun x a' _ X Y row hs hg hr => by obtain ⟨Bx, q1, q2, q3⟩ := hs; exact ⟨Bx, q1, ownFrom_blk _ Bx _ rfl () X Y row q2 hg hr, q3⟩)
    ?assign ?body ?done ?stop
  case hsv =>
    rcases HSV.out with ⟨q1, q2⟩ | ⟨lb, off, cap, q1, q2, _, q3⟩
    · exact .inl ⟨q1, q2⟩
    · refine .inr ⟨lb, off, cap, q1, by omega, fun j hj => ?_⟩
      have := hold lb q2
      exact ⟨(World.cell?_of_block (a := ⟨lb, off + j * 2, none⟩) this).trans (q3 j hj).1, (World.cell?_of_block (a := ⟨lb, off + j * 2 + 1, none⟩) this).trans (q3 j hj).2⟩
  case hKp =>
    intro A B h
    refine ⟨fun lb off cap e => ?_, h.2⟩
    rcases HSV.out with ⟨q1, q2⟩ | ⟨lb', off', cap', q1, q2, q4, q3⟩
    · rw [q1] at e; cases e
    · rw [q1] at e
      simp only [Value.slice.injEq, Option.some.injEq, Addr.mk.injEq] at e
      obtain ⟨⟨rfl, _⟩, _⟩ := e
      exact h.1 _ q4
  case hKb =>
    intro W l o o' hl hW _ _
    have hlt := (Array.getElem?_eq_some_iff.1 hW).1
    refine ⟨fun lb e => (grownBy_putObj' W l o').block lb ?_ (fun q => ?_), (grownBy_putObj' W l o').block _ (by omega) (fun q => by cases q; omega)⟩
    · have := hbl lb e; omega
    · have := hbl lb e; cases q; omega
  case hI =>
    rintro pre W W' row ⟨i1, i2, i3⟩ hg hr
    have hsize := i3.size
    refine ⟨fun k hk hne => (hg.block k (by omega) (fun q => ?_)).trans (i1 k hk hne), fun g hag => ?_, i3.grown hg⟩
    · have := (hr k q.symm).1; omega
    · have hgl := (hblkAt g hag).2.1
      exact (hg.block g (by omega) (fun q => by have := (hr g q.symm).1; omega)).trans (i2 g hag)
  case h0 => exact ⟨fun _ _ _ => rfl, fun g hg => (hblkAt g hg).1, Stable.refl _⟩
  case assign =>
    rintro l pre x W K ⟨i1, i2, i3⟩ hK
    have hsize := i3.size
    gi_wp2
    refine hK _ _ ((KeepsOthers.alloc _ _).from _) ⟨fun lb e => ?_, heap_alloc_lt _ _ _ (by omega)⟩ ⟨fun k hk hne => (heap_alloc_lt _ _ _ (by omega)).trans (i1 k hk hne), fun g hg => ?_, i3.alloc _⟩ ⟨W.heap.size, by omega, heap_alloc_at _ _, rfl⟩
    · have := hbl lb e; exact heap_alloc_lt _ _ _ (by omega)
    · have := (hblkAt g hg).2.1; exact (heap_alloc_lt _ _ _ (by omega)).trans (i2 g hg)
  case body =>
    rintro l pre x a' W hl ⟨r, hr⟩ ⟨i1, i2, i3⟩ ⟨Bx, hBx, bX, rfl⟩ hlt
    obtain ⟨g, hag⟩ := hanone x
    obtain ⟨hg0, hgl, hgp, hgb, hfun⟩ := hblkAt g hag
    obtain ⟨⟨cur, hcur, hget, hset⟩, _⟩ := hfun (undoP cs pre) (undoP_length cs pre)
    have hgW := i2 g hag
    rw [hcur] at hgW
    obtain ⟨xi, xe, hx0, hx1⟩ := x
    dsimp only at bX hget hset hx0 hx1 ⊢
    have hsize := i3.size
    have cM : W.cell? ⟨w.heap.size, 0, none⟩ = some (.pointer (some ⟨p0, 0, none⟩)) := (World.cell?_of_block (a := ⟨w.heap.size, 0, none⟩) (i1 w.heap.size (by omega) (fun g' e' => by have := (hblkAt g' e').2.1; omega))).trans bM.cell
    have cP : W.cell? ⟨p0, 0, none⟩ = some (.slice a cs.length n) := (World.cell?_of_block (a := ⟨p0, 0, none⟩) ((i1 p0 (by omega) (fun g' e' => (hblkAt g' e').2.2.1.symm)).trans (hold p0 hw0))).trans c0
    have cX1 := cell_of_blk bX 0
    have cX2 := cell_of_blk bX 1
    have cG := cell_of_blk hgW xe.1.toNat
    rw [hget _ (by rw [undoP_length]; omega)] at cG
    have fG := frozen_of_blk hgW xe.1.toNat
    have hs2 := hset xe.1.toNat xe.2 (by rw [undoP_length]; omega)
    have HS3 := Lib.hid hs2
    have HGW := Lib.hid hgW
    have HI1 := Lib.hid i1
    have HI2 := Lib.hid i2
    have HAG := Lib.hid hag
    have HBA := Lib.hid hblkAt
    clear hs2 hgW i1 i2 hfun hget hset hblkAt hcur hg0 hgb hanone hbl hold
    rw [hag] at cP
    gi_wp2
    refine wpIn_region_still_tail 8 (by kernel_rfl) (by kernel_rfl) (fun ⟨_, _, h⟩ => h) (by kernel_rfl) ?_
    simp only [List.take_succ_cons, List.take_zero, List.drop_succ_cons, List.drop_zero]
    repeat still_step
    try refine wpStill_nil ?_
    go_wp2
    have hgb := (HBA.out g HAG.out).2.2.2.1
    have hne1 : ∀ k, k ≠ g → (W.setCell ⟨g, xe.1.toNat, none⟩ (.int .i64 xe.2)).drew.heap[k]? = W.heap[k]? := fun k hk => Below.heap_setCell W ⟨g, xe.1.toNat, none⟩ (.int .i64 xe.2) k hk
    refine ⟨((KeepsOthers.setCell _ _ _).trans (KeepsOthers.drew _)).from _, ⟨fun lb e => hne1 lb (hgb lb e).symm, hne1 _ (by omega)⟩, fun k hk hne => (hne1 k (hne g HAG.out)).trans (HI1.out k hk hne), fun g' e => ?_, (i3.setCell _ _).drew⟩
    obtain rfl : g = g' := by rw [HAG.out] at e; simpa using e
    rw [undoP_snoc]
    exact (heap_setCell_at HGW.out xe.1.toNat (.int .i64 xe.2)).trans (by rw [HS3.out])
  case done =>
    rintro D ys W hD rfl ⟨i1, i2, i3⟩ hK
    have hsize := i3.size
    have cM : W.cell? ⟨w.heap.size, 0, none⟩ = some (.pointer (some ⟨p0, 0, none⟩)) := (World.cell?_of_block (a := ⟨w.heap.size, 0, none⟩) (i1 w.heap.size (by omega) (fun g' e' => by have := (hblkAt g' e').2.1; omega))).trans bM.cell
    have hbp : W.heap[p0]? = w.heap[p0]? := (i1 p0 (by omega) (fun g' e' => (hblkAt g' e').2.2.1.symm)).trans (hold p0 hw0)
    have cP2 : W.cell? ⟨p0, 2, none⟩ = some (.slice b log.length m) := (World.cell?_of_block (a := ⟨p0, 2, none⟩) hbp).trans c2
    have fP2 : W.frozen? ⟨p0, 2, none⟩ = false := (World.frozen?_of_block (a := ⟨p0, 2, none⟩) hbp).trans (hf0 2)
    have HI1 := Lib.hid i1
    have HI2 := Lib.hid i2
    have HBA := Lib.hid hblkAt
    have HOLD := Lib.hid hold
    have HBP := Lib.hid hbp
    have HKK := Lib.hid hK
    clear i1 i2 hblkAt hold hbp hanone hbl hK
    gi_wp2
    refine wpIn_wide.2 ?_
    have hkm : keep ≤ m := Nat.le_trans hkl hlm
    go_still_tail 7, (by kernel_rfl)
    go_wp2
    gi_wp2
    have hK' := (KeepsOthers.setCell W ⟨p0, 2, none⟩ (.slice b keep m)).same D _ HKK.out rfl
    refine ⟨by simp, .inl ⟨_, _, rfl, run_takeDeferred hK', ?_⟩⟩
    have hW' : ∀ k, k < W0.heap.size → k ≠ p0 → (((W.setCell ⟨p0, 2, none⟩ (.slice b keep m)).drew).putObj D (.deferred none)).heap[k]? = W.heap[k]? := fun k hk hne =>
      ((grownBy_putObj' (W.setCell ⟨p0, 2, none⟩ (.slice b keep m)).drew D (.deferred none)).block k (by simp; omega) (fun q => by cases q; omega)).trans (Below.heap_setCell W ⟨p0, 2, none⟩ (.slice b keep m) k hne)
    have hP' : (((W.setCell ⟨p0, 2, none⟩ (.slice b keep m)).drew).putObj D (.deferred none)).heap[p0]? = some (.cells #[.slice a cs.length n, i64 base, .slice b keep m] 92 (0, 0)) :=
      ((grownBy_putObj' (W.setCell ⟨p0, 2, none⟩ (.slice b keep m)).drew D (.deferred none)).block p0 (by simp; omega) (fun q => by cases q; omega)).trans (heap_setCell_at (HBP.out.trans HS2.out.get) 2 (.slice b keep m))
    have hst' : Stable w (((W.setCell ⟨p0, 2, none⟩ (.slice b keep m)).drew).putObj D (.deferred none)) := ((hst0.trans i3).setCell _ _).drew.grown (grownBy_putObj' _ D (.deferred none))
    refine ⟨_, results_tmp rfl _ _ _, rfl, ?_, hst'⟩
    generalize ((W.setCell ⟨p0, 2, none⟩ (.slice b keep m)).drew).putObj D (.deferred none) = W' at hW' hP' hst' ⊢
    rw [← HSU.out]
    have hS0 := HS2.out.same HOLD.out
    have hul := undoP_length cs ys
    have hfin : Sep W' (pts p0 (.cells #[.slice a cs.length n, i64 base, .slice b keep m] 92 (0, 0)) :: rowI (.slice a cs.length n) (undoP cs ys) :: rowE (.slice b log.length m) log :: L) := by
      cases ha : a with
      | none =>
        have hcs : cs = [] := by
          rcases (hS0.pick 1).rowCases with ⟨_, hn, _, _⟩ | ⟨g, _, _, hv, _⟩
          · exact List.eq_nil_of_length_eq_zero hn
          · rw [ha] at hv; cases hv
        have hu : undoP cs ys = cs := (List.eq_nil_of_length_eq_zero (by rw [hul, hcs]; rfl)).trans hcs.symm
        have h9 := hS0.put hP' (fun k hk hne => (hW' k hk hne).trans (HI1.out k hk (fun g e => by rw [ha] at e; cases e)))
        rw [ha] at h9
        rw [hu]
        exact h9
      | some ad =>
        rcases (hS0.pick 1).rowCases with ⟨hv, _, _, _⟩ | ⟨g, cap, cur, hv, q1, q2, q3, q4, q5, q6⟩
        · rw [ha] at hv; cases hv
        · have hag : a = some ⟨g, 0, none⟩ := by simpa using congrArg (fun v => match v with | Value.slice a _ _ => a | _ => none) hv
          obtain ⟨_, z1, z2, _, z4⟩ := HBA.out g hag
          have h9 := q6.put2 (o1' := blk (undoP cs ys)) ((hW' g (by omega) z2).trans (HI2.out g hag)) hP' (fun k hk hne1 hne2 => (hW' k hk hne2).trans (HI1.out k hk (fun g' e => by rw [hag] at e; cases e; exact hne1)))
          have h10 := (z4 (undoP cs ys) hul).2 _ _ h9
          rw [← ha, hag]
          rw [hag] at h10
          have h11 := h10.pick 1
          exact h11
    have h12 := (((hfin.pick 2).rowTake hkl).pick 2).pick 2
    rw [ents_take] at h12
    exact mem_shut' h12 (by rw [hul]) rfl (by rw [List.length_take, Nat.min_eq_left hkl]) rfl
  case stop =>
    rintro D c pre W hD _ h _
    exact h.elim

end Go.Proofs.Ytkalpgngoijdmaa
