/- Contracts of the reference's memory (arenanetref09). -/
import Derived.Test.YtcpicaalponnlaaCellmemNestedW
namespace Go.Proofs.Ytcpicaalponnlaa
open Go.RowKit Go.Sl

variable {w : World} {L : List Asn} {vs vc : Value} {slv : List Value} {ce : List Int} {base : Int}

abbrev aggM (vs vc : Value) (base : Int) : Value := .agg #[vs, vc, i64 base]

theorem vone (l : List Value) (h : ∀ u ∈ l, ∃ a n c, u = .slice a n c) : ∀ u ∈ l, u.oneCell' = true := by
  intro u hu; obtain ⟨a, n, c, rfl⟩ := h u hu; rfl

set_option maxHeartbeats 400000 in
theorem own_spec {v : Value} {l : List Int} (hr : readsAs w 1 v l.length (ints l)) (hl : l.length ≤ 1000000000000) :
    Calls Try.prog 45 #[v] w fun e w' => ∃ v', e = .returned v' ∧ Sep w' [old w, rowI v' l] ∧ Stable w w' := by
  obtain ⟨i0, hi, hz0, hz1, hz2⟩ := info_parts infoI
  obtain ⟨a, cap, rfl, _, _, _⟩ := hr.shape
  have hS0 : Sep w [rowI (.slice none 0 0) [], old w] := (Sep.start w).addNil _ _
  go_enter Try.func45, Try.ntmps45
  go_wp2_with (at_builtin; refine wpList_append_sep rfl (.tmp 4) (.tmp 5) 22 22 rfl 3 i0 _ 1 8 Try.underlying22 hi hz0 hz1 hz2 rfl _ 0 [] rfl hS0 l.length (ints l) (hr.src Try.underlying22 (ints_one l)) (by unfold maxLen; omega) (by omega) ?_; intro v' w1 hS1 hst1 hn1; simp only [Nat.zero_add, List.nil_append] at hS1)
  go_ret
  exact ⟨v', rfl, hS1.pick 1, hst1⟩

set_option maxHeartbeats 400000 in
theorem New9_spec {v : Value} {l : List Int} (hr : readsAs w 1 v l.length (ints l)) (hl : l.length ≤ 1000000000000) :
    Calls Try.prog 31 #[v] w fun e w' => ∃ vs x, e = .returned (aggM vs (.slice none 0 0) 0) ∧ Sep w' [rowV vs [x], rowI (.slice none 0 0) [], rowI x l, old w] ∧ Stable w w' := by
  have hS0 := (Sep.start w).alloc (.cells #[.slice none 0 0, .slice none 0 0, i64 0] 52)
  have hst0 := (Stable.refl w).alloc (.cells #[.slice none 0 0, .slice none 0 0, i64 0] 52)
  obtain ⟨a, cap, rfl, _, _, _⟩ := hr.shape
  have hc := own_spec (hr.of_heap (heap_alloc_lt w (.cells #[.slice none 0 0, .slice none 0 0, i64 0] 52))) hl
  generalize hb : w.heap.size = b at *
  have HC := Lib.hid hc
  clear hc hr
  go_enter Try.func31, Try.ntmps31
  go_wp2_with fail
  refine HC.out.mono ?_
  rintro e w1 ⟨v1, rfl, hS1, hst1⟩
  have hS1 := hS0.mount hS1
  have hst1 := hst0.trans hst1
  obtain ⟨a1, m1, rfl, _⟩ := hS1.rowShape
  have hS2 := (hS1.alloc (.cells #[.slice a1 l.length m1] 22)).toRow (n := 1) (cap := 1) (size := 1) (xs := [.slice a1 l.length m1]) (Nat.le_refl _) (by simp [maxLen]) rfl rfl
  have c0 := cell_of_blk (hS2.pick 2).get 0
  have c1 := cell_of_blk (hS2.pick 2).get 1
  have c2 := cell_of_blk (hS2.pick 2).get 2
  have f0 := frozen_of_blk (hS2.pick 2).get
  have hst2 := hst1.alloc (.cells #[.slice a1 l.length m1] 22)
  have hS3 := (((hS2.pick 2).setCell 0 (.slice (some ⟨w1.heap.size, 0, none⟩) 1 1)).setCell 1 (.slice none 0 0)).setCell 2 (i64 0)
  go_wp2_with fail
  have hst3 := ((hst2.setCell ⟨b, 0, none⟩ (.slice (some ⟨w1.heap.size, 0, none⟩) 1 1)).setCell ⟨b, 1, none⟩ (.slice none 0 0)).setCell ⟨b, 2, none⟩ (i64 0)
  simp only [List.setIfInBounds_toArray, List.set_cons_succ, List.set_cons_zero] at hS3
  change bodyPost _ _ _ _ _ ((((w1.alloc _).setCell _ _).setCell _ _).setCell _ (i64 0))
  generalize ((((w1.alloc _).setCell _ _).setCell _ _).setCell _ (i64 0)) = w3 at hS3 hst3 ⊢
  have c0 := cell_of_blk hS3.get 0
  have c1 := cell_of_blk hS3.get 1
  have c2 := cell_of_blk hS3.get 2
  refine bodyPost_ret (v := aggM (.slice (some ⟨w1.heap.size, 0, none⟩) 1 1) (.slice none 0 0) 0) (by simp [results, Try.results31, go_sem, c0, c1, c2]) rfl ?_
  exact ⟨_, _, rfl, (hS3.drop.addNil _ _).pick 1, hst3⟩

/-- Now hands back the newest state. -/
theorem Now9_spec {n : Nat} (hS : Sep w (rowV vs slv :: L)) (hn : slv.length = n + 1) (hb : n ≤ 1000) :
    Calls Try.prog 37 #[aggM vs vc base] w fun e w' => e = .returned (slv.getD n (.slice none 0 0)) ∧ w' = w.alloc (.cells #[vs, vc, i64 base] 52) := by
  obtain ⟨g, cap, rfl, _, _, hc, _⟩ := hS.rowAt (by omega)
  have hx := (hc n (by omega)).trans (show slv[n]? = some (slv.getD n (.slice none 0 0)) by simp [List.getD, show n < slv.length by omega])
  have hb2 := World.block_lt_of_cell? w _ hx
  have hx' : (w.alloc (.cells #[.slice (some ⟨g, 0, none⟩) slv.length cap, vc, i64 base] 52)).cell? ⟨g, n, none⟩ = _ := (World.cell?_of_block (a := ⟨g, n, none⟩) (heap_alloc_lt w _ g hb2)).trans hx
  generalize slv.getD n (.slice none 0 0) = y at *
  rw [hn] at hx' ⊢
  clear hS hc hx hn
  go_enter Try.func37, Try.ntmps37
  go_wp2
  go_ret
  exact ⟨rfl, rfl⟩

theorem Mark9_spec {a : Option Addr} {c : Nat} (n : Nat) (w : World) :
    Calls Try.prog 38 #[aggM vs (.slice a n c) base] w fun e w' => e = .returned (i64 n) ∧ w' = w.alloc (.cells #[vs, .slice a n c, i64 base] 52) := by
  go_enter Try.func38, Try.ntmps38
  go_wp2
  go_ret
  exact ⟨rfl, rfl⟩

def chk9 (base n mark : Int) : Int := if mark < base then 24 else if n < mark then 6 else 0

theorem check9_spec {a : Option Addr} {c : Nat} (n : Nat) (hS : Sep w L) (mark : Int) :
    Calls Try.prog 46 #[aggM vs (.slice a n c) base, i64 mark] w fun e w' => e = .returned (i64 (chk9 base n mark)) ∧ Sep w' L ∧ Stable w w' := by
  have e : chk9 base n mark = if mark < base then 24 else if n < mark then 6 else 0 := rfl
  have hS1 := hS.allocBeside (.cells #[vs, .slice a n c, i64 base] 52)
  have hst1 := (Stable.refl w).alloc (.cells #[vs, .slice a n c, i64 base] 52)
  by_cases c1 : mark < base
  · rw [if_pos c1] at e
    rw [e]
    clear e
    go_enter Try.func46, Try.ntmps46
    go_wp2
    go_ret
    exact ⟨rfl, hS1, hst1⟩
  · rw [if_neg c1] at e
    by_cases c2 : (n : Int) < mark
    · rw [if_pos c2] at e
      rw [e]
      clear e
      go_enter Try.func46, Try.ntmps46
      go_wp2_with fail
      refine (Mark9_spec n _).mono ?_
      rintro e w2 ⟨rfl, rfl⟩
      go_wp2
      go_ret
      exact ⟨rfl, hS1.allocBeside _, hst1.alloc _⟩
    · rw [if_neg c2] at e
      rw [e]
      clear e
      go_enter Try.func46, Try.ntmps46
      go_wp2_with fail
      refine (Mark9_spec n _).mono ?_
      rintro e w2 ⟨rfl, rfl⟩
      go_wp2
      go_ret
      exact ⟨rfl, hS1.allocBeside _, hst1.alloc _⟩

theorem set3 {b : Nat} {x y z : Value} {t : TypeId} {f : Nat × Nat} (h : Sep w (pts b (.cells #[x, y, z] t f) :: L)) (x' y' z' : Value) :
    Sep (((w.setCell ⟨b, 0, none⟩ x').setCell ⟨b, 1, none⟩ y').setCell ⟨b, 2, none⟩ z') (pts b (.cells #[x', y', z'] t f) :: L) := by
  have hS3 := ((h.setCell 0 x').setCell 1 y').setCell 2 z'
  simpa only [List.setIfInBounds_toArray, List.set_cons_succ, List.set_cons_zero] using hS3

theorem box2 (hS : Sep w L) (o1 o2 : Obj) : Sep ((w.alloc o1).alloc o2) (pts (w.heap.size + 1) o2 :: pts w.heap.size o1 :: L) := by
  have := (hS.alloc o1).alloc o2
  simpa using this

set_option maxHeartbeats 1000000 in
theorem Undo9_no (hS : Sep w (rowV vs slv :: rowI vc ce :: L)) (mark : Int) (hc : chk9 base ce.length mark ≠ 0) :
    Calls Try.prog 32 #[aggM vs vc base, i64 mark] w fun e w' => e = .returned (.tuple #[aggM vs vc base, i64 (chk9 base ce.length mark)]) ∧ Sep w' (rowV vs slv :: rowI vc ce :: L) ∧ Stable w w' := by
  have hS0 := box2 hS (.cells #[vs, vc, i64 base] 52) (.cells #[.slice none 0 0, .slice none 0 0, i64 0] 52)
  have hst0 := ((Stable.refl w).alloc (.cells #[vs, vc, i64 base] 52)).alloc (.cells #[.slice none 0 0, .slice none 0 0, i64 0] 52)
  obtain ⟨a, cap, rfl, _⟩ := (hS.pick 1).rowShape
  obtain ⟨av, capv, rfl, _⟩ := hS.rowShape
  have hck := check9_spec (vs := .slice av slv.length capv) (base := base) (a := a) (c := cap) ce.length hS0 mark
  have hc' : (chk9 base ce.length mark != 0) = true := by simpa using hc
  have HCK := Lib.hid hck
  clear hc hck hS
  generalize chk9 base ce.length mark = c at *
  go_enter Try.func32, Try.ntmps32
  go_wp2_with fail
  refine HCK.out.mono ?_
  rintro e w1 ⟨rfl, hS1, hst1⟩
  have hst1 := hst0.trans hst1
  have c0 := cell_of_blk (hS1.pick 1).get 0
  have c1 := cell_of_blk (hS1.pick 1).get 1
  have c2 := cell_of_blk (hS1.pick 1).get 2
  have d0 := cell_of_blk hS1.get 0
  have d1 := cell_of_blk hS1.get 1
  have d2 := cell_of_blk hS1.get 2
  have f0 := frozen_of_blk hS1.get
  go_wp2_with fail
  have hS3 := set3 hS1 (.slice av slv.length capv) (.slice a ce.length cap) (i64 base)
  have hst3 := ((hst1.setCell ⟨w.heap.size + 1, 0, none⟩ (.slice av slv.length capv)).setCell ⟨w.heap.size + 1, 1, none⟩ (.slice a ce.length cap)).setCell ⟨w.heap.size + 1, 2, none⟩ (i64 base)
  change bodyPost _ _ _ _ _ (((w1.setCell _ _).setCell _ _).setCell _ (i64 base))
  generalize (((w1.setCell _ _).setCell _ _).setCell _ (i64 base)) = w3 at hS3 hst3 ⊢
  have e0 := cell_of_blk hS3.get 0
  have e1 := cell_of_blk hS3.get 1
  have e2 := cell_of_blk hS3.get 2
  refine bodyPost_ret (v := .tuple #[aggM (.slice av slv.length capv) (.slice a ce.length cap) base, i64 c]) (by simp [results, Try.results32, go_sem, e0, e1, e2]) rfl ?_
  exact ⟨rfl, hS3.drop.drop, hst3⟩

set_option maxHeartbeats 1000000 in
theorem Undo9_ok (hS : Sep w (rowV vs slv :: rowI vc ce :: L)) (hl : slv.length = ce.length + 1) (hlen : ce.length ≤ 1000) (k : Nat) (hk : k ≤ ce.length) (hb : base ≤ k) :
    Calls Try.prog 32 #[aggM vs vc base, i64 k] w fun e w' => ∃ vs' vc', e = .returned (.tuple #[aggM vs' vc' base, i64 0]) ∧ Sep w' (rowV vs' (slv.take (k + 1)) :: rowI vc' (ce.take k) :: L) ∧ Stable w w' := by
  have hS0 := box2 hS (.cells #[vs, vc, i64 base] 52) (.cells #[.slice none 0 0, .slice none 0 0, i64 0] 52)
  have hst0 := ((Stable.refl w).alloc (.cells #[vs, vc, i64 base] 52)).alloc (.cells #[.slice none 0 0, .slice none 0 0, i64 0] 52)
  obtain ⟨a, cap, rfl, hc1, hc2⟩ := (hS.pick 1).rowShape
  obtain ⟨av, capv, rfl, hv1, hv2⟩ := hS.rowShape
  have hck := check9_spec (vs := .slice av slv.length capv) (base := base) (a := a) (c := cap) ce.length hS0 k
  rw [show chk9 base ce.length k = 0 by unfold chk9; rw [if_neg (by omega), if_neg (by omega)]] at hck
  have HCK := Lib.hid hck
  have hk2 : k + 1 ≤ slv.length := by omega
  clear hck hS hl
  go_enter Try.func32, Try.ntmps32
  go_wp2_with fail
  refine HCK.out.mono ?_
  rintro e w1 ⟨rfl, hS1, hst1⟩
  have hst1 := hst0.trans hst1
  have c0 := cell_of_blk (hS1.pick 1).get 0
  have c1 := cell_of_blk (hS1.pick 1).get 1
  have c2 := cell_of_blk (hS1.pick 1).get 2
  have d0 := cell_of_blk hS1.get 0
  have d1 := cell_of_blk hS1.get 1
  have d2 := cell_of_blk hS1.get 2
  have f0 := frozen_of_blk hS1.get
  have f1 := frozen_of_blk (hS1.pick 1).get
  go_wp2_with fail
  have hS2 := (((hS1.pick 1).setCell 0 (.slice av (k + 1) capv)).setCell 1 (.slice a k cap)).pick 1
  have hS3 := set3 hS2 (.slice av (k + 1) capv) (.slice a k cap) (i64 base)
  have hst3 := ((((hst1.setCell ⟨w.heap.size, 0, none⟩ (.slice av (k + 1) capv)).setCell ⟨w.heap.size, 1, none⟩ (.slice a k cap)).setCell ⟨w.heap.size + 1, 0, none⟩ (.slice av (k + 1) capv)).setCell ⟨w.heap.size + 1, 1, none⟩ (.slice a k cap)).setCell ⟨w.heap.size + 1, 2, none⟩ (i64 base)
  change bodyPost _ _ _ _ _ (((((w1.setCell _ _).setCell _ _).setCell _ _).setCell _ _).setCell _ (i64 base))
  generalize (((((w1.setCell _ _).setCell _ _).setCell _ _).setCell _ _).setCell _ (i64 base)) = w3 at hS3 hst3 ⊢
  have e0 := cell_of_blk hS3.get 0
  have e1 := cell_of_blk hS3.get 1
  have e2 := cell_of_blk hS3.get 2
  refine bodyPost_ret (v := .tuple #[aggM (.slice av (k + 1) capv) (.slice a k cap) base, i64 0]) (by simp [results, Try.results32, go_sem, e0, e1, e2]) rfl ?_
  have hS4 := (hS3.drop.drop).rowTake (k := k + 1) (by omega)
  have hS5 := (hS4.pick 1).rowTake (k := k) (by omega)
  simp only [Nat.mul_one] at hS5
  rw [show (ints ce).take k = ints (ce.take k) by simp [ints, List.map_take]] at hS5
  refine ⟨_, _, rfl, ?_, hst3⟩
  have hl1 : (slv.take (k + 1)).length = k + 1 := by simp; omega
  have hl2 : (ce.take k).length = k := by simp; omega
  show Sep w3 (row _ _ _ (slv.take (k + 1)).length _ :: row _ _ _ (ce.take k).length _ :: L)
  rw [hl1, hl2]
  exact hS5.pick 1

set_option maxHeartbeats 1000000 in
theorem Discard9_no (hS : Sep w (rowV vs slv :: rowI vc ce :: L)) (mark : Int) (hc : chk9 base ce.length mark ≠ 0) :
    Calls Try.prog 33 #[aggM vs vc base, i64 mark] w fun e w' => e = .returned (.tuple #[aggM vs vc base, i64 (chk9 base ce.length mark)]) ∧ Sep w' (rowV vs slv :: rowI vc ce :: L) ∧ Stable w w' := by
  have hS0 := box2 hS (.cells #[vs, vc, i64 base] 52) (.cells #[.slice none 0 0, .slice none 0 0, i64 0] 52)
  have hst0 := ((Stable.refl w).alloc (.cells #[vs, vc, i64 base] 52)).alloc (.cells #[.slice none 0 0, .slice none 0 0, i64 0] 52)
  obtain ⟨a, cap, rfl, _⟩ := (hS.pick 1).rowShape
  obtain ⟨av, capv, rfl, _⟩ := hS.rowShape
  have hck := check9_spec (vs := .slice av slv.length capv) (base := base) (a := a) (c := cap) ce.length hS0 mark
  have hc' : (chk9 base ce.length mark != 0) = true := by simpa using hc
  have HCK := Lib.hid hck
  clear hc hck hS
  generalize chk9 base ce.length mark = c at *
  go_enter Try.func33, Try.ntmps33
  go_wp2_with fail
  refine HCK.out.mono ?_
  rintro e w1 ⟨rfl, hS1, hst1⟩
  have hst1 := hst0.trans hst1
  have c0 := cell_of_blk (hS1.pick 1).get 0
  have c1 := cell_of_blk (hS1.pick 1).get 1
  have c2 := cell_of_blk (hS1.pick 1).get 2
  have d0 := cell_of_blk hS1.get 0
  have d1 := cell_of_blk hS1.get 1
  have d2 := cell_of_blk hS1.get 2
  have f0 := frozen_of_blk hS1.get
  go_wp2_with fail
  have hS3 := set3 hS1 (.slice av slv.length capv) (.slice a ce.length cap) (i64 base)
  have hst3 := ((hst1.setCell ⟨w.heap.size + 1, 0, none⟩ (.slice av slv.length capv)).setCell ⟨w.heap.size + 1, 1, none⟩ (.slice a ce.length cap)).setCell ⟨w.heap.size + 1, 2, none⟩ (i64 base)
  change bodyPost _ _ _ _ _ (((w1.setCell _ _).setCell _ _).setCell _ (i64 base))
  generalize (((w1.setCell _ _).setCell _ _).setCell _ (i64 base)) = w3 at hS3 hst3 ⊢
  have e0 := cell_of_blk hS3.get 0
  have e1 := cell_of_blk hS3.get 1
  have e2 := cell_of_blk hS3.get 2
  refine bodyPost_ret (v := .tuple #[aggM (.slice av slv.length capv) (.slice a ce.length cap) base, i64 c]) (by simp [results, Try.results33, go_sem, e0, e1, e2]) rfl ?_
  exact ⟨rfl, hS3.drop.drop, hst3⟩

set_option maxHeartbeats 1000000 in
theorem Discard9_ok (hS : Sep w (rowV vs slv :: rowI vc ce :: L)) (mark : Int) (hk : mark ≤ ce.length) (hb : base ≤ mark) :
    Calls Try.prog 33 #[aggM vs vc base, i64 mark] w fun e w' => e = .returned (.tuple #[aggM vs vc mark, i64 0]) ∧ Sep w' (rowV vs slv :: rowI vc ce :: L) ∧ Stable w w' := by
  have hS0 := box2 hS (.cells #[vs, vc, i64 base] 52) (.cells #[.slice none 0 0, .slice none 0 0, i64 0] 52)
  have hst0 := ((Stable.refl w).alloc (.cells #[vs, vc, i64 base] 52)).alloc (.cells #[.slice none 0 0, .slice none 0 0, i64 0] 52)
  obtain ⟨a, cap, rfl, _⟩ := (hS.pick 1).rowShape
  obtain ⟨av, capv, rfl, _⟩ := hS.rowShape
  have hck := check9_spec (vs := .slice av slv.length capv) (base := base) (a := a) (c := cap) ce.length hS0 mark
  rw [show chk9 base ce.length mark = 0 by unfold chk9; rw [if_neg (by omega), if_neg (by omega)]] at hck
  have HCK := Lib.hid hck
  clear hck hS
  go_enter Try.func33, Try.ntmps33
  go_wp2_with fail
  refine HCK.out.mono ?_
  rintro e w1 ⟨rfl, hS1, hst1⟩
  have hst1 := hst0.trans hst1
  have c0 := cell_of_blk (hS1.pick 1).get 0
  have c1 := cell_of_blk (hS1.pick 1).get 1
  have c2 := cell_of_blk (hS1.pick 1).get 2
  have d0 := cell_of_blk hS1.get 0
  have d1 := cell_of_blk hS1.get 1
  have d2 := cell_of_blk hS1.get 2
  have f0 := frozen_of_blk hS1.get
  have f1 := frozen_of_blk (hS1.pick 1).get
  go_wp2_with fail
  have hS2 := ((hS1.pick 1).setCell 2 (i64 mark)).pick 1
  have hS3 := set3 hS2 (.slice av slv.length capv) (.slice a ce.length cap) (i64 mark)
  have hst3 := (((hst1.setCell ⟨w.heap.size, 2, none⟩ (i64 mark)).setCell ⟨w.heap.size + 1, 0, none⟩ (.slice av slv.length capv)).setCell ⟨w.heap.size + 1, 1, none⟩ (.slice a ce.length cap)).setCell ⟨w.heap.size + 1, 2, none⟩ (i64 mark)
  change bodyPost _ _ _ _ _ ((((w1.setCell _ _).setCell _ _).setCell _ _).setCell _ (i64 mark))
  generalize ((((w1.setCell _ _).setCell _ _).setCell _ _).setCell _ (i64 mark)) = w3 at hS3 hst3 ⊢
  have e0 := cell_of_blk hS3.get 0
  have e1 := cell_of_blk hS3.get 1
  have e2 := cell_of_blk hS3.get 2
  refine bodyPost_ret (v := .tuple #[aggM (.slice av slv.length capv) (.slice a ce.length cap) mark, i64 0]) (by simp [results, Try.results33, go_sem, e0, e1, e2]) rfl ?_
  exact ⟨rfl, hS3.drop.drop, hst3⟩

set_option maxHeartbeats 1000000 in
theorem Changed9_no (hS : Sep w (rowV vs slv :: rowI vc ce :: L)) (mark : Int) (hc : chk9 base ce.length mark ≠ 0) :
    Calls Try.prog 34 #[aggM vs vc base, i64 mark] w fun e w' => e = .returned (.tuple #[.slice none 0 0, i64 (chk9 base ce.length mark)]) ∧ Sep w' (rowV vs slv :: rowI vc ce :: L) ∧ Stable w w' := by
  have hS0 := hS.alloc (.cells #[vs, vc, i64 base] 52)
  have hst0 := (Stable.refl w).alloc (.cells #[vs, vc, i64 base] 52)
  obtain ⟨a, cap, rfl, _⟩ := (hS.pick 1).rowShape
  obtain ⟨av, capv, rfl, _⟩ := hS.rowShape
  have hck := check9_spec (vs := .slice av slv.length capv) (base := base) (a := a) (c := cap) ce.length hS0 mark
  have hc' : (chk9 base ce.length mark != 0) = true := by simpa using hc
  have HCK := Lib.hid hck
  clear hc hck hS
  generalize chk9 base ce.length mark = c at *
  go_enter Try.func34, Try.ntmps34
  go_wp2_with fail
  refine HCK.out.mono ?_
  rintro e w1 ⟨rfl, hS1, hst1⟩
  go_wp2_with fail
  go_ret2
  exact ⟨rfl, hS1.drop, hst0.trans hst1⟩

/-- The slice of numbers from the k-th on: what it reads as. -/
theorem dropI_reads {b : Option Addr} {m k : Nat} {sa : Option Addr} {l : List Int} (hS : Sep w (rowI (.slice b l.length m) l :: L)) (hk : k ≤ l.length) (hsa : (if m = k then b else b.map (·.add k)) = sa) :
    readsI w (.slice sa (l.length - k) (m - k)) (l.drop k) := by
  show readsAs w 1 _ (l.drop k).length (ints (l.drop k))
  rw [List.length_drop]
  refine ⟨by rw [ints_length, List.length_drop]; simp, ?_⟩
  rcases hS.rowCases with ⟨hv, hn, _, _⟩ | ⟨lb, cap, cur, hv, k1, k2, k3, k4, k5, k6⟩
  · obtain ⟨rfl, hl, rfl⟩ : b = none ∧ l.length = 0 ∧ m = 0 := by simpa using hv
    obtain rfl : k = 0 := by omega
    rw [hl]
    subst hsa
    exact .inl ⟨rfl, none, 0, by simp, Nat.zero_le _, fun _ => rfl⟩
  · obtain ⟨rfl, rfl⟩ : b = some ⟨lb, 0, none⟩ ∧ m = cap := by simpa using hv
    right
    by_cases hmk : m = k
    · have hz : l.length - k = 0 := by omega
      refine ⟨lb, 0, m - k, by rw [← hsa]; simp [hmk], by omega, by omega, fun j hj => ?_⟩
      rw [ints_length, List.length_drop] at hj; omega
    · refine ⟨lb, k, m - k, by rw [← hsa]; simp [hmk, Addr.add_lit], by omega, by omega, fun j hj => ?_⟩
      rw [ints_length, List.length_drop] at hj
      rw [cell_of_blk k6.get, take_getElem? k4 (by omega), show ints (l.drop k) = (ints l).drop k by simp [ints, List.map_drop], List.getElem?_drop]

/-- The cells below m that are elements of l. -/
def amongL (l : List Int) (m : Nat) : List Int := ((List.range m).filter fun j : Nat => hasE l (j : Int)).map Int.ofNat
theorem amongL_succ (l : List Int) (m : Nat) : amongL l (m + 1) = if hasE l (m : Int) then amongL l m ++ [(m : Int)] else amongL l m := by
  unfold amongL
  rw [List.range_succ, List.filter_append, List.map_append]
  by_cases h : hasE l (m : Int) = true
  · rw [if_pos h]; simp [h]
  · have h' : hasE l (m : Int) = false := by simpa using h
    rw [if_neg h]; simp [h']
theorem amongL_length (l : List Int) (m : Nat) : (amongL l m).length ≤ m := by
  simp only [amongL, List.length_map]
  exact Nat.le_trans (List.length_filter_le _ _) (by simp)

set_option maxHeartbeats 4000000 in
theorem Changed9_ok (hS : Sep w (rowV vs slv :: rowI vc ce :: L)) (hl : slv.length = ce.length + 1) (hlen : ce.length ≤ 1000) (k : Nat) (hk : k ≤ ce.length) (hb : base ≤ k)
    {aq : Option Addr} {m cq : Nat} (hx : slv.getD ce.length (.slice none 0 0) = .slice aq m cq) (hm : m ≤ 1000) :
    Calls Try.prog 34 #[aggM vs vc base, i64 k] w fun e w' => ∃ v, e = .returned (.tuple #[v, i64 0]) ∧ Sep w' (rowI v (amongL (ce.drop k) m) :: rowV vs slv :: rowI vc ce :: L) ∧ Stable w w' := by
  obtain ⟨i0, hi, hz0, hz1, hz2⟩ := info_parts infoI
  have hS0 := hS.alloc (.cells #[vs, vc, i64 base] 52)
  have hst0 := (Stable.refl w).alloc (.cells #[vs, vc, i64 base] 52)
  obtain ⟨a, cap, rfl, hc1, hc2⟩ := (hS.pick 1).rowShape
  obtain ⟨av, capv, rfl, _⟩ := hS.rowShape
  have hck := check9_spec (vs := .slice av slv.length capv) (base := base) (a := a) (c := cap) ce.length hS0 k
  rw [show chk9 base ce.length k = 0 by unfold chk9; rw [if_neg (by omega), if_neg (by omega)]] at hck
  have HCK := Lib.hid hck
  have HL := Lib.hid hl
  have HX := Lib.hid hx
  clear hck hS hl hx
  have hsa : ∃ sa, (if cap = k then a else a.map (·.add k)) = sa := ⟨_, rfl⟩
  obtain ⟨sa, hsa⟩ := hsa
  have HSA := Lib.hid hsa
  go_enter Try.func34, Try.ntmps34
  go_wp2_with fail
  refine HCK.out.mono ?_
  rintro e w1 ⟨rfl, hS1, hst1⟩
  replace hst1 := hst0.trans hst1
  go_wp2_with fail
  go_loopw [7, 8] (fun o i wr => ∃ j : Nat, j ≤ m ∧ i = .int .i64 j ∧ Sep wr (rowI o (amongL (ce.drop k) j) :: pts w.heap.size (.cells #[.slice av slv.length capv, .slice a ce.length cap, i64 base] 52) :: rowV (.slice av slv.length capv) slv :: rowI (.slice a ce.length cap) ce :: L) ∧ Stable w wr) (fun _ i _ => m - (intOf i).toNat)
  case atStart => exact ⟨0, Nat.zero_le _, rfl, hS1.addNil _ _, hst1⟩
  case round =>
    clear hS1 hst1
    obtain ⟨j, hj, rfl, hSr, hst⟩ := hrel
    have c0 := cell_of_blk (hSr.pick 1).get 0
    have c1 := cell_of_blk (hSr.pick 1).get 1
    have c2 := cell_of_blk (hSr.pick 1).get 2
    have hnow := Now9_spec (vc := .slice a ce.length cap) (base := base) (hSr.pick 2) HL.out (by omega)
    rw [HX.out] at hnow
    have HNOW := Lib.hid hnow
    have hal := amongL_length (ce.drop k) j
    clear hnow
    go_wp2_with fail
    refine HNOW.out.mono ?_
    rintro e w2 ⟨rfl, rfl⟩
    have hS2 := hSr.allocBeside (.cells #[.slice av slv.length capv, .slice a ce.length cap, i64 base] 52)
    have hst2 := hst.alloc (.cells #[.slice av slv.length capv, .slice a ce.length cap, i64 base] 52)
    clear hSr hst HNOW c0 c1 c2
    generalize wr.alloc (.cells #[.slice av slv.length capv, .slice a ce.length cap, i64 base] 52) = w3 at *
    have c0 := cell_of_blk (hS2.pick 1).get 0
    have c1 := cell_of_blk (hS2.pick 1).get 1
    have c2 := cell_of_blk (hS2.pick 1).get 2
    by_cases hlt : j < m
    · have hrd := dropI_reads (hS2.pick 3) hk HSA.out
      have hhas := Has_spec (j : Int) hrd (by rw [List.length_drop]; omega)
      have hsuc := amongL_succ (ce.drop k) j
      have HHAS := Lib.hid hhas
      clear hhas hrd
      cases hh : hasE (ce.drop k) (j : Int)
      · rw [hh] at HHAS
        rw [hh, if_neg (by simp)] at hsuc
        have HSUC := Lib.hid hsuc
        clear hsuc hh
        go_wp2_with fail
        refine HHAS.out.mono ?_
        rintro e w4 ⟨rfl, rfl⟩
        go_wp2_with fail
        exact ⟨⟨j + 1, by omega, by go_num, by rw [HSUC.out]; exact hS2, hst2⟩, by simp [intOf]; omega⟩
      · rw [hh] at HHAS
        rw [hh, if_pos rfl] at hsuc
        have HSUC := Lib.hid hsuc
        clear hsuc hh
        have hS4 := hS2.allocBeside (.cells #[i64 j] 3)
        go_wp2_with fail
        refine HHAS.out.mono ?_
        rintro e w4 ⟨rfl, rfl⟩
        go_wp2_with (at_builtin; refine wpList_append_sep rfl _ _ 22 22 rfl 3 i0 _ 1 8 Try.underlying22 hi hz0 hz1 hz2 rfl _ _ _ rfl hS4 1 [i64 j] (Src.ofSlice _ Try.underlying22 ⟨_, 0, none⟩ 1 1 _ rfl (fun j u hu => by rw [Addr.add_lit]; simpa using hu) (ints_one [(j : Int)])) (by unfold maxLen; omega) (by omega) ?_; intro v5 w5 hS5 hst5 hn5)
        have hS5 := rowI_app (l' := [(j : Int)]) hS5 rfl rfl
        exact ⟨⟨j + 1, by omega, by go_num, by rw [HSUC.out]; exact hS5, (hst2.alloc _).trans hst5⟩, by simp [intOf]; omega⟩
    · obtain rfl : j = m := by omega
      clear hlt
      go_wp2_with fail
      go_ret2
      exact ⟨_, rfl, (hS2.pick 1).drop, hst2⟩

set_option maxHeartbeats 4000000 in
theorem Set9_out (hS : Sep w (rowV vs slv :: rowI vc ce :: L)) (hl : slv.length = ce.length + 1) (hlen : ce.length ≤ 1000)
    {aq : Option Addr} {m cq : Nat} (hx : slv.getD ce.length (.slice none 0 0) = .slice aq m cq) (hm : m ≤ 1000) (i v : Int) (hi : i < 0 ∨ m ≤ i) :
    Calls Try.prog 35 #[aggM vs vc base, i64 i, i64 v] w fun e w' => e = .returned (aggM vs vc base) ∧ Sep w' (rowV vs slv :: rowI vc ce :: L) ∧ Stable w w' := by
  have hS0 := box2 hS (.cells #[vs, vc, i64 base] 52) (.cells #[.slice none 0 0, .slice none 0 0, i64 0] 52)
  have hst0 := ((Stable.refl w).alloc (.cells #[vs, vc, i64 base] 52)).alloc (.cells #[.slice none 0 0, .slice none 0 0, i64 0] 52)
  obtain ⟨a, cap, rfl, _⟩ := (hS.pick 1).rowShape
  obtain ⟨av, capv, rfl, _⟩ := hS.rowShape
  have hnow := Now9_spec (vc := .slice a ce.length cap) (base := base) (hS0.pick 2) hl (by omega)
  rw [hx] at hnow
  have HNOW := Lib.hid hnow
  have HS := Lib.hid hS
  clear hnow hS hl hx
  rcases hi with hi | hi
  · go_enter Try.func35, Try.ntmps35
    go_wp2_with fail
    refine bodyPost_ret (v := aggM (.slice av slv.length capv) (.slice a ce.length cap) base) (by simp [results, Try.results35, go_sem]) rfl ?_
    exact ⟨rfl, (HS.out.allocBeside _).allocBeside _, ((Stable.refl w).alloc _).alloc _⟩
  · by_cases h0 : i < 0
    · exfalso; omega
    · go_enter Try.func35, Try.ntmps35
      go_wp2_with fail
      refine HNOW.out.mono ?_
      rintro e w2 ⟨rfl, rfl⟩
      go_wp2_with fail
      refine bodyPost_ret (v := aggM (.slice av slv.length capv) (.slice a ce.length cap) base) (by simp [results, Try.results35, go_sem]) rfl ?_
      exact ⟨rfl, ((HS.out.allocBeside _).allocBeside _).allocBeside _, (((Stable.refl w).alloc _).alloc _).alloc _⟩

set_option maxHeartbeats 8000000 in
theorem Set9_in (hS : Sep w (rowV vs slv :: rowI vc ce :: L)) (hl : slv.length = ce.length + 1) (hlen : ce.length ≤ 1000) (hone : ∀ u ∈ slv, ∃ a n c, u = .slice a n c)
    {aq : Option Addr} {cq : Nat} {cs : List Int} (hx : slv.getD ce.length (.slice none 0 0) = .slice aq cs.length cq) (hm : cs.length ≤ 1000) (hR : ∀ w', Sep w' L → readsI w' (.slice aq cs.length cq) cs) (i : Nat) (v : Int) (hi : i < cs.length) :
    Calls Try.prog 35 #[aggM vs vc base, i64 i, i64 v] w fun e w' => ∃ vs' vc' a' c', e = .returned (aggM vs' vc' base) ∧
      Sep w' (rowV vs' (slv ++ [.slice a' cs.length c']) :: rowI vc' (ce ++ [(i : Int)]) :: rowI (.slice a' cs.length c') (cs.set i v) :: L) ∧ Stable w w' := by
  obtain ⟨i0, hi0, hz0, hz1, hz2⟩ := info_parts infoI
  obtain ⟨iV, hiV, hV0, hV1, hV2⟩ := info_parts infoV
  have hS0 := box2 hS (.cells #[vs, vc, i64 base] 52) (.cells #[.slice none 0 0, .slice none 0 0, i64 0] 52)
  have hst0 := ((Stable.refl w).alloc (.cells #[vs, vc, i64 base] 52)).alloc (.cells #[.slice none 0 0, .slice none 0 0, i64 0] 52)
  obtain ⟨a, cap, rfl, _⟩ := (hS.pick 1).rowShape
  obtain ⟨av, capv, rfl, _⟩ := hS.rowShape
  have hnow : ∀ (w : World) (L : List Asn), Sep w (rowV (.slice av slv.length capv) slv :: L) → Calls Try.prog 37 #[aggM (.slice av slv.length capv) (.slice a ce.length cap) base] w fun e w' => e = .returned (.slice aq cs.length cq) ∧ w' = w.alloc (.cells #[.slice av slv.length capv, .slice a ce.length cap, i64 base] 52) := fun w L h => by
    have := Now9_spec (vc := .slice a ce.length cap) (base := base) h hl (by omega)
    rwa [hx] at this
  have HNOW := Lib.hid hnow
  have HNOW1 := Lib.hid (hnow _ _ (hS0.pick 2))
  have HL := Lib.hid hl
  have HO := Lib.hid (vone slv hone)
  have HR := Lib.hid hR
  clear hnow hS hl hx hone hR
  go_enter Try.func35, Try.ntmps35
  go_wp2_with fail
  refine HNOW1.out.mono ?_
  rintro e w2 ⟨rfl, rfl⟩
  have hS2 := hS0.allocBeside (.cells #[.slice av slv.length capv, .slice a ce.length cap, i64 base] 52)
  have hst2 := hst0.alloc (.cells #[.slice av slv.length capv, .slice a ce.length cap, i64 base] 52)
  clear HNOW1 hS0 hst0
  generalize World.alloc (World.alloc (World.alloc w _) _) _ = w2 at hS2 hst2 ⊢
  have d0 := cell_of_blk (hS2.pick 1).get 0
  have d1 := cell_of_blk (hS2.pick 1).get 1
  have d2 := cell_of_blk (hS2.pick 1).get 2
  have HN2 := Lib.hid (HNOW.out _ _ (hS2.pick 2))
  go_wp2_with fail
  refine HN2.out.mono ?_
  rintro e w3 ⟨rfl, rfl⟩
  have hS3 := hS2.allocBeside (.cells #[.slice av slv.length capv, .slice a ce.length cap, i64 base] 52)
  have hst3 := hst2.alloc (.cells #[.slice av slv.length capv, .slice a ce.length cap, i64 base] 52)
  clear HN2 hS2 hst2 d0 d1 d2
  generalize World.alloc w2 _ = w3 at hS3 hst3 ⊢
  go_wp2_with fail
  refine (own_spec (HR.out _ hS3.drop.drop.drop.drop) (by omega)).mono ?_
  rintro e w4 ⟨v4, rfl, hS4, hst4⟩
  have hS4 := hS3.mount hS4
  replace hst4 := hst3.trans hst4
  obtain ⟨gn, capn, rfl, hn1, hn2, hnc, hnf, hnl, hns⟩ := hS4.rowAt (by omega)
  have x1 := hnc i (by rw [ints_length]; omega)
  rw [ints_get _ _ hi] at x1
  have hS5 := hns i (i64 v) (by rw [ints_length]; omega)
  rw [ints_set] at hS5
  have hS5 := (hS5.alloc (.cells #[] 22)).toRow (n := 0) (cap := 0) (size := 1) (xs := []) (Nat.le_refl _) (Nat.zero_le _) rfl rfl
  rw [show (w4.setCell ⟨gn, i, none⟩ (i64 v)).heap.size = w4.heap.size by simp] at hS5
  have hst5 := (hst4.setCell ⟨gn, i, none⟩ (i64 v)).alloc (.cells #[] 22)
  have d0 := cell_of_blk (hS5.pick 3).get 0
  have d1 := cell_of_blk (hS5.pick 3).get 1
  have d2 := cell_of_blk (hS5.pick 3).get 2
  have fz := frozen_of_blk (hS5.pick 3).get
  clear hS3 hst3 hnc hns hS4 hst4
  have hsz : slv.length ≤ 1001 := by rw [HL.out]; omega
  go_wp2_with (first
    | (at_builtin; refine wpList_append_sep rfl (.tmp 25) (.tmp 27) 40 40 rfl 22 iV _ 1 24 Try.underlying40 hiV hV0 hV1 hV2 rfl _ 0 [] rfl hS5 slv.length slv ((hS5.pick 4).reads.src Try.underlying40 HO.out) (by unfold maxLen; omega) (by omega) ?_; intro v6 w6 hS6 hst6 hn6; simp only [Nat.zero_add, List.nil_append] at hS6; have hS6' := hS6.allocBeside (.cells #[.slice (some ⟨gn, 0, none⟩) cs.length capn] 22))
    | (at_builtin; refine wpList_append_sep rfl (.tmp 28) (.tmp 30) 40 40 rfl 22 iV _ 1 24 Try.underlying40 hiV hV0 hV1 hV2 rfl _ slv.length slv rfl hS6' 1 [.slice (some ⟨gn, 0, none⟩) cs.length capn] (Src.ofSlice _ Try.underlying40 ⟨_, 0, none⟩ 1 1 _ rfl (fun j u hu => by rw [Addr.add_lit]; simpa using hu) (by simp [Value.oneCell'])) (by unfold maxLen; omega) (by omega) ?_; intro v7 w7 hS7 hst7 hn7; obtain ⟨a7, c7, rfl, _⟩ := hS7.rowShape; have q1 := cell_of_blk (hS7.pick 3).get 1; have q0 := cell_of_blk (hS7.pick 3).get 0; have qf := frozen_of_blk (hS7.pick 3).get))
  have hst7 := (((hst5.trans hst6).alloc _).trans hst7).setCell ⟨w.heap.size, 0, none⟩ (.slice a7 (slv.length + 1) c7)
  have hS8 := (hS7.pick 3).setCell 0 (.slice a7 (slv.length + 1) c7)
  simp only [List.setIfInBounds_toArray, List.set_cons_succ, List.set_cons_zero] at hS8
  clear hS5 hst5 hS6 hS6' hst6 hn6 hS7 hn7 q0 q1 qf d0 d1 d2 fz x1 hnf hnl
  generalize w7.setCell _ _ = w8 at hst7 hS8 ⊢
  refine (own_spec (hS8.pick 5).reads (by omega)).mono ?_
  rintro e w9 ⟨v9, rfl, hS9, hst9⟩
  have hS9 := hS8.mount hS9
  replace hst9 := hst7.trans hst9
  obtain ⟨a9, c9, rfl, _⟩ := hS9.rowShape
  have hS9' := hS9.allocBeside (.cells #[i64 i] 3)
  clear hS8 hst7
  go_wp2_with (at_builtin; refine wpList_append_sep rfl _ _ 22 22 rfl 3 i0 _ 1 8 Try.underlying22 hi0 hz0 hz1 hz2 rfl _ _ _ rfl hS9' 1 [i64 i] (Src.ofSlice _ Try.underlying22 ⟨_, 0, none⟩ 1 1 _ rfl (fun j u hu => by rw [Addr.add_lit]; simpa using hu) (ints_one [(i : Int)])) (by unfold maxLen; omega) (by omega) ?_; intro v10 w10 hS10 hst10 hn10; obtain ⟨a10, c10, rfl, _⟩ := hS10.rowShape; have q0 := cell_of_blk (hS10.pick 1).get 0; have q1 := cell_of_blk (hS10.pick 1).get 1; have q2 := cell_of_blk (hS10.pick 1).get 2; have qf := frozen_of_blk (hS10.pick 1).get; have r0 := cell_of_blk (hS10.pick 4).get 0; have r1 := cell_of_blk (hS10.pick 4).get 1; have r2 := cell_of_blk (hS10.pick 4).get 2; have rf := frozen_of_blk (hS10.pick 4).get)
  have hS11 := ((hS10.pick 1).setCell 1 (.slice a10 (ce.length + 1) c10)).pick 4
  have hS12 := set3 hS11 (.slice a7 (slv.length + 1) c7) (.slice a10 (ce.length + 1) c10) (i64 base)
  have hst12 := (((((hst9.alloc _).trans hst10).setCell ⟨w.heap.size, 1, none⟩ (.slice a10 (ce.length + 1) c10)).setCell ⟨w.heap.size + 1, 0, none⟩ (.slice a7 (slv.length + 1) c7)).setCell ⟨w.heap.size + 1, 1, none⟩ (.slice a10 (ce.length + 1) c10)).setCell ⟨w.heap.size + 1, 2, none⟩ (i64 base)
  change bodyPost _ _ _ _ _ ((((w10.setCell _ _).setCell _ _).setCell _ _).setCell _ (i64 base))
  generalize ((((w10.setCell _ _).setCell _ _).setCell _ _).setCell _ (i64 base)) = w3 at hS12 hst12 ⊢
  have e0 := cell_of_blk hS12.get 0
  have e1 := cell_of_blk hS12.get 1
  have e2 := cell_of_blk hS12.get 2
  refine bodyPost_ret (v := aggM (.slice a7 (slv.length + 1) c7) (.slice a10 (ce.length + 1) c10) base) (by simp [results, Try.results35, go_sem, e0, e1, e2]) rfl ?_
  have hS13 := ((((hS12.drop.drop).pick 3).drop).pick 3).drop
  refine ⟨_, _, some ⟨gn, 0, none⟩, capn, rfl, ?_, hst12⟩
  have hS14 := (rowI_app (l' := [(i : Int)]) hS13 rfl rfl).pick 2
  rw [rowV_snoc]
  show Sep w3 (_ :: _ :: row _ _ _ (cs.set i v).length _ :: L)
  rw [List.length_set]
  exact (hS14.pick 1).pick 2

end Go.Proofs.Ytcpicaalponnlaa
