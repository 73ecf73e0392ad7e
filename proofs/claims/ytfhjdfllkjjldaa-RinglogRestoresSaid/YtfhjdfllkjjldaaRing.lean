/- Contracts: the ring's entries, New, Oldest, Newest. -/
import Derived.Test.YtfhjdfllkjjldaaRowG
import Derived.Test.YtfhjdfllkjjldaaMore
import Derived.Test.YtfhjdfllkjjldaaUndo
import Derived.Test.YtfhjdfllkjjldaaDisc
namespace Go.Proofs.Ytfhjdfllkjjldaa
open Go.RowKit Go.Sl

variable {w : World} {L : List Asn}

theorem infoR : (Try.prog.info? 59).map (fun i => (i.zero, i.size, i.bytes)) = some (some (.agg #[.int .i64 0, .int .i64 0]), 2, 16) := by kernel_rfl
abbrev rowR0 (v : Value) (l : List (Int × Int)) : Asn := row 59 2 v l.length (ents l)
abbrev rowR (v : Value) (l : List (Int × Int)) : Asn := rowG 59 2 v l.length (ents l)
@[go_sem] theorem nilR (w : World) (a : Option Addr) (n c n' c' : Nat) : (binOp .eql 55 (.slice a n c) (.slice none n' c')).run Try.prog w = .ok (.bool a.isNone) w := Lib.run_eql_slice_nil w _ _ a n c n' c' Try.underlying55

set_option maxHeartbeats 400000 in
theorem CloneR_spec {v : Value} {l : List (Int × Int)} (hr : readsAs w 2 v l.length (ents l)) (hl : l.length ≤ 1000000000000) :
    Calls Try.prog 32 #[v] w fun e w' => ∃ v', e = .returned v' ∧ Sep w' [old w, rowR0 v' l] ∧ Stable w w' := by
  obtain ⟨i0, hi, hz0, hz1, hz2⟩ := info_parts infoR
  obtain ⟨a, cap, rfl, _, _, hnil⟩ := hr.shape
  cases a with
  | none =>
    obtain ⟨hn, rfl⟩ := hnil rfl
    obtain rfl : l = [] := List.eq_nil_of_length_eq_zero hn
    clear hr hn hl
    go_enter Try.func32, Try.ntmps32
    go_wp2
    go_ret
    exact ⟨_, rfl, ((Sep.start w).addNil _ _).pick 1, Stable.refl w⟩
  | some ad =>
    clear hnil
    have hS0 : Sep (w.alloc (.cells #[] 59)) [rowR0 (.slice (some ⟨w.heap.size, 0, none⟩) 0 0) [], old w] :=
      ((Sep.start w).alloc (.cells #[] 59)).toRow (Nat.le_refl _) (Nat.zero_le _) rfl rfl
    have hr2 := hr.of_heap (w' := w.alloc (.cells #[] 59)) (heap_alloc_lt w _)
    go_enter Try.func32, Try.ntmps32
    go_wp2_with (at_builtin; refine wpList_append_sep rfl (.tmp 5) (.tmp 6) 55 55 rfl 59 i0 _ 2 16 Try.underlying55 hi hz0 hz1 hz2 rfl _ 0 [] rfl hS0 l.length (ents l) (hr2.src Try.underlying55 (ents_one l)) (by unfold maxLen; omega) (by omega) ?_; intro v' w1 hS1 hst1 hn1; simp only [Nat.zero_add, List.nil_append] at hS1)
    go_ret
    exact ⟨v', rfl, hS1.pick 1, ((Stable.refl w).alloc _).trans hst1⟩


/-- A ring: its memory, how many ticks it keeps, its entries (tick, mark). -/
def ring (p mp : Value) (keep : Int) (es : List (Int × Int)) : Asn := fun h =>
  ∃ p0, p = .pointer (some ⟨p0, 0, none⟩) ∧ (fun h => ∃ ev, star [pts p0 (.cells #[mp, i64 keep, ev] 57 (0, 0)), rowR ev es] h) h

variable {p mp : Value} {keep : Int} {es : List (Int × Int)}

theorem ring_open (h : Sep w (ring p mp keep es :: L)) : ∃ p0 ev, p = .pointer (some ⟨p0, 0, none⟩) ∧ Sep w (pts p0 (.cells #[mp, i64 keep, ev] 57 (0, 0)) :: rowR ev es :: L) := by
  obtain ⟨p0, h⟩ := Sep.ex (F := fun p0 h => p = .pointer (some ⟨p0, 0, none⟩) ∧ (fun h => ∃ ev, star [pts p0 (.cells #[mp, i64 keep, ev] 57 (0, 0)), rowR ev es] h) h) h
  obtain ⟨hp, h⟩ := h.pure
  obtain ⟨ev, h⟩ := h.ex
  exact ⟨p0, ev, hp, h.flat⟩
theorem ring_shut {p0 : Nat} {ev : Value} (h : Sep w (pts p0 (.cells #[mp, i64 keep, ev] 57 (0, 0)) :: rowR ev es :: L)) : Sep w (ring (.pointer (some ⟨p0, 0, none⟩)) mp keep es :: L) :=
  (Sep.unflat [_, _] h).imp fun _ hs => ⟨p0, rfl, ev, hs⟩

theorem RingNew_spec (m0 : Nat) (hS : Sep w L) (keep : Int) :
    Calls Try.prog 30 #[.pointer (some ⟨m0, 0, none⟩), i64 keep] w fun e w' => ∃ p, e = .returned p ∧ p ≠ .pointer none ∧ Sep w' (ring p (.pointer (some ⟨m0, 0, none⟩)) keep [] :: L) ∧ Stable w w' := by
  have hS0 := (hS.addNil 59 2).rowG.alloc (.cells #[.pointer (some ⟨m0, 0, none⟩), i64 keep, .slice none 0 0] 57)
  have H0 := Lib.hid hS0
  clear hS hS0
  go_enter Try.func30, Try.ntmps30
  go_wp2_with fail
  go_ret
  exact ⟨_, rfl, by simp, ring_shut H0.out, (Stable.refl w).alloc _⟩

def oldest (es : List (Int × Int)) : Int := if es.length = 0 then -1 else (es.getD 0 (0, 0)).1
def newest (es : List (Int × Int)) : Int := if es.length = 0 then -1 else (es.getD (es.length - 1) (0, 0)).1

theorem ents_cell {n cap : Nat} {a : Option Addr} {l : List (Int × Int)} (h : readsAs w 2 (.slice a n cap) l.length (ents l)) (hl : 0 < l.length) : ∃ b off, a = some ⟨b, off, none⟩ ∧ ∀ i, i < l.length →
    w.cell? ⟨b, off + i * 2, none⟩ = some (i64 (l.getD i (0, 0)).1) ∧ w.cell? ⟨b, off + i * 2 + 1, none⟩ = some (i64 (l.getD i (0, 0)).2) := by
  rcases h.2 with ⟨hn, _⟩ | ⟨b, off, cap, hv, h1, h2, h3⟩
  · omega
  · obtain ⟨rfl, _, _⟩ : a = some ⟨b, off, none⟩ ∧ n = l.length ∧ _ := by simpa using hv
    refine ⟨b, off, rfl, fun i hi => ?_⟩
    have e := ents_get l i hi
    exact ⟨(h3 (i * 2) (by rw [ents_length]; omega)).trans e.1, (h3 (i * 2 + 1) (by rw [ents_length]; omega)).trans e.2⟩

set_option maxHeartbeats 1000000 in
theorem Oldest_spec (hS : Sep w (ring p mp keep es :: L)) (hl : es.length ≤ 1000000000000) :
    Calls Try.prog 14 #[p] w fun e w' => e = .returned (i64 (oldest es)) ∧ w = w' := by
  obtain ⟨p0, ev, rfl, hS1⟩ := ring_open hS
  obtain ⟨a, cap, rfl, _, _, _⟩ := (hS1.pick 1).shapeG
  have c2 : w.cell? ⟨p0, 2, none⟩ = some (.slice a es.length cap) := cell_of_blk hS1.get 2
  by_cases h0 : es.length = 0
  · have he : oldest es = -1 := by unfold oldest; rw [if_pos h0]
    rw [he]
    rw [h0] at c2
    clear hS hS1 he h0 hl
    go_enter Try.func14, Try.ntmps14
    go_wp2_with fail
    go_ret
    exact ⟨rfl, rfl⟩
  · have he : oldest es = (es.getD 0 (0, 0)).1 := by unfold oldest; rw [if_neg h0]
    obtain ⟨b, off, rfl, hc⟩ := ents_cell (hS1.pick 1).readsG (by omega)
    have c0 := (hc 0 (by omega)).1
    rw [he]
    generalize (es.getD 0 (0, 0)).1 = x at *
    have hpos : 0 < es.length := by omega
    clear hS hS1 he h0 hc
    generalize es.length = n at *
    simp only [Nat.zero_mul, Nat.add_zero] at c0
    go_enter Try.func14, Try.ntmps14
    go_wp2_with fail
    go_ret
    exact ⟨rfl, rfl⟩

set_option maxHeartbeats 1000000 in
theorem Newest_spec (hS : Sep w (ring p mp keep es :: L)) (hl : es.length ≤ 1000000000000) :
    Calls Try.prog 15 #[p] w fun e w' => e = .returned (i64 (newest es)) ∧ ∃ n, w' = w.drewN n := by
  obtain ⟨p0, ev, rfl, hS1⟩ := ring_open hS
  obtain ⟨a, cap, rfl, _, _, _⟩ := (hS1.pick 1).shapeG
  have c2 : w.cell? ⟨p0, 2, none⟩ = some (.slice a es.length cap) := cell_of_blk hS1.get 2
  by_cases h0 : es.length = 0
  · have he : newest es = -1 := by unfold newest; rw [if_pos h0]
    rw [he]
    rw [h0] at c2
    clear hS hS1 he h0 hl
    go_enter Try.func15, Try.ntmps15
    go_wp2_with fail
    go_ret
    exact ⟨rfl, 0, rfl⟩
  · have he : newest es = (es.getD (es.length - 1) (0, 0)).1 := by unfold newest; rw [if_neg h0]
    obtain ⟨b, off, rfl, hc⟩ := ents_cell (hS1.pick 1).readsG (by omega)
    have c0 := (hc (es.length - 1) (by omega)).1
    rw [he]
    generalize (es.getD (es.length - 1) (0, 0)).1 = x at *
    have hpos : 0 < es.length := by omega
    clear hS hS1 he h0 hc
    generalize es.length = n at *
    have q1 : IntKind.i64.wrap ((n : Int) - 1) = (n : Int) - 1 := IntWalk.i64_in _ (by omega)
    have q2 : (0 : Int) ≤ (n : Int) - 1 := by omega
    have q3 : (n : Int) - 1 < (n : Int) := by omega
    have q4 : ((n : Int) - 1).toNat = n - 1 := by omega
    go_enter Try.func15, Try.ntmps15
    go_wp2_with fail
    go_quiet (fail)
    go_wp2_with fail
    go_ret
    exact ⟨rfl, _, rfl⟩

end Go.Proofs.Ytfhjdfllkjjldaa
