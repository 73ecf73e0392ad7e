/- slices.Backward over the log's entries: its iterator's contract. -/
import Derived.RangeFuncNested
import Derived.RangeFuncBound
import Derived.RangeFuncCalls
import Derived.RangeFuncLeaves
import Derived.Shelf.Abstract
import Derived.Shelf.RegionOpen
import Derived.OwnWalkIn
import Derived.TacticsInMore
import Derived.LoopNIn
import Derived.LoopIn
import Derived.Test.YtkalpgngoijdmaaMem3
namespace Go.Proofs.Ytkalpgngoijdmaa
open Go.RowKit Go.Sl Go.Shelf

attribute [local go_sem] Oper.semAt_some

abbrev eAt (es : List (Int × Int)) (j : Nat) : Int × Int := es.getD j (0, 0)
/-- The list S is what Backward hands on of es: the index and the entry, the last first. -/
def Handed {α : Type} (encs : α → Array Value) (S : List α) (es : List (Int × Int)) : Prop :=
  S.length = es.length ∧ ∀ k (h : k < S.length), encs S[k] = #[i64 ((es.length - 1 - k : Nat) : Int), .agg #[i64 (eAt es (es.length - 1 - k)).1, i64 (eAt es (es.length - 1 - k)).2]]

set_option maxRecDepth 100000 in
set_option maxHeartbeats 2000000 in
theorem back1_in {α : Type} {encs : α → Array Value} {S : List α} (F : Fence) (n : Nat) (hF : F.fn 63) (hro : F.round = none) (hn : 1 ≤ n) (l Bs b off cap : Nat) (es : List (Int × Int)) (hH : Handed encs S es) (hlen : es.length ≤ 1000000000000)
    (Kp : World → World → Prop) (hKp : ∀ A B, Kp A B → B.heap[b]? = A.heap[b]? ∧ B.heap[Bs]? = A.heap[Bs]?) (J Jx : List α → World → Prop)
    (hY : ∀ pre x W, J pre W → pre.length < es.length → YieldAt F (n - 1) Try.prog l (encs x) W fun e W' =>
      (e = .returned (.bool true) ∧ J (pre ++ [x]) W' ∧ Kp W W') ∨ (e = .returned (.bool false) ∧ Jx (pre ++ [x]) W'))
    (W : World) (hBs : W.cell? ⟨Bs, 0, none⟩ = some (.slice (some ⟨b, off, none⟩) es.length cap))
    (hc : ∀ j, j < es.length → W.cell? ⟨b, off + j * 2, none⟩ = some (i64 (eAt es j).1) ∧ W.cell? ⟨b, off + j * 2 + 1, none⟩ = some (i64 (eAt es j).2)) (h0 : J [] W) :
    CallsIn F n Try.prog 63 #[.func (.yield l) #[] #[], .pointer (some ⟨Bs, 0, none⟩)] W fun e W' => (∃ v, e = .returned v) ∧
      ((∃ ys, ys = S ∧ J ys W') ∨ (∃ pre, (∃ k, k ≤ es.length ∧ pre = S.take k) ∧ Jx pre W')) := by
  refine callsIn_of_wp Try.func63 rfl hF ?_ hro
  simp only [Try.ntmps63, List.size_toArray, List.length_cons, List.length_nil, Nat.reduceAdd, Nat.reduceSub, Array.replicate_succ, Array.replicate_zero, List.push_toArray, List.append_toArray, List.nil_append, List.cons_append]
  gi_wp2
  gi_loopw [3] (fun i wr => ∃ k : Nat, k ≤ es.length ∧ i = .int .i64 (es.length - 1 - k : Int) ∧ J (S.take k) wr ∧ (wr.heap[b]? = W.heap[b]? ∧ wr.heap[Bs]? = W.heap[Bs]?))
    (fun i _ => (intOf i + 1).toNat)
  case atStart => exact ⟨0, Nat.zero_le _, by simp, by rw [List.take_zero]; exact h0, rfl, rfl⟩
  case round =>
    obtain ⟨k, hk, rfl, hJs, hb, hbs⟩ := hrel
    have hBs' : wr.cell? ⟨Bs, 0, none⟩ = _ := (World.cell?_of_block hbs).trans hBs
    by_cases hlt : k < es.length
    · obtain ⟨j, hj⟩ : ∃ j : Nat, es.length - 1 - k = j := ⟨_, rfl⟩
      have hji : ((es.length : Int) - 1 - k) = (j : Int) := by omega
      have hjl : j < es.length := by omega
      obtain ⟨hc1, hc2⟩ := hc j hjl
      have hc1' : wr.cell? ⟨b, off + j * 2, none⟩ = _ := (World.cell?_of_block hb).trans hc1
      have hc2' : wr.cell? ⟨b, off + j * 2 + 1, none⟩ = _ := (World.cell?_of_block hb).trans hc2
      have hSk : k < S.length := by rw [hH.1]; exact hlt
      obtain ⟨fn, tmps, assign, body, hy, hR⟩ := hY _ S[k] wr hJs (by rw [List.length_take, hH.1]; omega)
      rw [hH.2 k hSk, hj] at hy
      rw [hji]
      have hjk : j + k + 1 = es.length := by omega
      have HJK := Lib.hid hjk
      have HB := Lib.hid hb
      have HBS := Lib.hid hbs
      clear hBs hc hc1 hc2 hj hji hb hbs hjk
      have hsuc := Lib.hid (List.take_succ_eq_append_getElem hSk)
      generalize S[k] = sk at *
      generalize hx : eAt es j = x at *
      clear hx
      gi_wp2
      refine hR.mono ?_
      rintro e W3 (⟨rfl, hJ3, hk3⟩ | ⟨rfl, hJx3⟩)
      · have hk4 := hKp _ _ hk3
        gi_wp2
        go_roundw
        case rel =>
          refine ⟨k + 1, by omega, ?_, ?_, hk4.1.trans HB.out, hk4.2.trans HBS.out⟩
          · have := HJK.out; congr 1; omega
          · rw [hsuc.out]; exact hJ3
        case measure => simp [intOf]
      · gi_wp2
        refine bodyPost_ret (results_none rfl _ _ _) rfl ?_
        exact ⟨⟨_, rfl⟩, .inr ⟨_, ⟨k + 1, by omega, by rw [hsuc.out]⟩, hJx3⟩⟩
    · obtain rfl : k = es.length := by omega
      clear hBs hc hb hbs
      gi_wp2
      go_end0
      exact ⟨⟨_, rfl⟩, .inl ⟨_, rfl, by rw [← hH.1, List.take_length] at hJs; exact hJs⟩⟩

set_option maxRecDepth 100000 in
set_option maxHeartbeats 1000000 in
/-- .. at the nil slice: no round. -/
theorem back1_nil_in {α : Type} (F : Fence) (n : Nat) (hF : F.fn 63) (hro : F.round = none) (l Bs : Nat) (J : List α → World → Prop)
    (W : World) (hBs : W.cell? ⟨Bs, 0, none⟩ = some (.slice none 0 0)) (h0 : J [] W) :
    CallsIn F n Try.prog 63 #[.func (.yield l) #[] #[], .pointer (some ⟨Bs, 0, none⟩)] W fun e W' => (∃ v, e = .returned v) ∧ J [] W' := by
  refine callsIn_of_wp Try.func63 rfl hF ?_ hro
  simp only [Try.ntmps63, List.size_toArray, List.length_cons, List.length_nil, Nat.reduceAdd, Nat.reduceSub, Array.replicate_succ, Array.replicate_zero, List.push_toArray, List.append_toArray, List.nil_append, List.cons_append]
  gi_wp2
  gi_loopw [3] (fun i wr => i = .int .i64 (-1) ∧ J [] wr) (fun _ _ => 0)
  case atStart => exact ⟨rfl, h0⟩
  case round =>
    obtain ⟨rfl, hJs⟩ := hrel
    gi_wp2
    go_end0
    exact ⟨⟨_, rfl⟩, hJs⟩

set_option maxHeartbeats 1000000 in
/-- slices.Backward(s): the slice value is boxed; the function value captures the box. -/
theorem back_in (F : Fence) (n : Nat) (hF : F.fn 56) (hro : F.round = none) (a : Option Addr) (len cap : Nat) (w : World) :
    CallsIn F n Try.prog 56 #[.slice a len cap] w fun e w' => e = .returned (.func (.func 63) #[] #[.pointer (some ⟨w.heap.size, 0, none⟩)]) ∧ w' = w.alloc (.cells #[.slice a len cap] 90) := by
  refine callsIn_of_wp Try.func56 rfl hF ?_ hro
  simp only [Try.ntmps56, List.size_toArray, List.length_cons, List.length_nil, Nat.reduceAdd, Nat.reduceSub, Array.replicate_succ, Array.replicate_zero, List.push_toArray, List.append_toArray, List.nil_append, List.cons_append]
  gi_wp2
  go_ret
  exact ⟨rfl, rfl⟩

theorem back_stops {α : Type} {encs : α → Array Value} {S : List α} (F : Fence) (n : Nat) (hF : F.fn 63) (hro : F.round = none) (hn : 1 ≤ n) (Bs : Nat) (sv : Value) (es : List (Int × Int)) (hH : Handed encs S es) (hlen : es.length ≤ 1000000000000)
    (w : World) (hBs : w.cell? ⟨Bs, 0, none⟩ = some sv) (hsv : sv = .slice none 0 0 ∧ es = [] ∨ ∃ b off cap, sv = .slice (some ⟨b, off, none⟩) es.length cap ∧ b < w.heap.size ∧
      ∀ j, j < es.length → w.cell? ⟨b, off + j * 2, none⟩ = some (i64 (eAt es j).1) ∧ w.cell? ⟨b, off + j * 2 + 1, none⟩ = some (i64 (eAt es j).2))
    (Kp : World → World → Prop) (hKp : ∀ A B, Kp A B → (∀ b off cap, sv = .slice (some ⟨b, off, none⟩) es.length cap → B.heap[b]? = A.heap[b]?) ∧ B.heap[Bs]? = A.heap[Bs]?) :
    SeqStopsK F n Try.prog 63 #[.pointer (some ⟨Bs, 0, none⟩)] encs Kp (fun ys => ys = S)
      (fun pre => ∃ k, k ≤ es.length ∧ pre = S.take k) es.length w := fun l J Jx W hW _ _ hY h0 => by
  have hc' := (hW.cell (p := ⟨Bs, 0, none⟩) (World.block_lt_of_cell? w _ hBs)).trans hBs
  rcases hsv with ⟨rfl, rfl⟩ | ⟨b, off, cap, rfl, hb, hcs⟩
  · exact (back1_nil_in F n hF hro l Bs J W hc' h0).mono fun e W' ⟨he, hj⟩ => ⟨he, .inl ⟨_, rfl, by rw [List.eq_nil_of_length_eq_zero hH.1]; exact hj⟩⟩
  · refine back1_in F n hF hro hn l Bs b off cap es hH hlen Kp (fun A B h => ⟨(hKp A B h).1 b off cap rfl, (hKp A B h).2⟩) J Jx hY W hc' (fun j hj => ?_) h0
    exact ⟨(hW.cell (p := ⟨b, off + j * 2, none⟩) hb).trans (hcs j hj).1, (hW.cell (p := ⟨b, off + j * 2 + 1, none⟩) hb).trans (hcs j hj).2⟩

end Go.Proofs.Ytkalpgngoijdmaa
