/- Regions that draw their order inside a round of a range over a function: the plain laws carried over. Program independent. -/
import Derived.RangeFuncNested
import Derived.RangeFuncBound
import Derived.RangeFuncCalls
import Derived.RangeFuncLeaves
import Derived.Shelf.Abstract
import Derived.OwnWalkIn
import Derived.TacticsInMore
import Derived.LoopNIn
import Derived.LoopIn
import Derived.StillTailTactics
namespace Go.Sl
open Go Go.RowKit

section
variable {P : Program} {n r : Nat} {Q : Exit → Act → World → Prop}

def noDefer (ops : Array Oper) : Bool := ops.all fun o => match o.op with | .defer _ => false | _ => true
theorem noDefer_spec {ops : Array Oper} (h : noDefer ops = true) {i : Nat} {o : Oper} (hi : ops[i]? = some o) : ∀ c, o.op ≠ .defer c := by
  intro c hc
  have := (Array.all_eq_true.1 h) i (Array.getElem?_eq_some_iff.1 hi).1
  rw [(Array.getElem?_eq_some_iff.1 hi).2, hc] at this
  cases this

theorem rowsIn_of_rows {row : String} {args : Array Value} {w : World} {R : Value → World → Prop} (h : Rows P row args w R) : RowsIn Fence.wide n P row args w R :=
  fun c cs _ => let ⟨v, w', r, s⟩ := h c cs; ⟨v, w', r, stepsIn_wide.2 s⟩

theorem Oper.wpIn_of_wp {o : Oper} {a : Act} {w : World} {K K' : Act → World → Prop} (hd : ∀ c, o.op ≠ .defer c) (hK : ∀ a w, K a w → K' a w) (h : o.wp P a w K Q) :
    o.wpIn (Fence.wide.inRound r) n P a w K' Q := by
  refine ⟨fun _ _ => trivial, ?_⟩
  rw [Oper.semAt_eq _ _ _ hd]
  unfold Oper.wp at h
  generalize (execOp a.eval o).run P w = res at h
  cases res with
  | halt x w' => cases x <;> first | exact h | exact h.elim
  | ok x w' =>
    cases x with
    | value v => exact hK _ _ h
    | skip => exact hK _ _ h
    | defer d => exact hK _ _ h
    | enter f args =>
      refine ⟨fun h => by simp [Fence.wide, Fence.inRound] at h, (callsIn_wide (n := n - 1)).2 (Calls.mono h fun e w'' he => ?_)⟩
      cases e with
      | returned v => exact hK _ _ he
      | panicked c => exact he
      | outgrown => exact he
    | row row args => exact ⟨fun h => by simp [Fence.wide, Fence.inRound] at h, rowsIn_of_rows (n := n - 1) (Rows.mono h fun v w'' he => hK _ _ he)⟩
    | _ => exact h.elim

theorem wpOps_round {ops : Array Oper} (hnd : noDefer ops = true) (hno : ¬ LetsOut Q) : ∀ (l : List Nat) (a : Act) (w : World), wpOps P ops Q l a w → wpOpsIn (Fence.wide.inRound r) n P ops Q l a w
  | [], _, _, h => h
  | i :: rest, a, w, h => by
    simp only [wpOps, wpOpsIn] at h ⊢
    cases ho : ops[i]? with
    | none => simp only [ho] at h ⊢; exact wpOps_round hnd hno rest a w h
    | some o =>
      simp only [ho] at h ⊢
      by_cases hw : Region.wanted o (yielded ops a.tmps) = true
      · simp only [hw, if_true] at h ⊢
        rcases h with h | h
        · exact Oper.wpIn_of_wp (noDefer_spec hnd ho) (fun a w => wpOps_round hnd hno rest a w) h
        · exact absurd h.2 hno
      · simp only [hw, if_false, Bool.false_eq_true] at h ⊢
        exact ⟨fun _ _ => trivial, wpOps_round hnd hno rest _ w h⟩

theorem wpIn_region_of_any {id : Nat} {ops : Array Oper} {a : Act} {w : World} (hm : P.follows .mixedOrders = true) (hnd : noDefer ops = true) (hno : ¬ LetsOut Q)
    (h : wpAny P .any ops Q ops.size (Array.replicate ops.size false) a { w with drawn := w.drawn + 1 }) : (Code.region id ops true).wpIn (Fence.wide.inRound r) n P Q a w :=
  wpIn_region_draw fun t => wpOps_round hnd hno _ _ _ (by
    simp only [Region.schedule, hm, Bool.true_or, if_true]
    exact wpAny_sound ops.size t _ a _ h)

theorem wpIn_region_still_tail {id : Nat} {a : Act} {w : World} {l : List Oper} (m : Nat) (hm : P.follows .mixedOrders = true) (hnd : noDefer l.toArray = true) (hno : ¬ LetsOut Q) (hB : Region.lexTailB .any l.toArray m = true)
    (h : wpStill P l.toArray { w with drawn := w.drawn + 1 } (fun a' => wpList P l.toArray Q (l.drop m) a' { w with drawn := w.drawn + 1 }) (l.take m) a) : (Code.region id l.toArray true).wpIn (Fence.wide.inRound r) n P Q a w := by
  simp only [Region.lexTailB, Bool.and_eq_true, decide_eq_true_eq] at hB
  obtain ⟨⟨⟨⟨hsel, hn⟩, hs⟩, hc⟩, hlex⟩ := hB
  have hn' : m < l.length := by simpa using hn
  have htl : (l.take m).length = m := by simp; omega
  have hdl : (l.drop m).length = l.toArray.size - m := by simp
  have inv0 : HeadInv .any l.toArray m (Array.replicate l.toArray.size false) :=
    ⟨by simp, fun j oj _ hl => (by rw [getD_replicate_false] at hl; cases hl), fun t _ ht => getD_in (by simpa using ht) (getD_replicate_false _ _)⟩
  have H := wpAnyL_lex (md := .any) (g := l.toArray.size - m) hsel hs hc hn (l.take m) 0 _ a (fun j hj => by
    have hj' : j < m := by rw [htl] at hj; exact hj
    simp [hj']) (by simpa using htl) inv0 (by rw [htl]; exact hlex) h
  refine wpIn_region_of_any hm hnd hno ?_
  have := wpAny_of_head (Q' := Q) (g := l.toArray.size - m) (fun listed a' hL => by
    have := wpAny_of_seq (md := .any) (Q' := Q) (l.drop m) m listed a' { w with drawn := w.drawn + 1 } (fun j => by simp [List.getElem?_drop]) (by rw [hdl]; exact hL.1) hL.2
    rwa [hdl] at this) _ _ _ H
  rw [htl, show m + (l.toArray.size - m) = l.toArray.size by omega] at this
  exact this
end
end Go.Sl
