/- Contracts: Field. -/
import Derived.Test.YtkalpgngoijdmaaVec
import Derived.Maps.OwnSet
import Derived.Maps.Views
import Derived.StringKeys
namespace Go.Proofs.Ytkalpgngoijdmaa
open Go.RowKit Go.Sl Go.Maps Go.WideMaps

/-- A map literal's entry. -/
theorem wpList_insert_own {H : Type} {P : Program} (w : World) {ops : Array Oper} {rest : List Oper} {o : Oper} {a : Act} {Q : Exit → Act → World → Prop}
    (hg : o.guard = none) (m x v : Operand) (t : TypeId) (hop : o.op = Op.insert t m x v)
    (k e : TypeId) (K : Keyed P k) (ht : P.underlying t = some (.map k e)) (R : Value → Option (DataW H × List MemPlace)) (b n : Nat) (D : DataW H)
    (hm : a.eval m = .map (some b)) (hown : w.ownsMap P k R b n D) (hn : n < maxLen) (key val : Value) (kl : Lit) (hx : a.eval x = key) (hv : a.eval v = val) (hkey : keyOf P k key = some kl)
    (d : DataW H) (ps : List MemPlace) (hval : R val = some (d, ps))
    (hK : ∀ w', w'.ownsMap P k R b (n + 1) (D.put kl d) → w.grownBy w' (some b) → wpList P ops Q rest (a.put o.dst undef) w') :
    wpList P ops Q (o :: rest) a w := by
  refine wpList_plain hg fun K' hK' => ?_
  obtain ⟨w', hrun, r1, r2⟩ := hown.update K ht hn hkey hval
  unfold Oper.wp
  simp [execOp, hop, hm, hx, hv, hrun, Result.andThen]
  exact hK' _ _ (hK w' r1 r2)

theorem lawS : Keyed Try.prog 9 := string_keyed Try.underlying9
theorem zeroI (w : World) : (zeroValue 3).run Try.prog w = .ok (.int .i64 0) w := by kernel_rfl

/-- The names, the last one first. -/
def fNames : List (List UInt8 × Int) := [([115, 116, 105, 108, 108], 7), ([104, 105, 116], 6), ([98], 5), ([97], 4), ([118, 121], 3), ([118, 120], 2), ([121], 1), ([120], 0)]
def fOf : List (List UInt8 × Int) → List UInt8 → Int
  | [], _ => -1
  | e :: r, s => if s = e.1 then e.2 else fOf r s
def dOf : List (List UInt8 × Int) → DataW Unit
  | [] => .map []
  | e :: r => (dOf r).put (.string e.1) (.lit (.int .i64 e.2))
theorem dOf_map : ∀ r, IsMap (dOf r)
  | [] => ⟨_, rfl⟩
  | e :: r => by
    obtain ⟨es, h⟩ := dOf_map r
    unfold dOf
    rw [h]
    exact ⟨_, rfl⟩
theorem d_has (s : List UInt8) : ∀ {r : List (List UInt8 × Int)}, (∀ e ∈ r, 0 ≤ e.2) → has (dOf r) (.string s) = decide (fOf r s ≠ -1)
  | [], _ => by simp [dOf, has, fOf]
  | e :: r, h => by
    have ih := d_has s (r := r) (fun x hx => h x (by simp [hx]))
    unfold dOf fOf
    by_cases hs : s = e.1
    · rw [if_pos hs, hs, has_put_same (k := .string e.1) (dOf_map r) trivial]
      have := h e (by simp)
      exact (decide_eq_true (by omega)).symm
    · rw [if_neg hs, has_put_other (by simpa using hs), ih]
theorem d_at (s : List UInt8) (z : DataW Unit) : ∀ {r : List (List UInt8 × Int)}, fOf r s ≠ -1 → (dOf r).atKey (.string s) z = .lit (.int .i64 (fOf r s))
  | [], h => absurd rfl h
  | e :: r, h => by
    unfold dOf fOf
    unfold fOf at h
    by_cases hs : s = e.1
    · rw [if_pos hs, hs, atKey_put_same (k := .string e.1) (dOf_map r) trivial]
    · rw [if_neg hs] at h ⊢
      rw [atKey_put_other (by simpa using hs), d_at s z h]
/-- The offset of a field, or -1. -/
def fieldAt (s : ByteArray) : Int := fOf fNames s.data.toList

theorem szle (s : ByteArray) (h : s.size ≤ 100) : s.size ≤ maxLen := by unfold maxLen; omega
theorem grown_old {w W W' : World} {b : Nat} (h : Sep W [old w] ∧ Stable w W) (hg : W.grownBy W' (some b)) (hb : w.heap.size ≤ b) : Sep W' [old w] ∧ Stable w W' :=
  ⟨(Sep.start w).same (fun k hk => (hg.block k (Nat.lt_of_lt_of_le hk h.2.size) (by simp; omega)).trans (h.1.oldGet k hk)), h.2.grown hg⟩

set_option maxRecDepth 100000 in
set_option maxHeartbeats 4000000 in
theorem Field_spec (s : ByteArray) (hs : s.size ≤ maxLen) (w : World) :
    Calls Try.prog 23 #[.string s] w fun e w' => e = .returned (i64 (fieldAt s)) ∧ Sep w' [old w] ∧ Stable w w' := by
  have hown : (w.alloc (.map #[] 0)).ownsMap Try.prog 9 (plainElem Try.prog 3) w.heap.size 0 (dOf []) := World.ownsMap_made w _ _ _
  have hF : Sep (w.alloc (.map #[] 0)) [old w] ∧ Stable w (w.alloc (.map #[] 0)) := ⟨(Sep.start w).allocBeside _, (Stable.refl w).alloc _⟩
  have hkey := keyOf_string_mk (P := Try.prog) Try.underlying9 hs
  have hh := d_has s.data.toList (r := fNames) (by unfold fNames; simp)
  have hat := d_at s.data.toList (.lit (.int .i64 0)) (r := fNames)
  have HH := Lib.hid (And.intro hh hat)
  clear hh hat
  have hmm := @run_makeMap Try.prog
  go_enter Try.func23, Try.ntmps23
  go_wp2_with (first
    | (at_lookup; refine wpList_lookup_own_ok_int _ rfl _ _ 81 rfl 9 3 .i64 lawS Try.underlying81 Try.underlying3 (zeroI _) w.heap.size _ _ rfl hown _ _ rfl hkey ?_; intro c hat hwc)
    | (refine wpList_insert_own _ rfl _ _ _ 81 rfl 9 3 lawS Try.underlying81 _ w.heap.size _ _ rfl hown (by unfold maxLen; omega) _ _ _ rfl rfl (keyOf_string_mk Try.underlying9 (szle _ (by decide))) _ [] (plainElem_int Try.underlying3 (WalkArith.wf_i64 (by omega))) ?_; clear hown; intro W1 hown hgr; replace hF := grown_old hF hgr (by omega); clear hgr))
  · rename_i hh
    have h1 := of_decide_eq_true (HH.out.1.symm.trans hh)
    have h2 := (HH.out.2 h1).symm.trans hat
    have h3 : fieldAt s = c := by simpa [fieldAt] using h2
    have HF := Lib.hid (And.intro hF h3)
    clear hh h1 h2 h3 hat hwc hF
    go_ret
    exact ⟨(congrArg (fun c => Ending.returned (i64 c)) HF.out.2).symm, HF.out.1.1, HF.out.1.2⟩
  · rename_i hh
    have h1 := of_decide_eq_false (HH.out.1.symm.trans hh)
    have h3 : fieldAt s = -1 := Classical.not_not.1 h1
    have HF := Lib.hid (And.intro hF h3)
    clear hh h1 h3 hF
    go_ret
    exact ⟨(congrArg (fun c => Ending.returned (i64 c)) HF.out.2).symm, HF.out.1.1, HF.out.1.2⟩

end Go.Proofs.Ytkalpgngoijdmaa
