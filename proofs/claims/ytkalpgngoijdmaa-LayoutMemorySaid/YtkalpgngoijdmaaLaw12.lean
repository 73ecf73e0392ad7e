/- What the laws of layer 12 start from. -/
import Derived.Test.YtkalpgngoijdmaaLives
import Derived.Test.YtkalpgngoijdmaaPos
import Derived.Test.YtkalpgngoijdmaaMotion
import Derived.Test.YtkalpgngoijdmaaDag
import Derived.Test.YtkalpgngoijdmaaInit
import Derived.Deep.CutRange
namespace Go.Proofs.Ytkalpgngoijdmaa
open Go.RowKit Go.Sl

variable {w : World} {L : List Asn}

theorem SameInts_self {u v : Value} {l : List Int} (h : readsI w u l) (h' : readsI w v l) (hl : l.length ≤ 1000000000000) :
    Calls Try.prog 31 #[u, v] w fun e w' => e = .returned (.bool true) ∧ ∃ n, w' = w.drewN n := by
  have := SameInts_spec h h' hl hl
  rw [sameE_self] at this
  exact this
theorem Su.bodiesRead {s : Su} (h : Sep w (s.parts ++ L)) : readsAs w 9 s.st.bodiesV s.bodies.length (bdcells s.bodies) := Sep.heldReads (L := _) h
theorem Su.oldPart {s : Su} {w0 : World} (h : Sep w (s.parts ++ [old w0])) : Sep w [old w0] := (h.pick 4).one'
theorem rebase {w w1 w2 : World} (h : Below w.heap.size w w1) (k : Below w1.heap.size w1 w2) : Below w.heap.size w w2 := h.trans (k.mono h.size)
theorem Su.Base.players_nat {s : Su} (h : s.Base) : ∃ p : Nat, s.st.players = p ∧ p ≤ 3 := ⟨s.st.players.toNat, by have := h.players; omega, by have := h.players; omega⟩

end Go.Proofs.Ytkalpgngoijdmaa
