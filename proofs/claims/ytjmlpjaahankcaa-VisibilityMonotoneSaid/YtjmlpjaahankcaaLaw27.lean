/- What the laws of the package start from. -/
import Derived.Test.YtjmlpjaahankcaaSet27
import Derived.Test.YtjmlpjaahankcaaLives
import Derived.Test.YtjmlpjaahankcaaDag
import Derived.Test.YtjmlpjaahankcaaPoint
import Derived.Test.YtjmlpjaahankcaaRoomsAll
import Derived.Test.YtjmlpjaahankcaaCells
import Derived.Test.YtjmlpjaahankcaaSeenR
namespace Go.Proofs.Ytjmlpjaahankcaa
open Go.RowKit Go.Sl

variable {w : World} {L : List Asn}

theorem SameInts_self {u v : Value} {l : List Int} (h : readsI w u l) (h' : readsI w v l) (hl : l.length ≤ 1000000000000) :
    Calls Try.prog 14 #[u, v] w fun e w' => e = .returned (.bool true) ∧ ∃ n, w' = w.drewN n := by
  have := SameInts_spec h h' hl hl
  rw [sameE_self] at this
  exact this
theorem Su.reads {s : Su} (h : Sep w (s.parts ++ L)) : s.st.Reads w := ⟨(h.pick 2).heldReads, (h.pick 3).heldReads⟩
theorem Su.bodiesRead {s : Su} (h : Sep w (s.parts ++ L)) : readsAs w 9 s.st.bodiesV s.bodies.length (bdcells s.bodies) := Sep.heldReads (L := _) h
theorem Su.Good27.fine {s : Su} (h : s.Good27) : s.st.Fine := ⟨by have := h.rooms; omega, by have := h.doors; omega, h.valid⟩
theorem Su.oldPart {s : Su} {w0 : World} (h : Sep w (s.parts ++ [old w0])) : Sep w [old w0] := (h.pick 4).one'
theorem St.Reads.of_heap {w W : World} {s : St} (h : s.Reads w) (hk : ∀ k, k < w.heap.size → W.heap[k]? = w.heap[k]?) : s.Reads W := ⟨h.rooms.of_heap hk, h.doors.of_heap hk⟩
theorem rebase {w w1 w2 : World} (h : Below w.heap.size w w1) (k : Below w1.heap.size w1 w2) : Below w.heap.size w w2 := h.trans (k.mono h.size)
theorem roomsI_length (s : St) (r : Int) : (roomsI s r).length ≤ s.rooms.length := by
  unfold roomsI
  split
  · exact keepL_length _ _
  · simp

theorem Su.Base.players_nat {s : Su} (h : s.Base) : ∃ p : Nat, s.st.players = p ∧ p ≤ 3 := ⟨s.st.players.toNat, by have := h.players; omega, by have := h.players; omega⟩
theorem Su.Base.near {s : Su} (h : s.Base) : ∀ b ∈ s.bodies, near b.px ∧ near b.py := fun b hb => by
  have := h.bodies b hb
  have h1 := this.px
  have h2 := this.py
  unfold Go.Proofs.Ytjmlpjaahankcaa.near
  omega
/-- All that Sees reads, wherever the cells and the setup's memory are there. -/
theorem seeing_of {s : Su} {w1 W : World} {cv : Value} {cs : List Int} {p : Nat} (hb : s.Base) (hf : s.st.Fine) (hfog : 0 ≤ s.st.fog ∧ s.st.fog ≤ 10000000) (hrd : s.st.Reads w1) (hp : s.st.players = p) (hna : nearAll p s.bodies.length cs)
    (hS : Sep W (rowI cv cs :: old w1 :: L)) : Seeing W s.st cv cs := by
  have hpl := hb.players
  have hm := hb.more
  have hfw := hb.few
  have hnb := hb.nb
  refine ⟨hrd.of_heap (hS.pick 1).oldGet, hf, hS.reads, by omega, by omega, by omega, ?_, hfog, ?_⟩
  · rw [hna.1, hp, hnb]; omega
  · intro i h0 h1
    have h := hna.2 i.toNat (by omega)
    have e : (bodyAt s.st i).toNat = 48 + 4 * p + 8 * i.toNat := by unfold bodyAt; rw [if_pos ⟨h0, h1⟩]; omega
    unfold posX posY
    rw [e]
    exact h
theorem seeing_at {s : Su} {W : World} {cv : Value} {cs : List Int} {p : Nat} (hb : s.Base) (hf : s.st.Fine) (hfog : 0 ≤ s.st.fog ∧ s.st.fog ≤ 10000000) (hrd : s.st.Reads W) (hp : s.st.players = p) (hna : nearAll p s.bodies.length cs)
    (hc : readsI W cv cs) : Seeing W s.st cv cs := by
  have hpl := hb.players
  have hm := hb.more
  have hfw := hb.few
  have hnb := hb.nb
  refine ⟨hrd, hf, hc, by omega, by omega, by omega, ?_, hfog, ?_⟩
  · rw [hna.1, hp, hnb]; omega
  · intro i h0 h1
    have h := hna.2 i.toNat (by omega)
    have e : (bodyAt s.st i).toNat = 48 + 4 * p + 8 * i.toNat := by unfold bodyAt; rw [if_pos ⟨h0, h1⟩]; omega
    unfold posX posY
    rw [e]
    exact h
theorem seenL_length (s : St) (cs : List Int) (p : Int) : (seenL s cs p).length ≤ s.nb := keepL_length _ _

end Go.Proofs.Ytjmlpjaahankcaa
