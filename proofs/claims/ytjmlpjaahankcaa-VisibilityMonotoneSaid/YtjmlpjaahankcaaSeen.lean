/- Contracts: Seen. -/
import Derived.Test.YtjmlpjaahankcaaSeesR2
namespace Go.Proofs.Ytjmlpjaahankcaa
open Go.RowKit Go.Sl

variable {w : World} {L : List Asn}

set_option maxRecDepth 100000 in
set_option maxHeartbeats 1000000 in
theorem SeenC_spec {s : St} {a : Option Addr} {n c : Nat} {cs : List Int} (h : Seeing w s (.slice a n c) cs) (b3 b4 : Nat) {W : World} {M : List Asn} {o : Obj} (ho : o = .cells (match s.val with | .agg x => x | _ => #[]) 31)
    (hS : Sep W (pts b3 o :: pts b4 (.cells #[.slice a n c] 22) :: old w :: M)) (p i : Int) :
    Calls Try.prog 40 #[i64 p, i64 i, .pointer (some ⟨b3, 0, none⟩), .pointer (some ⟨b4, 0, none⟩)] W fun e w' => e = .returned (.bool (seesB s cs p i)) ∧
      Sep w' (pts b3 o :: pts b4 (.cells #[.slice a n c] 22) :: old w :: M) ∧ Stable W w' := by
  have hSee : ∀ (U : World) (M : List Asn), Sep U (old w :: M) → Calls Try.prog 21 #[s.val, .slice a n c, i64 p, i64 i] U _ := fun U M hU => Sees_spec (h.of_heap hU.oldGet) p i
  have HC := Lib.hid hSee
  clear hSee h
  generalize seesB s cs p i = r at *
  obtain ⟨players, nb, ba, bc, x0, y0, x1, y1, rooms, ra, rc, doors, da, dc, fog, gx, gy, push, drag, rest, rounds, fuel⟩ := s
  dsimp only [St.val, St.doorsV] at *
  subst ho
  have c0 : W.cell? ⟨b4, 0, none⟩ = some (.slice a n c) := cell_of_blk (hS.pick 1).get 0
  have H := Lib.hid hS
  clear hS
  go_enter Try.func40, Try.ntmps40
  go_wp2_with (refine wpList_load_g 31 _ rfl _ rfl _ _ _ _ (Sep.get H.out) Try.underlying31 rfl (by kernel_rfl) (by first | rfl | (go_simp; done) | (go_simp; omega)) ?_)
  refine (HC.out _ _ (Sep.pick 2 H.out)).mono ?_
  rintro e w1 ⟨rfl, hS1, hst1⟩
  have H1 := Lib.hid (And.intro (H.out.mount hS1) hst1)
  clear hS1 hst1
  go_wp2_with fail
  go_ret
  exact ⟨rfl, H1.out.1, H1.out.2⟩

end Go.Proofs.Ytjmlpjaahankcaa
