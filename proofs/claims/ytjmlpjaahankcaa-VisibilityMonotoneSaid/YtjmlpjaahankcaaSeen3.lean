/- Contracts: Seen, both. -/
import Derived.Test.YtjmlpjaahankcaaSeen2
namespace Go.Proofs.Ytjmlpjaahankcaa
open Go.RowKit Go.Sl

variable {w : World} {L : List Asn}

def seenL (s : St) (cs : List Int) (p : Int) : List Int := keepL (fun i => seesB s cs p i) s.nb

set_option maxHeartbeats 1000000 in
theorem Seen_spec {s : St} {cv : Value} {cs : List Int} (h : Seeing w s cv cs) (p : Int) :
    Calls Try.prog 19 #[s.val, cv, i64 p] w fun e w' => ∃ v, e = .returned v ∧ Sep w' [rowI v (seenL s cs p), old w] ∧ Stable w w' := by
  obtain ⟨a, c, rfl⟩ := readsI_len h.cells
  have hnb := h.nb
  have hF := fun (b3 b4 : Nat) (W : World) (o : Obj) (ho : o = .cells (match s.val with | .agg x => x | _ => #[]) 31) (hS : Sep W [pts b3 o, pts b4 (.cells #[.slice a cs.length c] 22), old w]) => filterS_spec h b3 b4 ho hS p s.nb hnb
  have HF := Lib.hid hF
  clear hF h
  unfold seenL
  generalize (fun i : Nat => seesB s cs p i) = q at *
  obtain ⟨players, nb, ba, bc, x0, y0, x1, y1, rooms, ra, rc, doors, da, dc, fog, gx, gy, push, drag, rest, rounds, fuel⟩ := s
  dsimp only [St.val, St.doorsV] at *
  have hS0 := box2 (Sep.start w) (.cells #[i64 players, .slice ba nb bc, i64 x0, i64 y0, i64 x1, i64 y1, .slice ra rooms.length rc, .slice da doors.length dc, i64 fog, i64 gx, i64 gy, i64 push, i64 drag, i64 rest, i64 rounds, i64 fuel] 31) (.cells #[.slice a cs.length c] 22)
  have hst0 := ((Stable.refl w).alloc (.cells #[i64 players, .slice ba nb bc, i64 x0, i64 y0, i64 x1, i64 y1, .slice ra rooms.length rc, .slice da doors.length dc, i64 fog, i64 gx, i64 gy, i64 push, i64 drag, i64 rest, i64 rounds, i64 fuel] 31)).alloc (.cells #[.slice a cs.length c] 22)
  have H0 := Lib.hid (And.intro (hS0.pick 1) hst0)
  clear hS0 hst0
  go_enter Try.func19, Try.ntmps19
  go_wp2_with fail
  refine (HF.out _ _ _ _ rfl H0.out.1).mono ?_
  rintro e w1 ⟨v, rfl, hS1, hst1⟩
  have H1 := Lib.hid (And.intro hS1 (H0.out.2.trans hst1))
  clear hS1 hst1
  go_wp2_with fail
  go_ret
  exact ⟨_, rfl, H1.out.1, H1.out.2⟩

end Go.Proofs.Ytjmlpjaahankcaa
