/- Contracts: the reference's Seen. -/
import Derived.Test.YtjmlpjaahankcaaSeen3
namespace Go.Proofs.Ytjmlpjaahankcaa
open Go.RowKit Go.Sl

variable {w : World} {L : List Asn}

set_option maxHeartbeats 4000000 in
theorem SeenR_spec {s : St} {cv : Value} {cs : List Int} (h : Seeing w s cv cs) (p : Int) :
    Calls Try.prog 20 #[s.val, cv, i64 p] w fun e w' => ∃ v, e = .returned v ∧ Sep w' [rowI v (seenL s cs p), old w] ∧ Stable w w' := by
  obtain ⟨a, c, rfl⟩ := readsI_len h.cells
  obtain ⟨iI, hiI, hI0, hI1, hI2⟩ := info_parts infoI
  have hnb := h.nb
  have hC := fun (U : World) (M : List Asn) (hU : Sep U (old w :: M)) (i : Int) => SeesR_spec (h.of_heap hU.oldGet) p i
  have HC := Lib.hid hC
  clear hC h
  unfold seenL
  generalize hq : (fun i : Nat => seesB s cs p i) = q at *
  have hq2 : ∀ j : Nat, seesB s cs p j = q j := fun j => by rw [← hq]
  have HQ := Lib.hid hq2
  clear hq hq2
  obtain ⟨players, nb, ba, bc, x0, y0, x1, y1, rooms, ra, rc, doors, da, dc, fog, gx, gy, push, drag, rest, rounds, fuel⟩ := s
  dsimp only [St.val, St.doorsV] at *
  have H0 := Lib.hid (And.intro ((Sep.start w).alloc (.cells #[i64 players, .slice ba nb bc, i64 x0, i64 y0, i64 x1, i64 y1, .slice ra rooms.length rc, .slice da doors.length dc, i64 fog, i64 gx, i64 gy, i64 push, i64 drag, i64 rest, i64 rounds, i64 fuel] 31)) ((Stable.refl w).alloc (.cells #[i64 players, .slice ba nb bc, i64 x0, i64 y0, i64 x1, i64 y1, .slice ra rooms.length rc, .slice da doors.length dc, i64 fog, i64 gx, i64 gy, i64 push, i64 drag, i64 rest, i64 rounds, i64 fuel] 31)))
  go_enter Try.func20, Try.ntmps20
  go_wp2_with fail
  go_loopw [7, 8, 9] (fun o7 i u9 wr => ∃ j : Nat, j ≤ nb ∧ i = .int .i64 j ∧ Sep wr [rowI o7 (keepL q j), pts w.heap.size (.cells #[i64 players, .slice ba nb bc, i64 x0, i64 y0, i64 x1, i64 y1, .slice ra rooms.length rc, .slice da doors.length dc, i64 fog, i64 gx, i64 gy, i64 push, i64 drag, i64 rest, i64 rounds, i64 fuel] 31), old w] ∧ Stable w wr) (fun _ i _ _ => nb - (intOf i).toNat)
  case atStart => exact ⟨0, Nat.zero_le _, rfl, H0.out.1.addNil _ _, H0.out.2⟩
  case round =>
    obtain ⟨j, hj, rfl, hSr, hst⟩ := hrel
    have hkl := keepL_length q j
    have c1 : wr.cell? ⟨w.heap.size, 1, none⟩ = some (.slice ba nb bc) := cell_of_blk (hSr.pick 1).get 1
    have HR := Lib.hid (And.intro hSr hst)
    clear hSr hst
    by_cases hlt : j < nb
    · have hsuc := keepL_succ q j
      have hbit := HC.out wr _ (HR.out.1.pick 2) (j : Int)
      rw [HQ.out j] at hbit
      have HB := Lib.hid hbit
      clear hbit
      cases hb : q j
      · rw [hb] at hsuc HB
        rw [if_neg (by simp)] at hsuc
        have HSU := Lib.hid hsuc
        clear hsuc hb
        go_wp2_with (refine wpList_load_g 31 _ rfl _ rfl _ _ _ _ (Sep.get (Sep.pick 1 HR.out.1)) Try.underlying31 rfl (by kernel_rfl) (by first | rfl | (go_simp; done) | (go_simp; omega)) ?_)
        refine HB.out.mono ?_
        rintro e w2 ⟨rfl, hS2, hst2⟩
        have H2 := Lib.hid (And.intro (HR.out.1.mount hS2) (HR.out.2.trans hst2))
        clear hS2 hst2
        go_wp2_with fail
        exact ⟨⟨j + 1, by omega, by go_num, by rw [HSU.out]; exact H2.out.1, H2.out.2⟩, by simp [intOf]; omega⟩
      · rw [hb] at hsuc HB
        rw [if_pos rfl] at hsuc
        have HSU := Lib.hid hsuc
        clear hsuc hb
        go_wp2_with (refine wpList_load_g 31 _ rfl _ rfl _ _ _ _ (Sep.get (Sep.pick 1 HR.out.1)) Try.underlying31 rfl (by kernel_rfl) (by first | rfl | (go_simp; done) | (go_simp; omega)) ?_)
        refine HB.out.mono ?_
        rintro e w2 ⟨rfl, hS2, hst2⟩
        have hS3 := (HR.out.1.mount hS2).allocBeside (.cells #[i64 j] 3)
        have H2 := Lib.hid (HR.out.2.trans hst2)
        clear hS2 hst2
        go_wp2_with (at_builtin; refine wpList_append_sep rfl _ _ 22 22 rfl 3 iI _ 1 8 Try.underlying22 hiI hI0 hI1 hI2 rfl _ _ _ rfl hS3 1 [i64 j] (Src.ofSlice _ Try.underlying22 ⟨_, 0, none⟩ 1 1 _ rfl (fun j u hu => by rw [Addr.add_lit]; simpa using hu) (ints_one [(j : Int)])) (by unfold maxLen; omega) (by omega) ?_; intro v3 w3 hS4 hst4 hn4)
        exact ⟨⟨j + 1, by omega, by go_num, by rw [HSU.out]; exact rowI_app (l' := [(j : Int)]) hS4 rfl rfl, (H2.out.alloc _).trans hst4⟩, by simp [intOf]; omega⟩
    · obtain rfl : j = nb := by omega
      clear hlt
      go_wp2_with fail
      go_ret
      exact ⟨_, rfl, (HR.out.1.pick 1).drop, HR.out.2⟩

end Go.Proofs.Ytjmlpjaahankcaa
