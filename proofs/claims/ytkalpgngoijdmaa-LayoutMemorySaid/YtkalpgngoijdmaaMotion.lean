/- Contracts: the motion of a body, its place. -/
import Derived.Test.YtkalpgngoijdmaaInit
import Derived.StillTailTactics
namespace Go.Proofs.Ytkalpgngoijdmaa
open Go.RowKit Go.Sl

variable {w : World} {L : List Asn}

set_option maxRecDepth 100000 in
set_option maxHeartbeats 4000000 in
theorem Motion_in (s : Su) (hp : 0 ≤ s.st.players ∧ s.st.players ≤ 1000) (hnb : s.st.nb = s.bodies.length) (hn5 : s.bodies.length ≤ 1000) (h : readsBd w s.st.bodiesV s.bodies) {cv : Value} {cs : List Int} (hr : readsI w cv cs) (k n : Nat) (hk : k < s.bodies.length) (hn : bodyAt s.st k = n) (hlen : n + 8 ≤ cs.length) :
    Calls Try.prog 28 #[s.st.val, cv, i64 k] w fun e w' => e = .returned (.agg #[i64 (cs.getD n 0), i64 (cs.getD (n + 1) 0), i64 (cs.getD (n + 2) 0), i64 (cs.getD (n + 3) 0), i64 (s.bodies.getD k bd0).im]) ∧ Sep w' [old w] ∧ Stable w w' := by
  have hB := fun W => Body_spec s.st k hp (by omega) W
  rw [hn] at hB
  have hnn : n ≤ 100000 := by have := hn; unfold bodyAt at this; rw [if_pos (by omega)] at this; omega
  obtain ⟨b, off, cap, rfl, hc1, hc2, hc⟩ := readsI_at hr (by omega)
  have e0 := hc n (by omega)
  have e1 := hc (n + 1) (by omega)
  have e2 := hc (n + 2) (by omega)
  have e3 := hc (n + 3) (by omega)
  have hbl := World.block_lt_of_cell? w _ e0
  generalize cs.getD n 0 = m0 at *
  generalize cs.getD (n + 1) 0 = m1 at *
  generalize cs.getD (n + 2) 0 = m2 at *
  generalize cs.getD (n + 3) 0 = m3 at *
  obtain ⟨s, bodies⟩ := s
  dsimp only at *
  obtain ⟨bb, boff, bcap, hv, hbbl, hcb⟩ := readsBd_at h (by omega)
  have e6 := hcb k hk 6 _ rfl
  generalize hbd : bodies.getD k bd0 = bd at *
  generalize bd.im = im at *
  have HE := Lib.hid (And.intro e0 (And.intro e1 (And.intro e2 (And.intro e3 e6))))
  have HB := Lib.hid hB
  clear e0 e1 e2 e3 e6 hB hc hr hcb h hn
  obtain ⟨players, nb, ba, bc, x0, y0, x1, y1, rooms, ra, rc, doors, da, dc, fog, gx, gy, push, drag, rest, rounds, fuel⟩ := s
  dsimp only [St.val, St.doorsV, St.bodiesV] at *
  subst hnb
  obtain ⟨rfl, rfl⟩ : ba = some ⟨bb, boff, none⟩ ∧ bc = bcap := by simpa using hv
  clear hv
  obtain ⟨N, hN⟩ : ∃ N : Nat, N = cs.length := ⟨_, rfl⟩
  rw [← hN] at hlen hc1 ⊢
  clear hN
  have g1 : decide ((N : Int) < (n : Int) + 8) = false := by rw [decide_eq_false_iff_not]; omega
  have g2 : decide ((n : Int) < 0) = false := by rw [decide_eq_false_iff_not]; omega
  have H0 := Lib.hid (And.intro (((Sep.start w).alloc (.cells #[i64 players, .slice (some ⟨bb, boff, none⟩) bodies.length bc, i64 x0, i64 y0, i64 x1, i64 y1, .slice ra rooms.length rc, .slice da doors.length dc, i64 fog, i64 gx, i64 gy, i64 push, i64 drag, i64 rest, i64 rounds, i64 fuel] 31)).alloc (.cells #[i64 0, i64 0, i64 0, i64 0, i64 0] 50)) (((Stable.refl w).alloc (.cells #[i64 players, .slice (some ⟨bb, boff, none⟩) bodies.length bc, i64 x0, i64 y0, i64 x1, i64 y1, .slice ra rooms.length rc, .slice da doors.length dc, i64 fog, i64 gx, i64 gy, i64 push, i64 drag, i64 rest, i64 rounds, i64 fuel] 31)).alloc (.cells #[i64 0, i64 0, i64 0, i64 0, i64 0] 50)))
  go_enter Try.func28, Try.ntmps28
  go_wp2_with (refine wpList_load_g 31 _ rfl _ rfl _ _ _ _ (Sep.get (H0.out.1.pick 1)) Try.underlying31 rfl (by kernel_rfl) (by first | rfl | (go_simp; done) | (go_simp; omega)) ?_)
  refine (HB.out _).mono ?_
  rintro e w2 ⟨rfl, hS2, hst2⟩
  have hS3 := H0.out.1.mount hS2
  have hst3 := H0.out.2.trans hst2
  simp only [World.size_alloc] at hS3
  have d1 : w2.cell? ⟨w.heap.size, 1, none⟩ = some (.slice (some ⟨bb, boff, none⟩) bodies.length bc) := cell_of_blk (hS3.pick 1).get 1
  have d0 : w2.cell? ⟨b, off + n, none⟩ = some (i64 m0) := (World.cell?_of_block (a := ⟨b, off + n, none⟩) ((hS3.pick 2).oldGet b hbl)).trans HE.out.1
  have d2 : w2.cell? ⟨b, off + n + 1, none⟩ = some (i64 m1) := (World.cell?_of_block (a := ⟨b, off + (n + 1), none⟩) ((hS3.pick 2).oldGet b hbl)).trans HE.out.2.1
  have d3 : w2.cell? ⟨b, off + n + 2, none⟩ = some (i64 m2) := (World.cell?_of_block (a := ⟨b, off + (n + 2), none⟩) ((hS3.pick 2).oldGet b hbl)).trans HE.out.2.2.1
  have d4 : w2.cell? ⟨b, off + n + 3, none⟩ = some (i64 m3) := (World.cell?_of_block (a := ⟨b, off + (n + 3), none⟩) ((hS3.pick 2).oldGet b hbl)).trans HE.out.2.2.2.1
  have d6 : w2.cell? ⟨bb, boff + k * 9 + 6, none⟩ = some (i64 im) := (World.cell?_of_block (a := ⟨bb, boff + k * 9 + 6, none⟩) ((hS3.pick 2).oldGet bb hbbl)).trans HE.out.2.2.2.2
  have H3 := Lib.hid (And.intro hS3 hst3)
  have hne : ¬ (cap = n) := by omega
  have q1 : (n + 8 : Nat) - n = 8 := by omega
  have HQ := Lib.hid (And.intro hne q1)
  clear hS2 hst2 hS3 hst3 q1
  go_upto_region 5 with fail
  have q1 : n + 8 - n = 8 := by omega
  go_still_tail 22, (by kernel_rfl)
  refine wpList_store_sep rfl 50 _ _ rfl (w.heap.size + 1) #[i64 m0, i64 m1, i64 m2, i64 m3, i64 im] rfl rfl (Sep.drew H3.out.1) (by kernel_rfl) rfl (by kernel_rfl) ?_
  intro w5 hS5 hst5
  go_wp2_with fail
  refine bodyPost_ret (v := .agg _) (bodyPost_cell Try.results28 rfl hS5 Try.underlying50 rfl (by kernel_rfl)) rfl ?_
  exact ⟨rfl, (hS5.pick 2).one', H3.out.2.drew.trans hst5⟩

end Go.Proofs.Ytkalpgngoijdmaa
