/- Contracts: arenanetref27.Setup. -/
import Derived.Test.YtjmlpjaahankcaaPick
import Derived.Test.YtjmlpjaahankcaaMore
import Derived.Test.YtjmlpjaahankcaaSetup
import Derived.StillTailTactics
namespace Go.Proofs.Ytjmlpjaahankcaa
open Go.RowKit Go.Sl

variable {w : World} {L : List Asn}

/-- A setup with rooms, doors and fog made from numbers. -/
structure Su.Good27 (s : Su) : Prop where
  base : s.Base
  rooms : s.st.rooms.length ≤ 5
  doors : s.st.doors.length ≤ 5
  valid : ∀ d ∈ s.st.doors, 0 ≤ d.1 ∧ d.1 < s.st.rooms.length ∧ 0 ≤ d.2 ∧ d.2 < s.st.rooms.length
  fog : 0 ≤ s.st.fog ∧ s.st.fog ≤ 4194304
  head : s.st.ra = none ∨ ∃ g, s.st.ra = some ⟨g, 0, none⟩

theorem infoBx : (Try.prog.info? 25).map (fun i => (i.zero, i.size, i.bytes)) = some (some (.agg #[i64 0, i64 0, i64 0, i64 0]), 4, 32) := by kernel_rfl
theorem infoDr : (Try.prog.info? 51).map (fun i => (i.zero, i.size, i.bytes)) = some (some (.agg #[i64 0, i64 0]), 2, 16) := by kernel_rfl
theorem bcells_snoc (l : List Bx) (b : Bx) : bcells (l ++ [b]) = bcells l ++ [i64 b.1, i64 b.2.1, i64 b.2.2.1, i64 b.2.2.2] := by simp [bcells]
theorem dcells_snoc (l : List Dr) (b : Dr) : dcells (l ++ [b]) = dcells l ++ [i64 b.1, i64 b.2] := by simp [dcells]

set_option maxRecDepth 100000 in
set_option maxHeartbeats 8000000 in
theorem Setup27_spec {u v : Value} {l rs : List Int} (hr : readsI w u l) (hl : ∀ x ∈ l, inI64 x) (hlen : l.length ≤ 9223372036854775807) (hr2 : readsI w v rs) (hrs : ∀ x ∈ rs, inI64 x) (hlen2 : rs.length ≤ 9223372036854775807) :
    Calls Try.prog 10 #[u, v] w fun e w' => ∃ s : Su, e = .returned s.st.val ∧ s.Good27 ∧ Sep w' (s.parts ++ [old w]) ∧ Stable w w' := by
  have hcell : ∀ k, k < rs.length → ∃ b off cap, v = .slice (some ⟨b, off, none⟩) rs.length cap ∧ w.cell? ⟨b, off + k, none⟩ = some (i64 (rs.getD k 0)) ∧ b < w.heap.size := fun k hk => by
    obtain ⟨b, off, cap, hv, _, _, hc⟩ := readsI_at hr2 (by omega)
    exact ⟨b, off, cap, hv, hc k hk, World.block_lt_of_cell? w _ (hc k hk)⟩
  have hmem : ∀ k, k < rs.length → inI64 (rs.getD k 0) := fun k hk => hrs _ (by rw [show rs.getD k 0 = rs[k] by simp [List.getD, hk]]; exact List.getElem_mem hk)
  have hSet : ∀ (W : World), (∀ k, k < w.heap.size → W.heap[k]? = w.heap[k]?) → Calls Try.prog 28 #[u] W (fun e w' => ∃ s : Su, e = .returned s.st.val ∧ s.Good ∧ Sep w' (s.parts ++ [old W]) ∧ Stable W w') := fun W hk =>
    Setup12_spec (hr.of_heap hk) hl hlen
  have hPick : ∀ (W : World), (∀ k, k < w.heap.size → W.heap[k]? = w.heap[k]?) → Calls Try.prog 30 #[v, i64 10, i64 6] W (fun e w' => e = .returned (i64 (pickI rs 10 6)) ∧ W = w') := fun W hk =>
    Pick_spec (w := W) 10 6 (hr2.of_heap hk) hrs (by omega) (by omega)
  have hp0 : 0 ≤ pickI rs 10 6 := pickI_lo (by omega)
  have hp1 : pickI rs 10 6 < 6 := pickI_hi (by omega)
  generalize pickI rs 10 6 = pk at *
  obtain ⟨ua, uc, rfl⟩ := readsI_len hr
  obtain ⟨a, c, rfl⟩ := readsI_len hr2
  obtain ⟨iB, hB, hB0, hB1, hB2⟩ := info_parts infoBx
  obtain ⟨iD, hD, hD0, hD1, hD2⟩ := info_parts infoDr
  have HC := Lib.hid (And.intro hcell hmem)
  have HF := Lib.hid (And.intro hSet hPick)
  have H0 := Lib.hid (And.intro ((Sep.start w).alloc (.cells #[i64 0, .slice none 0 0, i64 0, i64 0, i64 0, i64 0, .slice none 0 0, .slice none 0 0, i64 0, i64 0, i64 0, i64 0, i64 0, i64 0, i64 0, i64 0] 31)) ((Stable.refl w).alloc (.cells #[i64 0, .slice none 0 0, i64 0, i64 0, i64 0, i64 0, .slice none 0 0, .slice none 0 0, i64 0, i64 0, i64 0, i64 0, i64 0, i64 0, i64 0, i64 0] 31)))
  clear hr hr2 hl hrs hcell hmem hSet hPick
  go_enter Try.func10, Try.ntmps10
  go_wp2_with fail
  refine (HF.out.1 _ (H0.out.1.pick 1).oldGet).mono ?_
  rintro e w1 ⟨⟨s, bodies⟩, rfl, hg, hS1, hst1⟩
  have hS2 : Sep w1 (pts w.heap.size (.cells #[i64 0, .slice none 0 0, i64 0, i64 0, i64 0, i64 0, .slice none 0 0, .slice none 0 0, i64 0, i64 0, i64 0, i64 0, i64 0, i64 0, i64 0, i64 0] 31) :: old w :: (Su.mk s bodies).parts) := H0.out.1.mount (hS1.perm (List.perm_append_comm (l₂ := [_]))) |>.perm (List.perm_append_comm (l₁ := (Su.mk s bodies).parts) (l₂ := [_, _]))
  have H1 := Lib.hid (And.intro hg (And.intro hS2 (H0.out.2.trans hst1)))
  clear hg hS1 hS2 hst1
  obtain ⟨players, nb, ba, bc, x0, y0, x1, y1, rooms, ra, rc, doors, da, dc, fog, gx, gy, push, drag, rest, rounds, fuel⟩ := s
  dsimp only [St.val, St.doorsV] at *
  have H2 := Lib.hid (And.intro (H1.out.2.1.alloc (.cells #[i64 0, .slice none 0 0, i64 0, i64 0, i64 0, i64 0, .slice none 0 0, .slice none 0 0, i64 0, i64 0, i64 0, i64 0, i64 0, i64 0, i64 0, i64 0] 31)) (H1.out.2.2.alloc (.cells #[i64 0, .slice none 0 0, i64 0, i64 0, i64 0, i64 0, .slice none 0 0, .slice none 0 0, i64 0, i64 0, i64 0, i64 0, i64 0, i64 0, i64 0, i64 0] 31)))
  go_wp2_with (refine wpList_store_sep rfl 31 _ _ rfl w1.heap.size #[i64 players, .slice ba nb bc, i64 x0, i64 y0, i64 x1, i64 y1, .slice ra rooms.length rc, .slice da doors.length dc, i64 fog, i64 gx, i64 gy, i64 push, i64 drag, i64 rest, i64 rounds, i64 fuel] rfl rfl H2.out.1 (by kernel_rfl) rfl (by kernel_rfl) ?_; intro w3 hS3 hst3; have fz := frozen_of_blk hS3.get; have s6 := cell_of_blk hS3.get 6; have s7 := cell_of_blk hS3.get 7; simp at s6 s7; have H3 := Lib.hid (And.intro hS3 (H2.out.2.trans hst3)); clear hS3 hst3)
  have hS4 := (H3.out.1.setCell 6 (.slice none 0 0)).setCell 7 (.slice none 0 0)
  simp only [List.setIfInBounds_toArray, List.set_cons_succ, List.set_cons_zero] at hS4
  have hst4 := (H3.out.2.setCell ⟨w1.heap.size, 6, none⟩ (.slice none 0 0)).setCell ⟨w1.heap.size, 7, none⟩ (.slice none 0 0)
  clear fz s6 s7 H3 H2
  generalize World.setCell _ _ _ = w4 at *
  generalize w1.heap.size = b5 at *
  have H4 := Lib.hid (And.intro (hS4.addNil 25 4) hst4)
  clear hS4 hst4
  go_loopw [6, 7, 8, 9] (fun i n x y wr => ∃ (k : Nat) (ms : List Bx) (mv : Value), k ≤ 5 ∧ k ≤ rs.length ∧ i = .int .i64 k ∧ ms.length = k ∧
      Sep wr (row 25 4 mv ms.length (bcells ms) :: pts b5 (.cells #[i64 players, .slice ba nb bc, i64 x0, i64 y0, i64 x1, i64 y1, mv, .slice none 0 0, i64 fog, i64 gx, i64 gy, i64 push, i64 drag, i64 rest, i64 rounds, i64 fuel] 31) :: pts w.heap.size (.cells #[i64 0, .slice none 0 0, i64 0, i64 0, i64 0, i64 0, .slice none 0 0, .slice none 0 0, i64 0, i64 0, i64 0, i64 0, i64 0, i64 0, i64 0, i64 0] 31) :: old w :: [Sl.held 9 (.slice ba nb bc) bodies.length (bdcells bodies), polys bodies]) ∧ Stable w wr) (fun i _ _ _ _ => 5 - (intOf i).toNat)
  case atStart => exact ⟨0, [], .slice none 0 0, by omega, by omega, rfl, rfl, H4.out.1 |>.pick 6 |>.drop |>.pick 6 |>.drop, H4.out.2⟩
  case round =>
    obtain ⟨k, ms, mv, hk5, hkl, rfl, hms, hSr, hst⟩ := hrel
    have s6 := cell_of_blk (hSr.pick 1).get 6
    simp at s6
    have HR := Lib.hid (And.intro hms (And.intro hSr hst))
    clear hms hSr hst
    by_cases hboth : k < rs.length ∧ k < 5
    · obtain ⟨hlt, h5⟩ := hboth
      obtain ⟨b, off, cap, hv, hc0, hbl⟩ := HC.out.1 k hlt
      obtain ⟨rfl, rfl⟩ : a = some ⟨b, off, none⟩ ∧ c = cap := by simpa using hv
      have c0 : wr.cell? ⟨b, off + k, none⟩ = some (i64 (rs.getD k 0)) := (World.cell?_of_block (a := ⟨b, off + k, none⟩) ((HR.out.2.1.pick 3).oldGet b hbl)).trans hc0
      have har := fun w => Around_spec (rs.getD k 0) 1000000 w (by omega) (by omega) (HC.out.2 k hlt)
      have n0 : 0 ≤ around (rs.getD k 0) 1000000 := around_lo (by omega)
      have n1 : around (rs.getD k 0) 1000000 < 1000000 := around_hi (by omega)
      generalize around (rs.getD k 0) 1000000 = n at *
      generalize rs.getD k 0 = x at *
      have HA := Lib.hid har
      clear har hv hc0
      go_wp2_with fail
      refine (HA.out _).mono ?_
      rintro e w5 ⟨rfl, rfl⟩
      clear c0
      have hS5 : ∀ o, Sep (wr.alloc o) _ := fun o => HR.out.2.1.allocBeside o
      have HS5 := Lib.hid hS5
      clear hS5
      have hmk : ms.length ≤ 5 := by have := HR.out.1; omega
      go_wp2_with (at_builtin; refine wpList_append_sep rfl (.tmp 42) (.tmp 55) 26 26 rfl 25 iB _ 4 32 Try.underlying26 hB hB0 hB1 hB2 rfl _ _ _ rfl (HS5.out _) 1 [i64 (n % 6 * 3000 - 9000), i64 (n / 6 % 3 * 3000 - 6000), i64 (n % 6 * 3000 - 9000 + 3000 + n / 18 % 3 * 1500), i64 (n / 6 % 3 * 3000 - 6000 + 4096)] (Src.ofSlice _ Try.underlying26 ⟨_, 0, none⟩ 1 1 _ rfl (fun j u hu => by rw [Addr.add_lit]; simpa using hu) (by simp [Value.oneCell'])) (by unfold maxLen; omega) (by omega) ?_; intro v3 w6 hS6 hst6 hn6; obtain ⟨na, nc, rfl, _⟩ := hS6.rowShape; have s6 := cell_of_blk (hS6.pick 1).get 6; simp at s6; have fz := frozen_of_blk (hS6.pick 1).get; have H6 := Lib.hid (And.intro hS6 hst6); clear hS6 hst6 hn6)
      have hS7 := (H6.out.1.pick 1).setCell 6 (.slice na (ms.length + 1) nc)
      simp only [List.setIfInBounds_toArray, List.set_cons_succ, List.set_cons_zero] at hS7
      refine ⟨⟨k + 1, ms ++ [(n % 6 * 3000 - 9000, n / 6 % 3 * 3000 - 6000, n % 6 * 3000 - 9000 + 3000 + n / 18 % 3 * 1500, n / 6 % 3 * 3000 - 6000 + 4096)], .slice na (ms.length + 1) nc, by omega, by omega, by go_num, by rw [List.length_append, HR.out.1]; rfl, ?_, ((HR.out.2.2.alloc _).trans H6.out.2).setCell _ _⟩, by simp [intOf]; omega⟩
      rw [bcells_snoc, List.length_append]
      exact hS7.pick 1
    · obtain ⟨na, nc, rfl, hna⟩ := HR.out.2.1.rowShape
      have HNA := Lib.hid (Sep.rowBase HR.out.2.1)
      have HR2 := Lib.hid (And.intro HR.out.1 (And.intro (HR.out.2.1.rowHeld) HR.out.2.2))
      clear HR H4
      obtain ⟨M, hM⟩ : ∃ M : Nat, M = ms.length := ⟨_, rfl⟩
      rw [← hM] at HR2 s6
      have hM5 : M ≤ 5 := by have := HR2.out.1; omega
      have HM := Lib.hid hM
      clear hM
      rcases (by omega : rs.length ≤ k ∨ (k < rs.length ∧ 5 ≤ k)) with h | ⟨h, h'⟩
      all_goals
        clear hboth
        go_wp2_with fail
        go_loopw [10, 11, 12] (fun i n dp wr => ∃ (k : Nat) (ds : List Dr) (dv : Value), 5 ≤ k ∧ k ≤ 10 ∧ i = .int .i64 k ∧ ds.length + 5 = k ∧ (∀ d ∈ ds, 0 ≤ d.1 ∧ d.1 < M ∧ 0 ≤ d.2 ∧ d.2 < M) ∧
          Sep wr (row 51 2 dv ds.length (dcells ds) :: pts b5 (.cells #[i64 players, .slice ba nb bc, i64 x0, i64 y0, i64 x1, i64 y1, .slice na M nc, dv, i64 fog, i64 gx, i64 gy, i64 push, i64 drag, i64 rest, i64 rounds, i64 fuel] 31) :: pts w.heap.size (.cells #[i64 0, .slice none 0 0, i64 0, i64 0, i64 0, i64 0, .slice none 0 0, .slice none 0 0, i64 0, i64 0, i64 0, i64 0, i64 0, i64 0, i64 0, i64 0] 31) :: old w :: [Sl.held 4 (.slice na M nc) M (bcells ms), Sl.held 9 (.slice ba nb bc) bodies.length (bdcells bodies), polys bodies]) ∧ Stable w wr) (fun i _ _ _ => 10 - (intOf i).toNat)
        case atStart => exact ⟨5, [], .slice none 0 0, by omega, by omega, rfl, rfl, by simp, (HR2.out.2.1.pick 3 |>.pick 2 |>.pick 3 |>.pick 1 |>.addNil _ _), HR2.out.2.2⟩
        case round =>
          obtain ⟨k2, ds, dv, hk5', hk10, rfl, hds, hval, hSr, hst⟩ := hrel
          have s6 := cell_of_blk (hSr.pick 1).get 6
          have s7 := cell_of_blk (hSr.pick 1).get 7
          simp at s6 s7
          have HR := Lib.hid (And.intro hds (And.intro hval (And.intro hSr hst)))
          clear hds hval hSr hst
          by_cases hall : k2 < rs.length ∧ k2 < 10 ∧ 1 < M
          · obtain ⟨hlt, h10, hM1⟩ := hall
            first | (exfalso; omega) | skip
            all_goals
              obtain ⟨b, off, cap, hv, hc0, hbl⟩ := HC.out.1 k2 hlt
              obtain ⟨rfl, rfl⟩ : a = some ⟨b, off, none⟩ ∧ c = cap := by simpa using hv
              have c0 : wr.cell? ⟨b, off + k2, none⟩ = some (i64 (rs.getD k2 0)) := (World.cell?_of_block (a := ⟨b, off + k2, none⟩) ((HR.out.2.2.1.pick 3).oldGet b hbl)).trans hc0
              have har := fun w => Around_spec (rs.getD k2 0) 1000000 w (by omega) (by omega) (HC.out.2 k2 hlt)
              have n0 : 0 ≤ around (rs.getD k2 0) 1000000 := around_lo (by omega)
              have n1 : around (rs.getD k2 0) 1000000 < 1000000 := around_hi (by omega)
              generalize around (rs.getD k2 0) 1000000 = n at *
              generalize rs.getD k2 0 = x at *
              have HA := Lib.hid har
              clear har hv hc0
              go_wp2_with fail
              refine (HA.out _).mono ?_
              rintro e w5 ⟨rfl, rfl⟩
              clear c0
              have f0 : 0 ≤ n % (M : Int) := Int.emod_nonneg _ (by omega)
              have f1 : n % (M : Int) < (M : Int) := Int.emod_lt_of_pos _ (by omega)
              go_upto_region 16 with fail
              generalize hF : n % (M : Int) = F at *
              have hS5 := HR.out.2.2.1.alloc (.cells #[i64 F, i64 0] 51)
              have hst5 := HR.out.2.2.2.alloc (.cells #[i64 F, i64 0] 51)
              clear s6 s7 hF
              generalize World.alloc wr _ = w5 at *
              generalize wr.heap.size = bd at *
              have t0 := cell_of_blk hS5.get 0
              have t1 := cell_of_blk hS5.get 1
              have s6 := cell_of_blk (hS5.pick 2).get 6
              simp at t0 t1 s6
              have fz := frozen_of_blk hS5.get
              have H5 := Lib.hid (And.intro hS5 hst5)
              clear hS5 hst5
              have g0 : 0 ≤ n / 8 % ((M : Int) - 1) := Int.emod_nonneg _ (by omega)
              have g1 : n / 8 % ((M : Int) - 1) < (M : Int) - 1 := Int.emod_lt_of_pos _ (by omega)
              have e2 : IntKind.i64.wrap (n.tdiv 8) = n / 8 := by rw [Int.tdiv_eq_ediv_of_nonneg n0]; exact wr_in (by omega)
              have e3 : IntKind.i64.wrap ((M : Int) - 1) = (M : Int) - 1 := wr_in (by omega)
              have e4 : (n / 8).tmod ((M : Int) - 1) = n / 8 % ((M : Int) - 1) := Int.tmod_eq_emod_of_nonneg (by omega)
              have e7 : ¬ ((M : Int) - 1 = 0) := by omega
              have e8 : ¬ ((M : Int) = 0) := by omega
              have e9 : ¬ (M = 0) := by omega
              generalize hG : n / 8 % ((M : Int) - 1) = G at *
              have e1 : IntKind.i64.wrap (F + 1) = F + 1 := wr_in (by omega)
              have e5 : IntKind.i64.wrap (F + 1 + G) = F + 1 + G := wr_in (by omega)
              have e6 : (F + 1 + G).tmod (M : Int) = (F + 1 + G) % (M : Int) := Int.tmod_eq_emod_of_nonneg (by omega)
              have d0 : 0 ≤ (F + 1 + G) % (M : Int) := Int.emod_nonneg _ (by omega)
              have d1 : (F + 1 + G) % (M : Int) < (M : Int) := Int.emod_lt_of_pos _ (by omega)
              generalize hT : (F + 1 + G) % (M : Int) = T at *
              clear hG hT
              go_still_tail 16, (by kernel_rfl)
              clear t0 t1 s6 fz e1 e2 e3 e4 e5 e6 e7 e8 e9 g0 g1
              refine wpList_store_cell rfl 3 _ _ rfl (Sep.drew H5.out.1) 1 (i64 T) rfl rfl rfl (by simp) (by kernel_rfl) ?_
              intro w6 hS6 hst6
              simp only [List.setIfInBounds_toArray, List.set_cons_succ, List.set_cons_zero] at hS6
              have t0 := cell_of_blk hS6.get 0
              have t1 := cell_of_blk hS6.get 1
              have s7 := cell_of_blk (hS6.pick 2).get 7
              simp at t0 t1 s7
              have H6 := Lib.hid (And.intro hS6 (H5.out.2.drew.trans hst6))
              clear hS6 hst6 H5
              have hS7 : ∀ o, Sep (w6.alloc o) _ := fun o => (H6.out.1.pick 1).allocBeside o
              have HS7 := Lib.hid hS7
              clear hS7
              have hds5 : ds.length ≤ 5 := by have := HR.out.1; omega
              go_wp2_with (at_builtin; refine wpList_append_sep rfl (.tmp 102) (.tmp 104) 27 27 rfl 51 iD _ 2 16 Try.underlying27 hD hD0 hD1 hD2 rfl _ _ _ rfl (HS7.out _) 1 [i64 F, i64 T] (Src.ofSlice _ Try.underlying27 ⟨_, 0, none⟩ 1 1 _ rfl (fun j u hu => by rw [Addr.add_lit]; simpa using hu) (by simp [Value.oneCell'])) (by unfold maxLen; omega) (by omega) ?_; intro v3 w7 hS8 hst8 hn8; obtain ⟨da2, dc2, rfl, _⟩ := hS8.rowShape; have s7 := cell_of_blk (hS8.pick 2).get 7; simp at s7; have fz := frozen_of_blk (hS8.pick 2).get; have H8 := Lib.hid (And.intro hS8 hst8); clear hS8 hst8 hn8)
              have hS9 := (H8.out.1.pick 2).setCell 7 (.slice da2 (ds.length + 1) dc2)
              simp only [List.setIfInBounds_toArray, List.set_cons_succ, List.set_cons_zero] at hS9
              refine ⟨⟨k2 + 1, ds ++ [(F, T)], .slice da2 (ds.length + 1) dc2, by omega, by omega, by go_num, by rw [List.length_append]; have := HR.out.1; simp; omega, fun d hd => ?_, ?_, ((H6.out.2.alloc _).trans H8.out.2).setCell _ _⟩, by simp [intOf]; omega⟩
              · rcases List.mem_append.1 hd with hd | hd
                · exact HR.out.2.1 d hd
                · obtain rfl : d = (F, T) := by simpa using hd
                  exact ⟨f0, f1, d0, d1⟩
              · rw [dcells_snoc, List.length_append]
                exact hS9 |>.pick 1 |>.pick 2 |>.drop
          · obtain ⟨da2, dc2, rfl, hda⟩ := HR.out.2.2.1.rowShape
            have H9 := Lib.hid (And.intro (HR.out.2.2.1.rowHeld.pick 1) HR.out.2.2.2)
            have hpk : ∃ f : Int, 0 ≤ f ∧ f ≤ 4194304 ∧ ∀ W : World, (W.alloc (.cells #[i64 4194304, i64 0, i64 3000, i64 6000, i64 12000, i64 100000] 3)).cell? ⟨W.heap.size, pk.toNat, none⟩ = some (i64 f) := by
              rcases (by omega : pk = 0 ∨ pk = 1 ∨ pk = 2 ∨ pk = 3 ∨ pk = 4 ∨ pk = 5) with h | h | h | h | h | h
              · exact ⟨4194304, by omega, by omega, fun W => by rw [h]; simp⟩
              · exact ⟨0, by omega, by omega, fun W => by rw [h]; simp⟩
              · exact ⟨3000, by omega, by omega, fun W => by rw [h]; simp⟩
              · exact ⟨6000, by omega, by omega, fun W => by rw [h]; simp⟩
              · exact ⟨12000, by omega, by omega, fun W => by rw [h]; simp⟩
              · exact ⟨100000, by omega, by omega, fun W => by rw [h]; simp⟩
            obtain ⟨f, f0, f1, hf⟩ := hpk
            have hf0 := hf wr
            clear hf
            have hS10 := H9.out.1.allocBeside (.cells #[i64 4194304, i64 0, i64 3000, i64 6000, i64 12000, i64 100000] 3)
            have H10 := Lib.hid (And.intro hS10 (And.intro f0 f1))
            clear hS10 f0 f1
            rcases (by omega : rs.length ≤ k2 ∨ (k2 < rs.length ∧ 10 ≤ k2) ∨ (k2 < rs.length ∧ k2 < 10 ∧ M ≤ 1)) with h1 | ⟨h1, h2⟩ | ⟨h1, h2, h3⟩
            all_goals first | (exfalso; omega) | skip
            all_goals
              clear hall
              go_wp2_with fail
              refine (HF.out.2 _ (H10.out.1.pick 3).oldGet).mono ?_
              rintro e w5 ⟨rfl, rfl⟩
              go_upto_region 19 with (refine wpList_store_cell rfl 3 _ _ rfl H10.out.1 8 (i64 f) rfl rfl rfl (by simp) (by kernel_rfl) ?_; intro w6 hS6 hst6)
              simp only [List.setIfInBounds_toArray, List.set_cons_succ, List.set_cons_zero] at hS6
              have H11 := Lib.hid (And.intro hS6 ((H9.out.2.alloc _).trans hst6))
              clear hS6 hst6
              go_wp2_with (first | (refine wpList_load_g 31 _ rfl _ rfl _ _ _ _ (Sep.get H11.out.1) Try.underlying31 rfl (by kernel_rfl) (by first | rfl | (go_simp; done) | (go_simp; omega)) ?_) | (refine wpList_store_sep rfl 31 _ _ rfl w.heap.size #[i64 players, .slice ba nb bc, i64 x0, i64 y0, i64 x1, i64 y1, .slice na M nc, .slice da2 ds.length dc2, i64 f, i64 gx, i64 gy, i64 push, i64 drag, i64 rest, i64 rounds, i64 fuel] rfl rfl (H11.out.1.pick 2) (by kernel_rfl) rfl (by kernel_rfl) ?_; intro w7 hS7 hst7))
              refine bodyPost_ret (v := .agg _) (bodyPost_cell Try.results10 rfl hS7 Try.underlying31 rfl (by kernel_rfl)) rfl ?_
              have hMe := HM.out
              have b := H1.out.1.base
              subst hMe
              exact ⟨⟨⟨players, nb, ba, bc, x0, y0, x1, y1, ms, na, nc, ds, da2, dc2, f, gx, gy, push, drag, rest, rounds, fuel⟩, bodies⟩, rfl,
                ⟨⟨b.nb, b.players, b.more, b.few, b.bounds, b.gx, b.gy, b.push, b.drag, b.rest, b.rounds, b.fuel, b.bodies⟩, hM5, by have := HR.out.1; show ds.length ≤ 5; omega, HR.out.2.1, ⟨H10.out.2.1, H10.out.2.2⟩, HNA.out⟩,
                hS7.drop.drop |>.pick 1 |>.pick 1 |>.pick 2 |>.pick 4 |>.pick 4, H11.out.2.trans hst7⟩

end Go.Proofs.Ytjmlpjaahankcaa
