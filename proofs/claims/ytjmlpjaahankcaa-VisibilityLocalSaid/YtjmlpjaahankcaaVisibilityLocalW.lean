/- The walk of VisibilityLocal. -/
import Derived.Test.YtjmlpjaahankcaaVisSym
import Derived.Deep.CutRange
namespace Go.Proofs.Ytjmlpjaahankcaa
open Go.RowKit Go.Sl

variable {w : World} {L : List Asn}

theorem seesB_congr (s : St) (cs cs' : List Int) (p i : Int) (h1 : posX s cs p = posX s cs' p) (h2 : posY s cs p = posY s cs' p) (h3 : posX s cs i = posX s cs' i) (h4 : posY s cs i = posY s cs' i) : seesB s cs p i = seesB s cs' p i := by
  unfold seesB seesIn roomOf dist2
  rw [h1, h2, h3, h4]
theorem near_clamp (n : Int) : near (clamp n (-1048576) 1048576) := by
  unfold clamp near
  split
  · omega
  · split <;> omega
/-- The cells agree at four places. -/
def sameAt (o1 o2 : Nat) (cs cs' : List Int) : Prop := cs'.getD o1 0 = cs.getD o1 0 ∧ cs'.getD (o1 + 1) 0 = cs.getD (o1 + 1) 0 ∧ cs'.getD o2 0 = cs.getD o2 0 ∧ cs'.getD (o2 + 1) 0 = cs.getD (o2 + 1) 0
theorem sameAt_set {o1 o2 k : Nat} {cs cs' : List Int} (h : sameAt o1 o2 cs cs') (hk : k ≠ o1 ∧ k ≠ o1 + 1 ∧ k ≠ o2 ∧ k ≠ o2 + 1) (x : Int) : sameAt o1 o2 cs (cs'.set k x) := by
  have one : ∀ j, k ≠ j → (cs'.set k x).getD j 0 = cs'.getD j 0 := fun j hj => by
    rw [List.getD_eq_getElem?_getD, List.getElem?_set, if_neg hj, List.getD_eq_getElem?_getD]
  unfold sameAt
  rw [one _ hk.1, one _ hk.2.1, one _ hk.2.2.1, one _ hk.2.2.2]
  exact h
theorem seesB_same (s : St) (cs cs' : List Int) (p i : Int) (o1 o2 : Nat) (h1 : bodyAt s p = o1) (h2 : bodyAt s i = o2) (h : sameAt o1 o2 cs cs') : seesB s cs' p i = seesB s cs p i := by
  apply seesB_congr <;> (simp only [posX, posY, h1, h2, Int.toNat_natCast]; first | exact h.1 | exact h.2.1 | exact h.2.2.1 | exact h.2.2.2)

set_option maxRecDepth 100000 in
set_option maxHeartbeats 8000000 in
theorem visibilityLocal_walk {u v vt : Value} {l rs at_ : List Int} {player body byy : Int} (e0 : readsI w u l) (b0 : l.length ≤ 9223372036854775807) (w0 : ∀ x ∈ l, inI64 x) (e1 : readsI w v rs) (b1 : rs.length ≤ 9223372036854775807) (w1 : ∀ x ∈ rs, inI64 x)
    (e2 : readsI w vt at_) (b2 : at_.length ≤ 9223372036854775807) (w2 : ∀ x ∈ at_, inI64 x) (hp : inI64 player) (hb : inI64 body) (hy : inI64 byy) :
    Calls Try.prog 6 #[u, v, vt, i64 player, i64 body, i64 byy] w fun e w' => e = .returned (.bool true) ∧ Below w.heap.size w w' := by
  obtain ⟨iI, hiI, hI0, hI1, hI2⟩ := info_parts infoI
  have HIN := Lib.hid (And.intro hp (And.intro hb hy))
  clear hp hb hy
  have hSet := Setup27_spec e0 w0 b0 e1 w1 b1
  have HS := Lib.hid (And.intro hSet (And.intro e2 (And.intro b2 w2)))
  clear hSet e0 b0 w0 e1 b1 w1 e2 b2 w2
  go_enter Try.func6, Try.ntmps6
  go_wp2_with fail
  refine HS.out.1.mono ?_
  rintro e w1 ⟨su, rfl, hg, hS1, hst1⟩
  have hB1 : Below w.heap.size w w1 := (Su.oldPart hS1).below hst1
  have hrd := Su.reads hS1
  have hbr := Su.bodiesRead hS1
  have hfine := hg.fine
  have hrt : readsI w1 vt at_ := HS.out.2.1.of_heap (Su.oldPart hS1).oldGet
  obtain ⟨np, hnp, hnp3⟩ := hg.base.players_nat
  have hCe := fun (W : World) (M : List Asn) (hW : Sep W (old w1 :: M)) => Cells_spec (w := W) su np hnp (by omega) hg.base.nb (by have := hg.base.few; omega) (hbr.of_heap hW.oldGet) hg.base.near (hrt.of_heap hW.oldGet) HS.out.2.2.2 HS.out.2.2.1
  have hsee := fun (cv : Value) (cs : List Int) (hna : nearAll np su.bodies.length cs) (W : World) (M : List Asn) (hS : Sep W (rowI cv cs :: old w1 :: M)) => seeing_of hg.base hfine (by have := hg.fog; omega) hrd hnp hna hS
  have HC := Lib.hid (And.intro hCe (And.intro hsee (And.intro hg (And.intro hfine hrd))))
  have HB := Lib.hid hB1
  have hpl := hg.base.players
  have hmo := hg.base.more
  have hfew := hg.base.few
  have hro := hg.rooms
  have hnb := hg.base.nb
  clear hS1 hst1 hrd hfine hB1 hg hbr hrt hCe hsee HS hnp
  obtain ⟨s, bodies⟩ := su
  obtain ⟨players, nb, ba, bc, x0, y0, x1, y1, rooms, ra, rc, doors, da, dc, fog, gx, gy, push, drag, rest, rounds, fuel⟩ := s
  dsimp only [St.val, St.doorsV] at *
  subst hnb
  have H1 := Lib.hid (And.intro ((Sep.start w1).alloc (.cells #[i64 0, .slice none 0 0, i64 0, i64 0, i64 0, i64 0, .slice none 0 0, .slice none 0 0, i64 0, i64 0, i64 0, i64 0, i64 0, i64 0, i64 0, i64 0] 31)) ((Stable.refl w1).alloc (.cells #[i64 0, .slice none 0 0, i64 0, i64 0, i64 0, i64 0, .slice none 0 0, .slice none 0 0, i64 0, i64 0, i64 0, i64 0, i64 0, i64 0, i64 0, i64 0] 31)))
  go_upto_region 2 with (refine wpList_store_sep rfl 31 _ _ rfl w1.heap.size #[i64 players, .slice ba bodies.length bc, i64 x0, i64 y0, i64 x1, i64 y1, .slice ra rooms.length rc, .slice da doors.length dc, i64 fog, i64 gx, i64 gy, i64 push, i64 drag, i64 rest, i64 rounds, i64 fuel] rfl rfl H1.out.1 (by kernel_rfl) rfl (by kernel_rfl) ?_; intro w2 hS2 hst2)
  generalize w1.heap.size = bs at *
  have H2 := Lib.hid (And.intro hS2 (H1.out.2.trans hst2))
  clear hS2 hst2 H1
  go_wp2_with (refine wpList_load_g 31 _ rfl _ rfl _ _ _ _ (Sep.get H2.out.1) Try.underlying31 rfl (by kernel_rfl) (by first | rfl | (go_simp; done) | (go_simp; omega)) ?_)
  refine (HC.out.1 _ _ (H2.out.1.pick 1)).mono ?_
  rintro e w3 ⟨cv, cs, rfl, hna, hS3, hst3⟩
  have hS4 := H2.out.1.mount (hS3.pick 1)
  have hsee := HC.out.2.1 cv cs hna
  have H4 := Lib.hid (And.intro (show Sep w3 [rowI cv cs, pts bs (.cells #[i64 players, .slice ba bodies.length bc, i64 x0, i64 y0, i64 x1, i64 y1, .slice ra rooms.length rc, .slice da doors.length dc, i64 fog, i64 gx, i64 gy, i64 push, i64 drag, i64 rest, i64 rounds, i64 fuel] 31), old w1] from hS4.pick 0) (And.intro (H2.out.2.trans hst3) (And.intro hsee hna)))
  clear hS3 hst3 hS4 hsee hna H2
  have hA1 := fun w => Around_spec player players w (by omega) (by omega) HIN.out.1
  have p0 : 0 ≤ around player players := around_lo (by omega)
  have p1 : around player players < players := around_hi (by omega)
  have hA2 := fun w => Around_spec body (bodies.length : Int) w (by omega) (by omega) HIN.out.2.1
  have i0 : 0 ≤ around body (bodies.length : Int) := around_lo (by omega)
  have i1 : around body (bodies.length : Int) < (bodies.length : Int) := around_hi (by omega)
  have hA3 := fun w => Around_spec byy 3000 w (by omega) (by omega) HIN.out.2.2
  have d0 : 0 ≤ around byy 3000 := around_lo (by omega)
  have d1 : around byy 3000 < 3000 := around_hi (by omega)
  generalize around player players = P at *
  generalize around body (bodies.length : Int) = I at *
  generalize around byy 3000 = D at *
  have hat : ∀ j : Int, 0 ≤ j → j < bodies.length → bodyAt ⟨players, bodies.length, ba, bc, x0, y0, x1, y1, rooms, ra, rc, doors, da, dc, fog, gx, gy, push, drag, rest, rounds, fuel⟩ j = 48 + 4 * players + 8 * j := fun j h0 h1 => by unfold bodyAt; exact if_pos ⟨h0, h1⟩
  obtain ⟨o1, ho1⟩ : ∃ o1 : Nat, bodyAt ⟨players, bodies.length, ba, bc, x0, y0, x1, y1, rooms, ra, rc, doors, da, dc, fog, gx, gy, push, drag, rest, rounds, fuel⟩ P = o1 := ⟨(48 + 4 * players + 8 * P).toNat, by rw [hat P p0 (by omega)]; omega⟩
  obtain ⟨o2, ho2⟩ : ∃ o2 : Nat, bodyAt ⟨players, bodies.length, ba, bc, x0, y0, x1, y1, rooms, ra, rc, doors, da, dc, fog, gx, gy, push, drag, rest, rounds, fuel⟩ I = o2 := ⟨(48 + 4 * players + 8 * I).toNat, by rw [hat I i0 i1]; omega⟩
  have hB1 := fun W => Body_spec ⟨players, bodies.length, ba, bc, x0, y0, x1, y1, rooms, ra, rc, doors, da, dc, fog, gx, gy, push, drag, rest, rounds, fuel⟩ P (by dsimp only; omega) (by dsimp only; omega) W
  have hB2 := fun W => Body_spec ⟨players, bodies.length, ba, bc, x0, y0, x1, y1, rooms, ra, rc, doors, da, dc, fog, gx, gy, push, drag, rest, rounds, fuel⟩ I (by dsimp only; omega) (by dsimp only; omega) W
  rw [ho1] at hB1
  rw [ho2] at hB2
  have ho1b : o1 ≤ 100 := by have := hat P p0 (by omega); omega
  have ho2b : o2 ≤ 100 := by have := hat I i0 i1; omega
  dsimp only [St.val] at hB1 hB2
  obtain ⟨N, hN⟩ : ∃ N : Nat, N = cs.length := ⟨_, rfl⟩
  have hN0 : 0 < N := by have := H4.out.2.2.2.1; omega
  have hN1 : N ≤ 1000 := by have := H4.out.2.2.2.1; omega
  have HN := Lib.hid hN
  have HO := Lib.hid (And.intro ho1 ho2)
  have HA := Lib.hid (And.intro hA1 (And.intro hA2 (And.intro hA3 (And.intro hB1 hB2))))
  clear hat hA1 hA2 hA3 hB1 hB2 ho1 ho2 hN HIN
  have s0 : w3.cell? ⟨bs, 0, none⟩ = some (i64 players) := cell_of_blk (H4.out.1.pick 1).get 0
  have s2 : w3.cell? ⟨bs, 1, none⟩ = some (.slice ba bodies.length bc) := cell_of_blk (H4.out.1.pick 1).get 1
  go_wp2_with fail
  refine (HA.out.1 _).mono ?_
  rintro e w5 ⟨rfl, rfl⟩
  go_wp2_with fail
  refine (HA.out.2.1 _).mono ?_
  rintro e w5 ⟨rfl, rfl⟩
  go_wp2_with fail
  refine (HA.out.2.2.1 _).mono ?_
  rintro e w5 ⟨rfl, rfl⟩
  go_wp2_with (refine wpList_load_g 31 _ rfl _ rfl _ _ _ _ (Sep.get (H4.out.1.pick 1)) Try.underlying31 rfl (by kernel_rfl) (by first | rfl | (go_simp; done) | (go_simp; omega)) ?_)
  refine (HA.out.2.2.2.1 _).mono ?_
  rintro e w5 ⟨rfl, hS5, hst5⟩
  have H5 := Lib.hid (And.intro (H4.out.1.mount hS5) (H4.out.2.1.trans hst5))
  clear hS5 hst5 s0 s2
  go_wp2_with (refine wpList_load_g 31 _ rfl _ rfl _ _ _ _ (Sep.get (H5.out.1.pick 1)) Try.underlying31 rfl (by kernel_rfl) (by first | rfl | (go_simp; done) | (go_simp; omega)) ?_)
  refine (HA.out.2.2.2.2 _).mono ?_
  rintro e w6 ⟨rfl, hS6, hst6⟩
  have hS7 := (H5.out.1.mount hS6).alloc (.cells #[] 3)
  have hst7 := (H5.out.2.trans hst6).alloc (.cells #[] 3)
  clear hS6 hst6 H5
  have hsrc := readsAs.src (P := Try.prog) Try.underlying22 (hS7.pick 1).reads (ints_one cs)
  have hrow : Sep (w6.alloc (.cells #[] 3)) (rowI (.slice (some ⟨w6.heap.size, 0, none⟩) 0 0) [] :: [rowI cv cs, pts bs (.cells #[i64 players, .slice ba bodies.length bc, i64 x0, i64 y0, i64 x1, i64 y1, .slice ra rooms.length rc, .slice da doors.length dc, i64 fog, i64 gx, i64 gy, i64 push, i64 drag, i64 rest, i64 rounds, i64 fuel] 31), old w1]) := hS7.toRow (n := 0) (Nat.le_refl _) (by unfold maxLen; omega) rfl rfl
  rw [← HN.out] at hsrc
  have H7 := Lib.hid (And.intro hrow (And.intro hst7 hsrc))
  clear hS7 hst7 hsrc hrow
  go_wp2_with (at_builtin; refine wpList_append_sep rfl _ _ 22 22 rfl 3 iI _ 1 8 Try.underlying22 hiI hI0 hI1 hI2 rfl _ _ _ rfl H7.out.1 N (ints cs) H7.out.2.2 (by simp only [List.length_nil]; unfold maxLen; omega) (by simp only [List.length_nil]; omega) ?_; intro v3 w8 hS8 hst8 hn8)
  have hS9 := rowI_app (l := []) (l' := cs) hS8 rfl HN.out
  rw [List.nil_append] at hS9
  obtain ⟨g, cap, rfl, hc1, hc2, _⟩ := rowI_at hS9 (by have := HN.out; omega)
  rw [← HN.out] at hc1
  have hS10 : Sep w8 (rowI (.slice (some ⟨g, 0, none⟩) N cap) cs :: [rowI cv cs, pts bs (.cells #[i64 players, .slice ba bodies.length bc, i64 x0, i64 y0, i64 x1, i64 y1, .slice ra rooms.length rc, .slice da doors.length dc, i64 fog, i64 gx, i64 gy, i64 push, i64 drag, i64 rest, i64 rounds, i64 fuel] 31), old w1]) := by rw [HN.out]; exact hS9
  rw [← HN.out]
  have H8 := Lib.hid (And.intro hS10 (H7.out.2.1.trans hst8))
  clear hS8 hS9 hS10 hst8 hn8 H7
  go_wp2_with fail
  go_loopw [21] (fun kk wr => ∃ (k : Nat) (cs' : List Int), k ≤ N ∧ kk = .int .i64 k ∧ (nearAll np bodies.length cs' ∧ sameAt o1 o2 cs cs') ∧ Sep wr [rowI (.slice (some ⟨g, 0, none⟩) N cap) cs', rowI cv cs, pts bs (.cells #[i64 players, .slice ba bodies.length bc, i64 x0, i64 y0, i64 x1, i64 y1, .slice ra rooms.length rc, .slice da doors.length dc, i64 fog, i64 gx, i64 gy, i64 push, i64 drag, i64 rest, i64 rounds, i64 fuel] 31), old w1] ∧ Stable w1 wr) (fun k _ => N - (intOf k).toNat)
  case atStart => exact ⟨0, cs, by omega, rfl, ⟨H4.out.2.2.2, rfl, rfl, rfl, rfl⟩, H8.out.1, H8.out.2⟩
  case round =>
    obtain ⟨k, ct, hk, rfl, hinv, hSr, hst⟩ := hrel
    have HR := Lib.hid (And.intro hinv (And.intro hSr hst))
    have hctl : ct.length = N := by have h1 := hinv.1.1; have h2 := H4.out.2.2.2.1; have := HN.out; omega
    have HCT := Lib.hid hctl
    clear hinv hSr hst hctl
    by_cases hlt : k < N
    · rcases (by omega : k = o1 ∨ k = o1 + 1 ∨ (k ≠ o1 ∧ k ≠ o1 + 1 ∧ k = o2) ∨ (k ≠ o1 ∧ k ≠ o1 + 1 ∧ k = o2 + 1) ∨ (k ≠ o1 ∧ k ≠ o1 + 1 ∧ k ≠ o2 ∧ k ≠ o2 + 1)) with h | h | ⟨h1, h2, h⟩ | ⟨h1, h2, h⟩ | ⟨h1, h2, h3, h4⟩
      · subst h
        go_wp2_with fail
        go_roundw
        case rel => exact ⟨k + 1, ct, by omega, by go_num, HR.out.1, HR.out.2.1, HR.out.2.2⟩
        case measure => simp [intOf]; omega
      · subst h
        go_wp2_with fail
        go_roundw
        case rel => exact ⟨o1 + 1 + 1, ct, by omega, by go_num, HR.out.1, HR.out.2.1, HR.out.2.2⟩
        case measure => simp [intOf]; omega
      · subst h
        go_wp2_with fail
        go_roundw
        case rel => exact ⟨k + 1, ct, by omega, by go_num, HR.out.1, HR.out.2.1, HR.out.2.2⟩
        case measure => simp [intOf]; omega
      · subst h
        go_wp2_with fail
        go_roundw
        case rel => exact ⟨o2 + 1 + 1, ct, by omega, by go_num, HR.out.1, HR.out.2.1, HR.out.2.2⟩
        case measure => simp [intOf]; omega
      · have c0 := rowI_cell (i := k) HR.out.2.1 (by rw [HCT.out]; exact hlt)
        generalize ct.getD k 0 = x at *
        have g1 : ((k : Int) != (o1 : Int)) = true := by rw [bne_iff_ne]; omega
        have g2 : ((k : Int) != (o1 : Int) + 1) = true := by rw [bne_iff_ne]; omega
        have g3 : ((k : Int) != (o2 : Int)) = true := by rw [bne_iff_ne]; omega
        have g4 : ((k : Int) != (o2 : Int) + 1) = true := by rw [bne_iff_ne]; omega
        go_wp2_with fail
        refine (Clamp_spec _ _ _ _).mono ?_
        rintro e w9 ⟨rfl, rfl⟩
        generalize hX : clamp _ (-1048576) 1048576 = X
        have hnX : near X := by rw [← hX]; exact near_clamp _
        have HNX := Lib.hid hnX
        clear hnX hX c0
        go_wp2_with (refine wpList_store_rowI rfl 3 _ _ rfl HR.out.2.1 k X rfl rfl (by rw [HCT.out]; exact hlt) (by kernel_rfl) ?_; intro w10 hS10 hst10)
        have H10 := Lib.hid (And.intro hS10 (HR.out.2.2.trans hst10))
        clear hS10 hst10
        go_roundw
        case rel => exact ⟨k + 1, _, by omega, by go_num, ⟨nearAll_set HR.out.1.1 k HNX.out, sameAt_set HR.out.1.2 ⟨h1, h2, h3, h4⟩ X⟩, H10.out.1, H10.out.2⟩
        case measure => simp [intOf]; omega
    · obtain rfl : k = N := by omega
      have heq := seesB_same ⟨players, bodies.length, ba, bc, x0, y0, x1, y1, rooms, ra, rc, doors, da, dc, fog, gx, gy, push, drag, rest, rounds, fuel⟩ cs ct P I o1 o2 HO.out.1 HO.out.2 HR.out.1.2
      have hX1 := fun (W : World) (M : List Asn) (hW : Sep W (rowI (.slice (some ⟨g, 0, none⟩) k cap) ct :: rowI cv cs :: pts bs (.cells #[i64 players, .slice ba bodies.length bc, i64 x0, i64 y0, i64 x1, i64 y1, .slice ra rooms.length rc, .slice da doors.length dc, i64 fog, i64 gx, i64 gy, i64 push, i64 drag, i64 rest, i64 rounds, i64 fuel] 31) :: old w1 :: M)) => Sees_spec (H4.out.2.2.1 W _ ((hW.drop.pick 2).pick 1)) P I
      have hX2 := fun (W : World) (M : List Asn) (hW : Sep W (rowI (.slice (some ⟨g, 0, none⟩) k cap) ct :: rowI cv cs :: pts bs (.cells #[i64 players, .slice ba bodies.length bc, i64 x0, i64 y0, i64 x1, i64 y1, .slice ra rooms.length rc, .slice da doors.length dc, i64 fog, i64 gx, i64 gy, i64 push, i64 drag, i64 rest, i64 rounds, i64 fuel] 31) :: old w1 :: M)) => Sees_spec (HC.out.2.1 _ ct HR.out.1.1 W _ ((hW.pick 3).pick 1)) P I
      rw [heq] at hX2
      dsimp only [St.val] at hX1 hX2
      generalize seesB ⟨players, bodies.length, ba, bc, x0, y0, x1, y1, rooms, ra, rc, doors, da, dc, fog, gx, gy, push, drag, rest, rounds, fuel⟩ cs P I = r at *
      have HX := Lib.hid (And.intro hX1 hX2)
      clear hX1 hX2 heq
      go_upto_region 14 with fail
      go_cut [12] from 85 to 98 (fun x12 wx => x12 = .bool true ∧ Sep wx [rowI (.slice (some ⟨g, 0, none⟩) k cap) ct, rowI cv cs, pts bs (.cells #[i64 players, .slice ba bodies.length bc, i64 x0, i64 y0, i64 x1, i64 y1, .slice ra rooms.length rc, .slice da doors.length dc, i64 fog, i64 gx, i64 gy, i64 push, i64 drag, i64 rest, i64 rounds, i64 fuel] 31), old w1] ∧ Stable w1 wx)
      case first =>
        refine wp_region_dag (w0 := w1) 15 [some 85, some 86, some 87, some 88, some 89, some 90, some 91, some 92, some 93, some 94, some 95, some 96, some 97, some 98, some 12] [.det [] (.agg #[i64 players, .slice ba bodies.length bc, i64 x0, i64 y0, i64 x1, i64 y1, .slice ra rooms.length rc, .slice da doors.length dc, i64 fog, i64 gx, i64 gy, i64 push, i64 drag, i64 rest, i64 rounds, i64 fuel]), .det [] (cv), .det [] (i64 P), .det [] (i64 I), .det [0, 1, 2, 3] (.bool r), .det [] (.agg #[i64 players, .slice ba bodies.length bc, i64 x0, i64 y0, i64 x1, i64 y1, .slice ra rooms.length rc, .slice da doors.length dc, i64 fog, i64 gx, i64 gy, i64 push, i64 drag, i64 rest, i64 rounds, i64 fuel]), .det [] (.slice (some ⟨g, 0, none⟩) k cap), .det [] (i64 P), .det [] (i64 I), .det [5, 6, 7, 8] (.bool r), .det [4, 9] (.bool true), .det [10] (.bool true), .det [11] (.bool true), .det [11, 12] (.bool true), .det [13] (.bool true)] [rowI (.slice (some ⟨g, 0, none⟩) k cap) ct, rowI cv cs, pts bs (.cells #[i64 players, .slice ba bodies.length bc, i64 x0, i64 y0, i64 x1, i64 y1, .slice ra rooms.length rc, .slice da doors.length dc, i64 fog, i64 gx, i64 gy, i64 push, i64 drag, i64 rest, i64 rounds, i64 fuel] 31), old w1] [] rfl (by kernel_rfl) (by kernel_rfl) (by kernel_rfl) (by kernel_rfl) (HR.out.2.1) (HR.out.2.2) ⟨⟨⟨⟨⟨⟨⟨⟨⟨⟨⟨⟨⟨⟨⟨trivial, ?_⟩, ?_⟩, ?_⟩, ?_⟩, ?_⟩, ?_⟩, ?_⟩, ?_⟩, ?_⟩, ?_⟩, ?_⟩, ?_⟩, ?_⟩, ?_⟩, ?_⟩ ?_
        · refine all15 fun z0 z1 z2 z3 z4 z5 z6 z7 z8 z9 z10 z11 z12 z13 z14 W L hv hS hst a ha K hK => ?_
          simp only [dagPut, Act.put, List.setIfInBounds_toArray, List.set_cons_zero, List.set_cons_succ] at ha
          subst ha
          refine wpOp_plain rfl rfl ?_
          simp only [Act.put, List.setIfInBounds_toArray, List.set_cons_zero, List.set_cons_succ, List.getD_cons_zero] at hK
          refine wp_load_row 31 _ rfl _ rfl _ _ _ _ (Sep.get (L := _) (Sep.pick 2 hS)) Try.underlying31 rfl (by kernel_rfl) ?_
          exact hK.out _ _ rfl (sepEmp hS) hst
        · refine all15 fun z0 z1 z2 z3 z4 z5 z6 z7 z8 z9 z10 z11 z12 z13 z14 W L hv hS hst a ha K hK => ?_
          simp only [dagPut, Act.put, List.setIfInBounds_toArray, List.set_cons_zero, List.set_cons_succ] at ha
          subst ha
          refine wpOp_plain rfl rfl ?_
          simp only [Act.put, List.setIfInBounds_toArray, List.set_cons_zero, List.set_cons_succ, List.getD_cons_succ, List.getD_cons_zero] at hK
          go_simp
          exact hK.out _ _ rfl (sepEmp hS) hst
        · refine all15 fun z0 z1 z2 z3 z4 z5 z6 z7 z8 z9 z10 z11 z12 z13 z14 W L hv hS hst a ha K hK => ?_
          simp only [dagPut, Act.put, List.setIfInBounds_toArray, List.set_cons_zero, List.set_cons_succ] at ha
          subst ha
          refine wpOp_plain rfl rfl ?_
          simp only [Act.put, List.setIfInBounds_toArray, List.set_cons_zero, List.set_cons_succ, List.getD_cons_succ, List.getD_cons_zero] at hK
          go_simp
          exact hK.out _ _ rfl (sepEmp hS) hst
        · refine all15 fun z0 z1 z2 z3 z4 z5 z6 z7 z8 z9 z10 z11 z12 z13 z14 W L hv hS hst a ha K hK => ?_
          simp only [dagPut, Act.put, List.setIfInBounds_toArray, List.set_cons_zero, List.set_cons_succ] at ha
          subst ha
          refine wpOp_plain rfl rfl ?_
          simp only [Act.put, List.setIfInBounds_toArray, List.set_cons_zero, List.set_cons_succ, List.getD_cons_succ, List.getD_cons_zero] at hK
          go_simp
          exact hK.out _ _ rfl (sepEmp hS) hst
        · refine all15 fun z0 z1 z2 z3 z4 z5 z6 z7 z8 z9 z10 z11 z12 z13 z14 W L hv hS hst a ha K hK => ?_
          obtain ⟨v0, v1, v2, v3, _⟩ := hv
          obtain rfl : z0 = _ := v0
          obtain rfl : z1 = _ := v1
          obtain rfl : z2 = _ := v2
          obtain rfl : z3 = _ := v3
          simp only [dagPut, Act.put, List.setIfInBounds_toArray, List.set_cons_zero, List.set_cons_succ] at ha
          subst ha
          refine wpOp_plain rfl rfl ?_
          simp only [Act.put, List.setIfInBounds_toArray, List.set_cons_zero, List.set_cons_succ, List.getD_cons_succ, List.getD_cons_zero] at hK
          go_simp
          refine (HX.out.1 W _ hS).mono ?_
          rintro e w3 ⟨rfl, hS3, hst3⟩
          exact hK.out _ _ rfl (sepEmp (Sep.mount (M := []) hS hS3)) (hst.trans hst3)
        · refine all15 fun z0 z1 z2 z3 z4 z5 z6 z7 z8 z9 z10 z11 z12 z13 z14 W L hv hS hst a ha K hK => ?_
          simp only [dagPut, Act.put, List.setIfInBounds_toArray, List.set_cons_zero, List.set_cons_succ] at ha
          subst ha
          refine wpOp_plain rfl rfl ?_
          simp only [Act.put, List.setIfInBounds_toArray, List.set_cons_zero, List.set_cons_succ, List.getD_cons_succ, List.getD_cons_zero] at hK
          refine wp_load_row 31 _ rfl _ rfl _ _ _ _ (Sep.get (L := _) (Sep.pick 2 hS)) Try.underlying31 rfl (by kernel_rfl) ?_
          exact hK.out _ _ rfl (sepEmp hS) hst
        · refine all15 fun z0 z1 z2 z3 z4 z5 z6 z7 z8 z9 z10 z11 z12 z13 z14 W L hv hS hst a ha K hK => ?_
          simp only [dagPut, Act.put, List.setIfInBounds_toArray, List.set_cons_zero, List.set_cons_succ] at ha
          subst ha
          refine wpOp_plain rfl rfl ?_
          simp only [Act.put, List.setIfInBounds_toArray, List.set_cons_zero, List.set_cons_succ, List.getD_cons_succ, List.getD_cons_zero] at hK
          go_simp
          exact hK.out _ _ rfl (sepEmp hS) hst
        · refine all15 fun z0 z1 z2 z3 z4 z5 z6 z7 z8 z9 z10 z11 z12 z13 z14 W L hv hS hst a ha K hK => ?_
          simp only [dagPut, Act.put, List.setIfInBounds_toArray, List.set_cons_zero, List.set_cons_succ] at ha
          subst ha
          refine wpOp_plain rfl rfl ?_
          simp only [Act.put, List.setIfInBounds_toArray, List.set_cons_zero, List.set_cons_succ, List.getD_cons_succ, List.getD_cons_zero] at hK
          go_simp
          exact hK.out _ _ rfl (sepEmp hS) hst
        · refine all15 fun z0 z1 z2 z3 z4 z5 z6 z7 z8 z9 z10 z11 z12 z13 z14 W L hv hS hst a ha K hK => ?_
          simp only [dagPut, Act.put, List.setIfInBounds_toArray, List.set_cons_zero, List.set_cons_succ] at ha
          subst ha
          refine wpOp_plain rfl rfl ?_
          simp only [Act.put, List.setIfInBounds_toArray, List.set_cons_zero, List.set_cons_succ, List.getD_cons_succ, List.getD_cons_zero] at hK
          go_simp
          exact hK.out _ _ rfl (sepEmp hS) hst
        · refine all15 fun z0 z1 z2 z3 z4 z5 z6 z7 z8 z9 z10 z11 z12 z13 z14 W L hv hS hst a ha K hK => ?_
          obtain ⟨v5, v6, v7, v8, _⟩ := hv
          obtain rfl : z5 = _ := v5
          obtain rfl : z6 = _ := v6
          obtain rfl : z7 = _ := v7
          obtain rfl : z8 = _ := v8
          simp only [dagPut, Act.put, List.setIfInBounds_toArray, List.set_cons_zero, List.set_cons_succ] at ha
          subst ha
          refine wpOp_plain rfl rfl ?_
          simp only [Act.put, List.setIfInBounds_toArray, List.set_cons_zero, List.set_cons_succ, List.getD_cons_succ, List.getD_cons_zero] at hK
          go_simp
          refine (HX.out.2 W _ hS).mono ?_
          rintro e w3 ⟨rfl, hS3, hst3⟩
          exact hK.out _ _ rfl (sepEmp (Sep.mount (M := []) hS hS3)) (hst.trans hst3)
        · refine all15 fun z0 z1 z2 z3 z4 z5 z6 z7 z8 z9 z10 z11 z12 z13 z14 W L hv hS hst a ha K hK => ?_
          obtain ⟨v4, v9, _⟩ := hv
          obtain rfl : z4 = _ := v4
          obtain rfl : z9 = _ := v9
          simp only [dagPut, Act.put, List.setIfInBounds_toArray, List.set_cons_zero, List.set_cons_succ] at ha
          subst ha
          refine wpOp_plain rfl rfl ?_
          simp only [Act.put, List.setIfInBounds_toArray, List.set_cons_zero, List.set_cons_succ, List.getD_cons_succ, List.getD_cons_zero] at hK
          go_simp
          exact hK.out _ _ rfl (sepEmp hS) hst
        · refine all15 fun z0 z1 z2 z3 z4 z5 z6 z7 z8 z9 z10 z11 z12 z13 z14 W L hv hS hst a ha K hK => ?_
          obtain ⟨v10, _⟩ := hv
          obtain rfl : z10 = _ := v10
          simp only [dagPut, Act.put, List.setIfInBounds_toArray, List.set_cons_zero, List.set_cons_succ] at ha
          subst ha
          refine wpOp_plain rfl rfl ?_
          simp only [Act.put, List.setIfInBounds_toArray, List.set_cons_zero, List.set_cons_succ, List.getD_cons_succ, List.getD_cons_zero] at hK
          go_simp
          exact hK.out _ _ rfl (sepEmp hS) hst
        · refine all15 fun z0 z1 z2 z3 z4 z5 z6 z7 z8 z9 z10 z11 z12 z13 z14 W L hv hS hst a ha K hK => ?_
          obtain ⟨v11, _⟩ := hv
          obtain rfl : z11 = _ := v11
          simp only [dagPut, Act.put, List.setIfInBounds_toArray, List.set_cons_zero, List.set_cons_succ] at ha
          subst ha
          refine wpOp_on rfl rfl ?_
          simp only [Act.put, List.setIfInBounds_toArray, List.set_cons_zero, List.set_cons_succ, List.getD_cons_succ, List.getD_cons_zero] at hK
          go_simp
          refine (lives_spec W).mono ?_
          rintro e w3 ⟨rfl, hS3, hst3⟩
          exact hK.out _ _ rfl (sepEmp (Sep.mount (M := []) hS hS3)) (hst.trans hst3)
        · refine all15 fun z0 z1 z2 z3 z4 z5 z6 z7 z8 z9 z10 z11 z12 z13 z14 W L hv hS hst a ha K hK => ?_
          obtain ⟨v11, v12, _⟩ := hv
          obtain rfl : z11 = _ := v11
          obtain rfl : z12 = _ := v12
          simp only [dagPut, Act.put, List.setIfInBounds_toArray, List.set_cons_zero, List.set_cons_succ] at ha
          subst ha
          refine wpOp_plain rfl rfl ?_
          simp only [Act.put, List.setIfInBounds_toArray, List.set_cons_zero, List.set_cons_succ, List.getD_cons_succ, List.getD_cons_zero] at hK
          go_simp
          exact hK.out _ _ rfl (sepEmp hS) hst
        · refine all15 fun z0 z1 z2 z3 z4 z5 z6 z7 z8 z9 z10 z11 z12 z13 z14 W L hv hS hst a ha K hK => ?_
          obtain ⟨v13, _⟩ := hv
          obtain rfl : z13 = _ := v13
          simp only [dagPut, Act.put, List.setIfInBounds_toArray, List.set_cons_zero, List.set_cons_succ] at ha
          subst ha
          refine wpOp_plain rfl rfl ?_
          simp only [Act.put, List.setIfInBounds_toArray, List.set_cons_zero, List.set_cons_succ, List.getD_cons_succ, List.getD_cons_zero] at hK
          go_simp
          exact hK.out _ _ rfl (sepEmp hS) hst
        · refine all15 fun z0 z1 z2 z3 z4 z5 z6 z7 z8 z9 z10 z11 z12 z13 z14 W hv hS hst a ha => ?_
          obtain ⟨⟨⟨⟨⟨⟨⟨⟨⟨⟨⟨⟨⟨⟨⟨_, v0⟩, v1⟩, v2⟩, v3⟩, v4⟩, v5⟩, v6⟩, v7⟩, v8⟩, v9⟩, v10⟩, v11⟩, v12⟩, v13⟩, v14⟩ := hv
          obtain rfl : z0 = _ := v0
          obtain rfl : z1 = _ := v1
          obtain rfl : z2 = _ := v2
          obtain rfl : z3 = _ := v3
          obtain rfl : z4 = _ := v4
          obtain rfl : z5 = _ := v5
          obtain rfl : z6 = _ := v6
          obtain rfl : z7 = _ := v7
          obtain rfl : z8 = _ := v8
          obtain rfl : z9 = _ := v9
          obtain rfl : z10 = _ := v10
          obtain rfl : z11 = _ := v11
          obtain rfl : z12 = _ := v12
          obtain rfl : z13 = _ := v13
          obtain rfl : z14 = _ := v14
          simp only [dagPut, Act.put, List.setIfInBounds_toArray, List.set_cons_zero, List.set_cons_succ] at ha; subst ha
          go_wp2_with fail
          go_meet
          exact ⟨rfl, hS, hst⟩
      case rest =>
        obtain ⟨rfl, hS, hst⟩ := hcut
        have H9 := Lib.hid (And.intro hS hst)
        clear hS hst
        go_wp2_with fail
        go_ret
        exact ⟨rfl, rebase HB.out (Sep.below (H9.out.1.drop.drop.drop) H9.out.2)⟩

end Go.Proofs.Ytjmlpjaahankcaa
