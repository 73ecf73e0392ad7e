/- The walk of VisibilitySymmetric. -/
import Derived.Test.YtjmlpjaahankcaaVisSym
import Derived.Deep.CutRange
namespace Go.Proofs.Ytjmlpjaahankcaa
open Go.RowKit Go.Sl

variable {w : World} {L : List Asn}

set_option maxRecDepth 100000 in
set_option maxHeartbeats 8000000 in
theorem visibilitySymmetric_walk {u v vt : Value} {l rs at_ : List Int} (e0 : readsI w u l) (b0 : l.length ≤ 9223372036854775807) (w0 : ∀ x ∈ l, inI64 x) (e1 : readsI w v rs) (b1 : rs.length ≤ 9223372036854775807) (w1 : ∀ x ∈ rs, inI64 x)
    (e2 : readsI w vt at_) (b2 : at_.length ≤ 9223372036854775807) (w2 : ∀ x ∈ at_, inI64 x) :
    Calls Try.prog 5 #[u, v, vt] w fun e w' => e = .returned (.bool true) ∧ Below w.heap.size w w' := by
  have hSet := Setup27_spec e0 w0 b0 e1 w1 b1
  have HS := Lib.hid (And.intro hSet (And.intro e2 (And.intro b2 w2)))
  clear hSet e0 b0 w0 e1 b1 w1 e2 b2 w2
  go_enter Try.func5, Try.ntmps5
  go_wp2_with fail
  refine HS.out.1.mono ?_
  rintro e w1 ⟨su, rfl, hg, hS1, hst1⟩
  have hB1 : Below w.heap.size w w1 := (Su.oldPart hS1).below hst1
  have hrd := Su.reads hS1
  have hbr := Su.bodiesRead hS1
  have hfine := hg.fine
  have hrt : readsI w1 vt at_ := HS.out.2.1.of_heap (Su.oldPart hS1).oldGet
  obtain ⟨np, hnp, hnp3⟩ := hg.base.players_nat
  have hCe := fun (W : World) (M : List Asn) (hW : Sep W (old w1 :: M)) => Cells_spec (w := W) su np hnp (by omega) hg.base.nb (by have := hg.base.few; omega) (hbr.of_heap hW.oldGet) hg.base.near (hrt.of_heap hW.oldGet) HS.out.2.2.2 HS.out.2.2.1
  have hsee := fun (cv : Value) (cs : List Int) (hna : nearAll np su.bodies.length cs) (W : World) (M : List Asn) (hS : Sep W (rowI cv cs :: old w1 :: M)) => seeing_of hg.base hfine (by have := hg.fog; omega) hrd hnp hna hS
  have HC := Lib.hid (And.intro hCe (And.intro hsee (And.intro hg (And.intro hfine hrd))))
  have HB := Lib.hid hB1
  have hpl := hg.base.players
  have hmo := hg.base.more
  have hfew := hg.base.few
  have hro := hg.rooms
  have hnb := hg.base.nb
  clear hS1 hst1 hrd hfine hB1 hg hbr hrt hCe hsee HS hnp
  obtain ⟨s, bodies⟩ := su
  obtain ⟨players, nb, ba, bc, x0, y0, x1, y1, rooms, ra, rc, doors, da, dc, fog, gx, gy, push, drag, rest, rounds, fuel⟩ := s
  dsimp only [St.val, St.doorsV] at *
  subst hnb
  have H1 := Lib.hid (And.intro ((Sep.start w1).alloc (.cells #[i64 0, .slice none 0 0, i64 0, i64 0, i64 0, i64 0, .slice none 0 0, .slice none 0 0, i64 0, i64 0, i64 0, i64 0, i64 0, i64 0, i64 0, i64 0] 31)) ((Stable.refl w1).alloc (.cells #[i64 0, .slice none 0 0, i64 0, i64 0, i64 0, i64 0, .slice none 0 0, .slice none 0 0, i64 0, i64 0, i64 0, i64 0, i64 0, i64 0, i64 0, i64 0] 31)))
  go_upto_region 2 with (refine wpList_store_sep rfl 31 _ _ rfl w1.heap.size #[i64 players, .slice ba bodies.length bc, i64 x0, i64 y0, i64 x1, i64 y1, .slice ra rooms.length rc, .slice da doors.length dc, i64 fog, i64 gx, i64 gy, i64 push, i64 drag, i64 rest, i64 rounds, i64 fuel] rfl rfl H1.out.1 (by kernel_rfl) rfl (by kernel_rfl) ?_; intro w2 hS2 hst2)
  generalize w1.heap.size = bs at *
  have H2 := Lib.hid (And.intro hS2 (H1.out.2.trans hst2))
  clear hS2 hst2 H1
  go_wp2_with (refine wpList_load_g 31 _ rfl _ rfl _ _ _ _ (Sep.get H2.out.1) Try.underlying31 rfl (by kernel_rfl) (by first | rfl | (go_simp; done) | (go_simp; omega)) ?_)
  refine (HC.out.1 _ _ (H2.out.1.pick 1)).mono ?_
  rintro e w3 ⟨cv, cs, rfl, hna, hS3, hst3⟩
  have hS4 := H2.out.1.mount (hS3.pick 1)
  have hsee := HC.out.2.1 cv cs hna
  have H4 := Lib.hid (And.intro (show Sep w3 [rowI cv cs, pts bs (.cells #[i64 players, .slice ba bodies.length bc, i64 x0, i64 y0, i64 x1, i64 y1, .slice ra rooms.length rc, .slice da doors.length dc, i64 fog, i64 gx, i64 gy, i64 push, i64 drag, i64 rest, i64 rounds, i64 fuel] 31), old w1] from hS4.pick 0) (And.intro (H2.out.2.trans hst3) (And.intro hsee hna)))
  clear hS3 hst3 hS4 hsee hna H2
  have hSe := fun (W : World) (M : List Asn) (hW : Sep W (rowI cv cs :: pts bs (.cells #[i64 players, .slice ba bodies.length bc, i64 x0, i64 y0, i64 x1, i64 y1, .slice ra rooms.length rc, .slice da doors.length dc, i64 fog, i64 gx, i64 gy, i64 push, i64 drag, i64 rest, i64 rounds, i64 fuel] 31) :: old w1 :: M)) (p i : Int) => Sees_spec (H4.out.2.2.1 W _ ((hW.pick 2).pick 1)) p i
  have hQ := fun (W : World) (M : List Asn) (hW : Sep W (old w1 :: M)) (r : Int) => Rooms_all (HC.out.2.2.2.2.of_heap hW.oldGet) HC.out.2.2.2.1 r
  have hlen := roomsI_length ⟨players, bodies.length, ba, bc, x0, y0, x1, y1, rooms, ra, rc, doors, da, dc, fog, gx, gy, push, drag, rest, rounds, fuel⟩
  have hown := roomsI_own ⟨players, bodies.length, ba, bc, x0, y0, x1, y1, rooms, ra, rc, doors, da, dc, fog, gx, gy, push, drag, rest, rounds, fuel⟩
  have hsort := roomsI_sorted ⟨players, bodies.length, ba, bc, x0, y0, x1, y1, rooms, ra, rc, doors, da, dc, fog, gx, gy, push, drag, rest, rounds, fuel⟩
  have hsym := roomsI_sym ⟨players, bodies.length, ba, bc, x0, y0, x1, y1, rooms, ra, rc, doors, da, dc, fog, gx, gy, push, drag, rest, rounds, fuel⟩
  have hcom := fun p q hp hq => seesB_comm (s := ⟨players, bodies.length, ba, bc, x0, y0, x1, y1, rooms, ra, rc, doors, da, dc, fog, gx, gy, push, drag, rest, rounds, fuel⟩) (cs := cs) (p := p) (q := q) hmo hp hq
  dsimp only [St.val] at hSe hQ hlen hown hsort hsym hcom
  generalize seesB ⟨players, bodies.length, ba, bc, x0, y0, x1, y1, rooms, ra, rc, doors, da, dc, fog, gx, gy, push, drag, rest, rounds, fuel⟩ cs = sb at *
  generalize roomsI ⟨players, bodies.length, ba, bc, x0, y0, x1, y1, rooms, ra, rc, doors, da, dc, fog, gx, gy, push, drag, rest, rounds, fuel⟩ = q at *
  have hlq : ∀ r, (q r).length ≤ 1000000000000 := fun r => by have := hlen r; omega
  clear HC
  have HC := Lib.hid (And.intro hSe (And.intro hQ (And.intro hown (And.intro hsort (And.intro hsym (And.intro hcom hlq))))))
  have H5 := Lib.hid (And.intro H4.out.1 H4.out.2.1)
  clear hSe hQ hlen hown hsort hsym hcom hlq H4
  go_wp2_with fail
  go_loopw [9, 10, 11] (fun i o k wr => ∃ i' : Nat, i' ≤ rooms.length ∧ i = .int .i64 i' ∧ Sep wr [rowI cv cs, pts bs (.cells #[i64 players, .slice ba bodies.length bc, i64 x0, i64 y0, i64 x1, i64 y1, .slice ra rooms.length rc, .slice da doors.length dc, i64 fog, i64 gx, i64 gy, i64 push, i64 drag, i64 rest, i64 rounds, i64 fuel] 31), old w1] ∧ Stable w1 wr) (fun i _ _ _ => rooms.length - (intOf i).toNat)
  case atStart => exact ⟨0, by omega, rfl, H5.out.1, H5.out.2⟩
  case round =>
    obtain ⟨i, hi, rfl, hSr, hst⟩ := hrel
    have s6 : wr.cell? ⟨bs, 6, none⟩ = some (.slice ra rooms.length rc) := cell_of_blk (hSr.pick 1).get 6
    have HR := Lib.hid (And.intro hSr hst)
    clear hSr hst
    by_cases hlt : i < rooms.length
    · have hin : 0 ≤ (i : Int) ∧ (i : Int) < rooms.length := by omega
      have hq := HC.out.2.1 wr _ (HR.out.1.pick 2) i
      have ho := HC.out.2.2.1 i hin
      have hso := HC.out.2.2.2.1 i
      have hsy := fun k hk => HC.out.2.2.2.2.1 (i : Int) k hin hk
      have hlq := HC.out.2.2.2.2.2.2
      have HQ := Lib.hid hq
      generalize hl : q i = l at *
      have HQ2 := HQ
      have hl4 : l.length ≤ 1000000000000 := by have := hlq i; rw [hl] at this; exact this
      have hpos : 0 < l.length := by
        rcases l with _ | ⟨a, l⟩
        · simp [hasE] at ho
        · simp
      have HL := Lib.hid (And.intro ho (And.intro hso (And.intro hsy (And.intro hlq hl4))))
      have hpos' := Lib.hid hpos
      clear hl hq ho hso hsy hlq HQ hpos hin
      go_wp2_with (refine wpList_load_g 31 _ rfl _ rfl _ _ _ _ (Sep.get (HR.out.1.pick 1)) Try.underlying31 rfl (by kernel_rfl) (by first | rfl | (go_simp; done) | (go_simp; omega)) ?_)
      refine HQ2.out.mono ?_
      rintro e w5 ⟨ov, rfl, hS5, hst5⟩
      have hS6 := HR.out.1.mount (hS5.pick 1)
      obtain ⟨g, cap, rfl, hcap1, hcap2, _⟩ := rowI_at (hS6.pick 0) hpos'.out
      obtain ⟨N, hN⟩ : ∃ N : Nat, N = l.length := ⟨_, rfl⟩
      rw [← hN] at hcap1
      have hS7 : Sep w5 [rowI (.slice (some ⟨g, 0, none⟩) N cap) l, rowI cv cs, pts bs (.cells #[i64 players, .slice ba bodies.length bc, i64 x0, i64 y0, i64 x1, i64 y1, .slice ra rooms.length rc, .slice da doors.length dc, i64 fog, i64 gx, i64 gy, i64 push, i64 drag, i64 rest, i64 rounds, i64 fuel] 31), old w1] := by rw [hN]; exact hS6
      have hN0 : 0 < N := by rw [hN]; exact hpos'.out
      have hN1 : N ≤ 1000000000000 := by rw [hN]; exact HL.out.2.2.2.2
      have HN := Lib.hid hN
      rw [← hN]
      have hHas := Has_true HL.out.1 hS7.reads HL.out.2.2.2.2
      have H7 := Lib.hid (And.intro hS7 (And.intro (HR.out.2.trans hst5) hHas))
      clear hS5 hst5 hS6 hN hS7 hHas s6
      go_wp2_with fail
      refine H7.out.2.2.mono ?_
      rintro e w6 ⟨rfl, rfl⟩
      have H8 := Lib.hid (And.intro H7.out.1 H7.out.2.1)
      clear H7
      go_wp2_with fail
      obtain ⟨wo, hwo⟩ : ∃ wo : World, wo = w5 := ⟨_, rfl⟩
      clear hwo
      go_loopw [11] (fun kk wr => ∃ k : Nat, k ≤ N ∧ kk = .int .i64 k ∧ Sep wr [rowI (.slice (some ⟨g, 0, none⟩) N cap) l, rowI cv cs, pts bs (.cells #[i64 players, .slice ba bodies.length bc, i64 x0, i64 y0, i64 x1, i64 y1, .slice ra rooms.length rc, .slice da doors.length dc, i64 fog, i64 gx, i64 gy, i64 push, i64 drag, i64 rest, i64 rounds, i64 fuel] 31), old w1] ∧ Stable w1 wr) (fun k _ => N - (intOf k).toNat)
      case atStart => exact ⟨0, by omega, rfl, H8.out.1, H8.out.2⟩
      case round =>
        obtain ⟨k, hk, rfl, hSr, hst⟩ := hrel
        have HR2 := Lib.hid (And.intro hSr hst)
        clear hSr hst
        by_cases hlk : k < N
        · have hlk' : k < l.length := by have := HN.out; omega
          have hcy : ∀ (W : World) (M : List Asn), Sep W (rowI (.slice (some ⟨g, 0, none⟩) N cap) l :: M) → W.cell? ⟨g, k, none⟩ = some (i64 (l.getD k 0)) := fun W M h => rowI_cell h hlk'
          have hhas := HL.out.2.2.1 k hlk'
          generalize hy : l.getD k 0 = y at *
          have hlq := HL.out.2.2.2.1
          have HY := Lib.hid hy
          have HH := Lib.hid (And.intro hcy (And.intro hhas hlq))
          clear hy hcy hhas hlq hlk'
          go_upto_region 12 with fail
          go_cut [64] from 40 to 63 (fun x64 wx => x64 = .bool false ∧ Sep wx [rowI (.slice (some ⟨g, 0, none⟩) N cap) l, rowI cv cs, pts bs (.cells #[i64 players, .slice ba bodies.length bc, i64 x0, i64 y0, i64 x1, i64 y1, .slice ra rooms.length rc, .slice da doors.length dc, i64 fog, i64 gx, i64 gy, i64 push, i64 drag, i64 rest, i64 rounds, i64 fuel] 31), old w1] ∧ Stable w1 wx)
          case first =>
            have hlt2 : (k : Int) < (N : Int) := by omega
            have hge : (0 : Int) ≤ (k : Int) := by omega
            by_cases hk0 : k = 0
            · have hg0 : decide ((0 : Int) < (k : Int)) = false := by rw [decide_eq_false_iff_not]; omega
              have hg1 : decide (0 < k) = false := by rw [decide_eq_false_iff_not]; omega
              have HK := Lib.hid hk0
              clear hk0
              refine wp_region_dag (w0 := w1) 25 [some 40, some 41, some 42, some 43, some 44, some 45, some 46, some 47, some 48, some 49, some 50, some 51, some 52, some 53, some 54, some 55, some 56, some 57, some 58, some 59, some 60, some 61, some 62, some 63, some 64] [.det [] (i64 k), .det [0] (.bool false), .det [1] (.bool false), .any [2], .any [2], .any [2], .any [2], .any [2], .any [2], .any [2], .any [2], .any [2], .any [2], .det [2] (.bool false), .det [13] (.bool false), .det [14] (.agg #[i64 players, .slice ba bodies.length bc, i64 x0, i64 y0, i64 x1, i64 y1, .slice ra rooms.length rc, .slice da doors.length dc, i64 fog, i64 gx, i64 gy, i64 push, i64 drag, i64 rest, i64 rounds, i64 fuel]), .det [14] (.slice (some ⟨g, 0, none⟩) N cap), .det [14] (i64 k), .det [16, 17, 14] (.pointer (some ⟨g, k, none⟩)), .det [18, 14] (i64 y), .make [15, 19, 14] (fun x => rowI x (q y)), .det [14] (i64 i), Sp.mk [20, 21, 14] [20] (fun _ x => x = .bool true) (fun _ _ => emp), .det [22, 14] (.bool false), .det [14, 23] (.bool false)] [rowI (.slice (some ⟨g, 0, none⟩) N cap) l, rowI cv cs, pts bs (.cells #[i64 players, .slice ba bodies.length bc, i64 x0, i64 y0, i64 x1, i64 y1, .slice ra rooms.length rc, .slice da doors.length dc, i64 fog, i64 gx, i64 gy, i64 push, i64 drag, i64 rest, i64 rounds, i64 fuel] 31), old w1] [] rfl (by kernel_rfl) (by kernel_rfl) (by kernel_rfl) (by kernel_rfl) (HR2.out.1) (HR2.out.2) ⟨⟨⟨⟨⟨⟨⟨⟨⟨⟨⟨⟨⟨⟨⟨⟨⟨⟨⟨⟨⟨⟨⟨⟨⟨trivial, ?_⟩, ?_⟩, ?_⟩, ?_⟩, ?_⟩, ?_⟩, ?_⟩, ?_⟩, ?_⟩, ?_⟩, ?_⟩, ?_⟩, ?_⟩, ?_⟩, ?_⟩, ?_⟩, ?_⟩, ?_⟩, ?_⟩, ?_⟩, ?_⟩, ?_⟩, ?_⟩, ?_⟩, ?_⟩ ?_
              · refine all25 fun z0 z1 z2 z3 z4 z5 z6 z7 z8 z9 z10 z11 z12 z13 z14 z15 z16 z17 z18 z19 z20 z21 z22 z23 z24 W L hv hS hst a ha K hK => ?_
                simp only [dagPut, Act.put, List.setIfInBounds_toArray, List.set_cons_zero, List.set_cons_succ] at ha
                subst ha
                refine wpOp_plain rfl rfl ?_
                simp only [Act.put, List.setIfInBounds_toArray, List.set_cons_zero, List.set_cons_succ, List.getD_cons_zero] at hK
                go_simp
                exact hK.out _ _ rfl (sepEmp hS) hst
              · refine all25 fun z0 z1 z2 z3 z4 z5 z6 z7 z8 z9 z10 z11 z12 z13 z14 z15 z16 z17 z18 z19 z20 z21 z22 z23 z24 W L hv hS hst a ha K hK => ?_
                obtain ⟨v0, _⟩ := hv
                obtain rfl : z0 = _ := v0
                simp only [dagPut, Act.put, List.setIfInBounds_toArray, List.set_cons_zero, List.set_cons_succ] at ha
                subst ha
                refine wpOp_plain rfl rfl ?_
                simp only [Act.put, List.setIfInBounds_toArray, List.set_cons_zero, List.set_cons_succ, List.getD_cons_succ, List.getD_cons_zero] at hK
                go_simp
                exact hK.out _ _ rfl (sepEmp hS) hst
              · refine all25 fun z0 z1 z2 z3 z4 z5 z6 z7 z8 z9 z10 z11 z12 z13 z14 z15 z16 z17 z18 z19 z20 z21 z22 z23 z24 W L hv hS hst a ha K hK => ?_
                obtain ⟨v1, _⟩ := hv
                obtain rfl : z1 = _ := v1
                simp only [dagPut, Act.put, List.setIfInBounds_toArray, List.set_cons_zero, List.set_cons_succ] at ha
                subst ha
                refine wpOp_plain rfl rfl ?_
                simp only [Act.put, List.setIfInBounds_toArray, List.set_cons_zero, List.set_cons_succ, List.getD_cons_succ, List.getD_cons_zero] at hK
                go_simp
                exact hK.out _ _ rfl (sepEmp hS) hst
              · refine all25 fun z0 z1 z2 z3 z4 z5 z6 z7 z8 z9 z10 z11 z12 z13 z14 z15 z16 z17 z18 z19 z20 z21 z22 z23 z24 W L hv hS hst a ha K hK => ?_
                obtain ⟨v2, _⟩ := hv
                obtain rfl : z2 = _ := v2
                simp only [dagPut, Act.put, List.setIfInBounds_toArray, List.set_cons_zero, List.set_cons_succ] at ha
                subst ha
                refine wpOp_off rfl rfl ?_
                simp only [Act.put, List.setIfInBounds_toArray, List.set_cons_zero, List.set_cons_succ, List.getD_cons_succ, List.getD_cons_zero] at hK
                exact hK.out undef _ trivial (sepEmp hS) hst
              · refine all25 fun z0 z1 z2 z3 z4 z5 z6 z7 z8 z9 z10 z11 z12 z13 z14 z15 z16 z17 z18 z19 z20 z21 z22 z23 z24 W L hv hS hst a ha K hK => ?_
                obtain ⟨v2, _⟩ := hv
                obtain rfl : z2 = _ := v2
                simp only [dagPut, Act.put, List.setIfInBounds_toArray, List.set_cons_zero, List.set_cons_succ] at ha
                subst ha
                refine wpOp_off rfl rfl ?_
                simp only [Act.put, List.setIfInBounds_toArray, List.set_cons_zero, List.set_cons_succ, List.getD_cons_succ, List.getD_cons_zero] at hK
                exact hK.out undef _ trivial (sepEmp hS) hst
              · refine all25 fun z0 z1 z2 z3 z4 z5 z6 z7 z8 z9 z10 z11 z12 z13 z14 z15 z16 z17 z18 z19 z20 z21 z22 z23 z24 W L hv hS hst a ha K hK => ?_
                obtain ⟨v2, _⟩ := hv
                obtain rfl : z2 = _ := v2
                simp only [dagPut, Act.put, List.setIfInBounds_toArray, List.set_cons_zero, List.set_cons_succ] at ha
                subst ha
                refine wpOp_off rfl rfl ?_
                simp only [Act.put, List.setIfInBounds_toArray, List.set_cons_zero, List.set_cons_succ, List.getD_cons_succ, List.getD_cons_zero] at hK
                exact hK.out undef _ trivial (sepEmp hS) hst
              · refine all25 fun z0 z1 z2 z3 z4 z5 z6 z7 z8 z9 z10 z11 z12 z13 z14 z15 z16 z17 z18 z19 z20 z21 z22 z23 z24 W L hv hS hst a ha K hK => ?_
                obtain ⟨v2, _⟩ := hv
                obtain rfl : z2 = _ := v2
                simp only [dagPut, Act.put, List.setIfInBounds_toArray, List.set_cons_zero, List.set_cons_succ] at ha
                subst ha
                refine wpOp_off rfl rfl ?_
                simp only [Act.put, List.setIfInBounds_toArray, List.set_cons_zero, List.set_cons_succ, List.getD_cons_succ, List.getD_cons_zero] at hK
                exact hK.out undef _ trivial (sepEmp hS) hst
              · refine all25 fun z0 z1 z2 z3 z4 z5 z6 z7 z8 z9 z10 z11 z12 z13 z14 z15 z16 z17 z18 z19 z20 z21 z22 z23 z24 W L hv hS hst a ha K hK => ?_
                obtain ⟨v2, _⟩ := hv
                obtain rfl : z2 = _ := v2
                simp only [dagPut, Act.put, List.setIfInBounds_toArray, List.set_cons_zero, List.set_cons_succ] at ha
                subst ha
                refine wpOp_off rfl rfl ?_
                simp only [Act.put, List.setIfInBounds_toArray, List.set_cons_zero, List.set_cons_succ, List.getD_cons_succ, List.getD_cons_zero] at hK
                exact hK.out undef _ trivial (sepEmp hS) hst
              · refine all25 fun z0 z1 z2 z3 z4 z5 z6 z7 z8 z9 z10 z11 z12 z13 z14 z15 z16 z17 z18 z19 z20 z21 z22 z23 z24 W L hv hS hst a ha K hK => ?_
                obtain ⟨v2, _⟩ := hv
                obtain rfl : z2 = _ := v2
                simp only [dagPut, Act.put, List.setIfInBounds_toArray, List.set_cons_zero, List.set_cons_succ] at ha
                subst ha
                refine wpOp_off rfl rfl ?_
                simp only [Act.put, List.setIfInBounds_toArray, List.set_cons_zero, List.set_cons_succ, List.getD_cons_succ, List.getD_cons_zero] at hK
                exact hK.out undef _ trivial (sepEmp hS) hst
              · refine all25 fun z0 z1 z2 z3 z4 z5 z6 z7 z8 z9 z10 z11 z12 z13 z14 z15 z16 z17 z18 z19 z20 z21 z22 z23 z24 W L hv hS hst a ha K hK => ?_
                obtain ⟨v2, _⟩ := hv
                obtain rfl : z2 = _ := v2
                simp only [dagPut, Act.put, List.setIfInBounds_toArray, List.set_cons_zero, List.set_cons_succ] at ha
                subst ha
                refine wpOp_off rfl rfl ?_
                simp only [Act.put, List.setIfInBounds_toArray, List.set_cons_zero, List.set_cons_succ, List.getD_cons_succ, List.getD_cons_zero] at hK
                exact hK.out undef _ trivial (sepEmp hS) hst
              · refine all25 fun z0 z1 z2 z3 z4 z5 z6 z7 z8 z9 z10 z11 z12 z13 z14 z15 z16 z17 z18 z19 z20 z21 z22 z23 z24 W L hv hS hst a ha K hK => ?_
                obtain ⟨v2, _⟩ := hv
                obtain rfl : z2 = _ := v2
                simp only [dagPut, Act.put, List.setIfInBounds_toArray, List.set_cons_zero, List.set_cons_succ] at ha
                subst ha
                refine wpOp_off rfl rfl ?_
                simp only [Act.put, List.setIfInBounds_toArray, List.set_cons_zero, List.set_cons_succ, List.getD_cons_succ, List.getD_cons_zero] at hK
                exact hK.out undef _ trivial (sepEmp hS) hst
              · refine all25 fun z0 z1 z2 z3 z4 z5 z6 z7 z8 z9 z10 z11 z12 z13 z14 z15 z16 z17 z18 z19 z20 z21 z22 z23 z24 W L hv hS hst a ha K hK => ?_
                obtain ⟨v2, _⟩ := hv
                obtain rfl : z2 = _ := v2
                simp only [dagPut, Act.put, List.setIfInBounds_toArray, List.set_cons_zero, List.set_cons_succ] at ha
                subst ha
                refine wpOp_off rfl rfl ?_
                simp only [Act.put, List.setIfInBounds_toArray, List.set_cons_zero, List.set_cons_succ, List.getD_cons_succ, List.getD_cons_zero] at hK
                exact hK.out undef _ trivial (sepEmp hS) hst
              · refine all25 fun z0 z1 z2 z3 z4 z5 z6 z7 z8 z9 z10 z11 z12 z13 z14 z15 z16 z17 z18 z19 z20 z21 z22 z23 z24 W L hv hS hst a ha K hK => ?_
                obtain ⟨v2, _⟩ := hv
                obtain rfl : z2 = _ := v2
                simp only [dagPut, Act.put, List.setIfInBounds_toArray, List.set_cons_zero, List.set_cons_succ] at ha
                subst ha
                refine wpOp_off rfl rfl ?_
                simp only [Act.put, List.setIfInBounds_toArray, List.set_cons_zero, List.set_cons_succ, List.getD_cons_succ, List.getD_cons_zero] at hK
                exact hK.out undef _ trivial (sepEmp hS) hst
              · refine all25 fun z0 z1 z2 z3 z4 z5 z6 z7 z8 z9 z10 z11 z12 z13 z14 z15 z16 z17 z18 z19 z20 z21 z22 z23 z24 W L hv hS hst a ha K hK => ?_
                obtain ⟨v2, _⟩ := hv
                obtain rfl : z2 = _ := v2
                simp only [dagPut, Act.put, List.setIfInBounds_toArray, List.set_cons_zero, List.set_cons_succ] at ha
                subst ha
                refine wpOp_plain rfl rfl ?_
                simp only [Act.put, List.setIfInBounds_toArray, List.set_cons_zero, List.set_cons_succ, List.getD_cons_succ, List.getD_cons_zero] at hK
                go_simp
                exact hK.out _ _ rfl (sepEmp hS) hst
              · refine all25 fun z0 z1 z2 z3 z4 z5 z6 z7 z8 z9 z10 z11 z12 z13 z14 z15 z16 z17 z18 z19 z20 z21 z22 z23 z24 W L hv hS hst a ha K hK => ?_
                obtain ⟨v13, _⟩ := hv
                obtain rfl : z13 = _ := v13
                simp only [dagPut, Act.put, List.setIfInBounds_toArray, List.set_cons_zero, List.set_cons_succ] at ha
                subst ha
                refine wpOp_plain rfl rfl ?_
                simp only [Act.put, List.setIfInBounds_toArray, List.set_cons_zero, List.set_cons_succ, List.getD_cons_succ, List.getD_cons_zero] at hK
                go_simp
                exact hK.out _ _ rfl (sepEmp hS) hst
              · refine all25 fun z0 z1 z2 z3 z4 z5 z6 z7 z8 z9 z10 z11 z12 z13 z14 z15 z16 z17 z18 z19 z20 z21 z22 z23 z24 W L hv hS hst a ha K hK => ?_
                obtain ⟨v14, _⟩ := hv
                obtain rfl : z14 = _ := v14
                simp only [dagPut, Act.put, List.setIfInBounds_toArray, List.set_cons_zero, List.set_cons_succ] at ha
                subst ha
                refine wpOp_on rfl rfl ?_
                simp only [Act.put, List.setIfInBounds_toArray, List.set_cons_zero, List.set_cons_succ, List.getD_cons_succ, List.getD_cons_zero] at hK
                refine wp_load_row 31 _ rfl _ rfl _ _ _ _ (Sep.get (L := _) (Sep.pick 2 hS)) Try.underlying31 rfl (by kernel_rfl) ?_
                exact hK.out _ _ rfl (sepEmp hS) hst
              · refine all25 fun z0 z1 z2 z3 z4 z5 z6 z7 z8 z9 z10 z11 z12 z13 z14 z15 z16 z17 z18 z19 z20 z21 z22 z23 z24 W L hv hS hst a ha K hK => ?_
                obtain ⟨v14, _⟩ := hv
                obtain rfl : z14 = _ := v14
                simp only [dagPut, Act.put, List.setIfInBounds_toArray, List.set_cons_zero, List.set_cons_succ] at ha
                subst ha
                refine wpOp_on rfl rfl ?_
                simp only [Act.put, List.setIfInBounds_toArray, List.set_cons_zero, List.set_cons_succ, List.getD_cons_succ, List.getD_cons_zero] at hK
                go_simp
                exact hK.out _ _ rfl (sepEmp hS) hst
              · refine all25 fun z0 z1 z2 z3 z4 z5 z6 z7 z8 z9 z10 z11 z12 z13 z14 z15 z16 z17 z18 z19 z20 z21 z22 z23 z24 W L hv hS hst a ha K hK => ?_
                obtain ⟨v14, _⟩ := hv
                obtain rfl : z14 = _ := v14
                simp only [dagPut, Act.put, List.setIfInBounds_toArray, List.set_cons_zero, List.set_cons_succ] at ha
                subst ha
                refine wpOp_on rfl rfl ?_
                simp only [Act.put, List.setIfInBounds_toArray, List.set_cons_zero, List.set_cons_succ, List.getD_cons_succ, List.getD_cons_zero] at hK
                go_simp
                exact hK.out _ _ rfl (sepEmp hS) hst
              · refine all25 fun z0 z1 z2 z3 z4 z5 z6 z7 z8 z9 z10 z11 z12 z13 z14 z15 z16 z17 z18 z19 z20 z21 z22 z23 z24 W L hv hS hst a ha K hK => ?_
                obtain ⟨v16, v17, v14, _⟩ := hv
                obtain rfl : z16 = _ := v16
                obtain rfl : z17 = _ := v17
                obtain rfl : z14 = _ := v14
                simp only [dagPut, Act.put, List.setIfInBounds_toArray, List.set_cons_zero, List.set_cons_succ] at ha
                subst ha
                refine wpOp_on rfl rfl ?_
                simp only [Act.put, List.setIfInBounds_toArray, List.set_cons_zero, List.set_cons_succ, List.getD_cons_succ, List.getD_cons_zero] at hK
                go_simp
                exact hK.out _ _ rfl (sepEmp hS) hst
              · refine all25 fun z0 z1 z2 z3 z4 z5 z6 z7 z8 z9 z10 z11 z12 z13 z14 z15 z16 z17 z18 z19 z20 z21 z22 z23 z24 W L hv hS hst a ha K hK => ?_
                obtain ⟨v18, v14, _⟩ := hv
                obtain rfl : z18 = _ := v18
                obtain rfl : z14 = _ := v14
                have c0 := HH.out.1 W _ hS
                simp only [dagPut, Act.put, List.setIfInBounds_toArray, List.set_cons_zero, List.set_cons_succ] at ha
                subst ha
                refine wpOp_on rfl rfl ?_
                simp only [Act.put, List.setIfInBounds_toArray, List.set_cons_zero, List.set_cons_succ, List.getD_cons_succ, List.getD_cons_zero] at hK
                go_simp
                exact hK.out _ _ rfl (sepEmp hS) hst
              · refine all25 fun z0 z1 z2 z3 z4 z5 z6 z7 z8 z9 z10 z11 z12 z13 z14 z15 z16 z17 z18 z19 z20 z21 z22 z23 z24 W L hv hS hst a ha K hK => ?_
                obtain ⟨v15, v19, v14, _⟩ := hv
                obtain rfl : z15 = _ := v15
                obtain rfl : z19 = _ := v19
                obtain rfl : z14 = _ := v14
                simp only [dagPut, Act.put, List.setIfInBounds_toArray, List.set_cons_zero, List.set_cons_succ] at ha
                subst ha
                refine wpOp_on rfl rfl ?_
                simp only [Act.put, List.setIfInBounds_toArray, List.set_cons_zero, List.set_cons_succ, List.getD_cons_succ, List.getD_cons_zero] at hK
                go_simp
                refine (HC.out.2.1 W _ (Sep.pick 3 hS) y).mono ?_
                rintro e w3 ⟨v3, rfl, hS3, hst3⟩
                exact hK.out _ _ trivial ((Sep.mount hS (Sep.pick 1 hS3))) (hst.trans hst3)
              · refine all25 fun z0 z1 z2 z3 z4 z5 z6 z7 z8 z9 z10 z11 z12 z13 z14 z15 z16 z17 z18 z19 z20 z21 z22 z23 z24 W L hv hS hst a ha K hK => ?_
                obtain ⟨v14, _⟩ := hv
                obtain rfl : z14 = _ := v14
                simp only [dagPut, Act.put, List.setIfInBounds_toArray, List.set_cons_zero, List.set_cons_succ] at ha
                subst ha
                refine wpOp_on rfl rfl ?_
                simp only [Act.put, List.setIfInBounds_toArray, List.set_cons_zero, List.set_cons_succ, List.getD_cons_succ, List.getD_cons_zero] at hK
                go_simp
                exact hK.out _ _ rfl (sepEmp hS) hst
              · refine all25 fun z0 z1 z2 z3 z4 z5 z6 z7 z8 z9 z10 z11 z12 z13 z14 z15 z16 z17 z18 z19 z20 z21 z22 z23 z24 W L hv hS hst a ha K hK => ?_
                have hS0 : Sep W (rowI z20 (q y) :: _) := hS
                obtain ⟨v20, v21, v14, _⟩ := hv
                obtain rfl : z21 = _ := v21
                obtain rfl : z14 = _ := v14
                simp only [dagPut, Act.put, List.setIfInBounds_toArray, List.set_cons_zero, List.set_cons_succ] at ha
                subst ha
                refine wpOp_on rfl rfl ?_
                simp only [Act.put, List.setIfInBounds_toArray, List.set_cons_zero, List.set_cons_succ, List.getD_cons_succ, List.getD_cons_zero] at hK
                go_simp
                refine (Has_true (HH.out.2.1) hS0.reads (HH.out.2.2 y)).mono ?_
                rintro e w3 ⟨rfl, rfl⟩
                exact hK.out _ _ rfl (sepEmp hS0.drop) hst
              · refine all25 fun z0 z1 z2 z3 z4 z5 z6 z7 z8 z9 z10 z11 z12 z13 z14 z15 z16 z17 z18 z19 z20 z21 z22 z23 z24 W L hv hS hst a ha K hK => ?_
                obtain ⟨v22, v14, _⟩ := hv
                obtain rfl : z22 = _ := v22
                obtain rfl : z14 = _ := v14
                simp only [dagPut, Act.put, List.setIfInBounds_toArray, List.set_cons_zero, List.set_cons_succ] at ha
                subst ha
                refine wpOp_on rfl rfl ?_
                simp only [Act.put, List.setIfInBounds_toArray, List.set_cons_zero, List.set_cons_succ, List.getD_cons_succ, List.getD_cons_zero] at hK
                go_simp
                exact hK.out _ _ rfl (sepEmp hS) hst
              · refine all25 fun z0 z1 z2 z3 z4 z5 z6 z7 z8 z9 z10 z11 z12 z13 z14 z15 z16 z17 z18 z19 z20 z21 z22 z23 z24 W L hv hS hst a ha K hK => ?_
                obtain ⟨v14, v23, _⟩ := hv
                obtain rfl : z14 = _ := v14
                obtain rfl : z23 = _ := v23
                simp only [dagPut, Act.put, List.setIfInBounds_toArray, List.set_cons_zero, List.set_cons_succ] at ha
                subst ha
                refine wpOp_plain rfl rfl ?_
                simp only [Act.put, List.setIfInBounds_toArray, List.set_cons_zero, List.set_cons_succ, List.getD_cons_succ, List.getD_cons_zero] at hK
                go_simp
                exact hK.out _ _ rfl (sepEmp hS) hst
              · refine all25 fun z0 z1 z2 z3 z4 z5 z6 z7 z8 z9 z10 z11 z12 z13 z14 z15 z16 z17 z18 z19 z20 z21 z22 z23 z24 W hv hS hst a ha => ?_
                obtain ⟨⟨⟨⟨⟨⟨⟨⟨⟨⟨⟨⟨⟨⟨⟨⟨⟨⟨⟨⟨⟨⟨⟨⟨⟨_, v0⟩, v1⟩, v2⟩, v3⟩, v4⟩, v5⟩, v6⟩, v7⟩, v8⟩, v9⟩, v10⟩, v11⟩, v12⟩, v13⟩, v14⟩, v15⟩, v16⟩, v17⟩, v18⟩, v19⟩, v20⟩, v21⟩, v22⟩, v23⟩, v24⟩ := hv
                obtain rfl : z0 = _ := v0
                obtain rfl : z1 = _ := v1
                obtain rfl : z2 = _ := v2
                obtain rfl : z13 = _ := v13
                obtain rfl : z14 = _ := v14
                obtain rfl : z15 = _ := v15
                obtain rfl : z16 = _ := v16
                obtain rfl : z17 = _ := v17
                obtain rfl : z18 = _ := v18
                obtain rfl : z19 = _ := v19
                obtain rfl : z21 = _ := v21
                obtain rfl : z22 = _ := v22
                obtain rfl : z23 = _ := v23
                obtain rfl : z24 = _ := v24
                simp only [dagPut, Act.put, List.setIfInBounds_toArray, List.set_cons_zero, List.set_cons_succ] at ha; subst ha
                go_wp2_with fail
                go_meet
                exact ⟨rfl, hS, hst⟩
            · have hg0 : decide ((0 : Int) < (k : Int)) = true := by rw [decide_eq_true_iff]; omega
              have hg1 : decide (0 < k) = true := by rw [decide_eq_true_iff]; omega
              have hlk' : k - 1 < l.length := by have := HN.out; omega
              have hcy0 : ∀ (W : World) (M : List Asn), Sep W (rowI (.slice (some ⟨g, 0, none⟩) N cap) l :: M) → W.cell? ⟨g, k - 1, none⟩ = some (i64 (l.getD (k - 1) 0)) := fun W M h => rowI_cell h hlk'
              have hso := HL.out.2.1 (k - 1) (by have := HN.out; omega)
              rw [show k - 1 + 1 = k by omega, HY.out] at hso
              generalize l.getD (k - 1) 0 = yp at *
              have hyy : decide (y ≤ yp) = false := by rw [decide_eq_false_iff_not]; omega
              have HY0 := Lib.hid hcy0
              have q1 : IntKind.i64.wrap ((k : Int) - 1) = (k : Int) - 1 := wr_in (by omega)
              have q2 : (0 : Int) ≤ (k : Int) - 1 := by omega
              have q3 : (k : Int) - 1 < (N : Int) := by omega
              have q4 : ((k : Int) - 1).toNat = k - 1 := by omega
              have q5 : (1 : Int) ≤ (k : Int) := by omega
              have HK := Lib.hid hk0
              clear hk0 hcy0 hso hlk'
              refine wp_region_dag (w0 := w1) 25 [some 40, some 41, some 42, some 43, some 44, some 45, some 46, some 47, some 48, some 49, some 50, some 51, some 52, some 53, some 54, some 55, some 56, some 57, some 58, some 59, some 60, some 61, some 62, some 63, some 64] [.det [] (i64 k), .det [0] (.bool true), .det [1] (.bool true), .det [2] (.slice (some ⟨g, 0, none⟩) N cap), .det [2] (i64 k), .det [4, 2] (i64 ((k : Int) - 1)), .det [3, 5, 2] (.pointer (some ⟨g, k - 1, none⟩)), .det [6, 2] (i64 yp), .det [2] (.slice (some ⟨g, 0, none⟩) N cap), .det [2] (i64 k), .det [8, 9, 2] (.pointer (some ⟨g, k, none⟩)), .det [10, 2] (i64 y), .det [7, 11, 2] (.bool false), .det [2, 12] (.bool false), .det [13] (.bool false), .det [14] (.agg #[i64 players, .slice ba bodies.length bc, i64 x0, i64 y0, i64 x1, i64 y1, .slice ra rooms.length rc, .slice da doors.length dc, i64 fog, i64 gx, i64 gy, i64 push, i64 drag, i64 rest, i64 rounds, i64 fuel]), .det [14] (.slice (some ⟨g, 0, none⟩) N cap), .det [14] (i64 k), .det [16, 17, 14] (.pointer (some ⟨g, k, none⟩)), .det [18, 14] (i64 y), .make [15, 19, 14] (fun x => rowI x (q y)), .det [14] (i64 i), Sp.mk [20, 21, 14] [20] (fun _ x => x = .bool true) (fun _ _ => emp), .det [22, 14] (.bool false), .det [14, 23] (.bool false)] [rowI (.slice (some ⟨g, 0, none⟩) N cap) l, rowI cv cs, pts bs (.cells #[i64 players, .slice ba bodies.length bc, i64 x0, i64 y0, i64 x1, i64 y1, .slice ra rooms.length rc, .slice da doors.length dc, i64 fog, i64 gx, i64 gy, i64 push, i64 drag, i64 rest, i64 rounds, i64 fuel] 31), old w1] [] rfl (by kernel_rfl) (by kernel_rfl) (by kernel_rfl) (by kernel_rfl) (HR2.out.1) (HR2.out.2) ⟨⟨⟨⟨⟨⟨⟨⟨⟨⟨⟨⟨⟨⟨⟨⟨⟨⟨⟨⟨⟨⟨⟨⟨⟨trivial, ?_⟩, ?_⟩, ?_⟩, ?_⟩, ?_⟩, ?_⟩, ?_⟩, ?_⟩, ?_⟩, ?_⟩, ?_⟩, ?_⟩, ?_⟩, ?_⟩, ?_⟩, ?_⟩, ?_⟩, ?_⟩, ?_⟩, ?_⟩, ?_⟩, ?_⟩, ?_⟩, ?_⟩, ?_⟩ ?_
              · refine all25 fun z0 z1 z2 z3 z4 z5 z6 z7 z8 z9 z10 z11 z12 z13 z14 z15 z16 z17 z18 z19 z20 z21 z22 z23 z24 W L hv hS hst a ha K hK => ?_
                simp only [dagPut, Act.put, List.setIfInBounds_toArray, List.set_cons_zero, List.set_cons_succ] at ha
                subst ha
                refine wpOp_plain rfl rfl ?_
                simp only [Act.put, List.setIfInBounds_toArray, List.set_cons_zero, List.set_cons_succ, List.getD_cons_zero] at hK
                go_simp
                exact hK.out _ _ rfl (sepEmp hS) hst
              · refine all25 fun z0 z1 z2 z3 z4 z5 z6 z7 z8 z9 z10 z11 z12 z13 z14 z15 z16 z17 z18 z19 z20 z21 z22 z23 z24 W L hv hS hst a ha K hK => ?_
                obtain ⟨v0, _⟩ := hv
                obtain rfl : z0 = _ := v0
                simp only [dagPut, Act.put, List.setIfInBounds_toArray, List.set_cons_zero, List.set_cons_succ] at ha
                subst ha
                refine wpOp_plain rfl rfl ?_
                simp only [Act.put, List.setIfInBounds_toArray, List.set_cons_zero, List.set_cons_succ, List.getD_cons_succ, List.getD_cons_zero] at hK
                go_simp
                exact hK.out _ _ rfl (sepEmp hS) hst
              · refine all25 fun z0 z1 z2 z3 z4 z5 z6 z7 z8 z9 z10 z11 z12 z13 z14 z15 z16 z17 z18 z19 z20 z21 z22 z23 z24 W L hv hS hst a ha K hK => ?_
                obtain ⟨v1, _⟩ := hv
                obtain rfl : z1 = _ := v1
                simp only [dagPut, Act.put, List.setIfInBounds_toArray, List.set_cons_zero, List.set_cons_succ] at ha
                subst ha
                refine wpOp_plain rfl rfl ?_
                simp only [Act.put, List.setIfInBounds_toArray, List.set_cons_zero, List.set_cons_succ, List.getD_cons_succ, List.getD_cons_zero] at hK
                go_simp
                exact hK.out _ _ rfl (sepEmp hS) hst
              · refine all25 fun z0 z1 z2 z3 z4 z5 z6 z7 z8 z9 z10 z11 z12 z13 z14 z15 z16 z17 z18 z19 z20 z21 z22 z23 z24 W L hv hS hst a ha K hK => ?_
                obtain ⟨v2, _⟩ := hv
                obtain rfl : z2 = _ := v2
                simp only [dagPut, Act.put, List.setIfInBounds_toArray, List.set_cons_zero, List.set_cons_succ] at ha
                subst ha
                refine wpOp_on rfl rfl ?_
                simp only [Act.put, List.setIfInBounds_toArray, List.set_cons_zero, List.set_cons_succ, List.getD_cons_succ, List.getD_cons_zero] at hK
                go_simp
                exact hK.out _ _ rfl (sepEmp hS) hst
              · refine all25 fun z0 z1 z2 z3 z4 z5 z6 z7 z8 z9 z10 z11 z12 z13 z14 z15 z16 z17 z18 z19 z20 z21 z22 z23 z24 W L hv hS hst a ha K hK => ?_
                obtain ⟨v2, _⟩ := hv
                obtain rfl : z2 = _ := v2
                simp only [dagPut, Act.put, List.setIfInBounds_toArray, List.set_cons_zero, List.set_cons_succ] at ha
                subst ha
                refine wpOp_on rfl rfl ?_
                simp only [Act.put, List.setIfInBounds_toArray, List.set_cons_zero, List.set_cons_succ, List.getD_cons_succ, List.getD_cons_zero] at hK
                go_simp
                exact hK.out _ _ rfl (sepEmp hS) hst
              · refine all25 fun z0 z1 z2 z3 z4 z5 z6 z7 z8 z9 z10 z11 z12 z13 z14 z15 z16 z17 z18 z19 z20 z21 z22 z23 z24 W L hv hS hst a ha K hK => ?_
                obtain ⟨v4, v2, _⟩ := hv
                obtain rfl : z4 = _ := v4
                obtain rfl : z2 = _ := v2
                simp only [dagPut, Act.put, List.setIfInBounds_toArray, List.set_cons_zero, List.set_cons_succ] at ha
                subst ha
                refine wpOp_on rfl rfl ?_
                simp only [Act.put, List.setIfInBounds_toArray, List.set_cons_zero, List.set_cons_succ, List.getD_cons_succ, List.getD_cons_zero] at hK
                go_simp
                exact hK.out _ _ rfl (sepEmp hS) hst
              · refine all25 fun z0 z1 z2 z3 z4 z5 z6 z7 z8 z9 z10 z11 z12 z13 z14 z15 z16 z17 z18 z19 z20 z21 z22 z23 z24 W L hv hS hst a ha K hK => ?_
                obtain ⟨v3, v5, v2, _⟩ := hv
                obtain rfl : z3 = _ := v3
                obtain rfl : z5 = _ := v5
                obtain rfl : z2 = _ := v2
                simp only [dagPut, Act.put, List.setIfInBounds_toArray, List.set_cons_zero, List.set_cons_succ] at ha
                subst ha
                refine wpOp_on rfl rfl ?_
                simp only [Act.put, List.setIfInBounds_toArray, List.set_cons_zero, List.set_cons_succ, List.getD_cons_succ, List.getD_cons_zero] at hK
                go_simp
                exact hK.out _ _ rfl (sepEmp hS) hst
              · refine all25 fun z0 z1 z2 z3 z4 z5 z6 z7 z8 z9 z10 z11 z12 z13 z14 z15 z16 z17 z18 z19 z20 z21 z22 z23 z24 W L hv hS hst a ha K hK => ?_
                obtain ⟨v6, v2, _⟩ := hv
                obtain rfl : z6 = _ := v6
                obtain rfl : z2 = _ := v2
                have c0 := HY0.out W _ hS
                simp only [dagPut, Act.put, List.setIfInBounds_toArray, List.set_cons_zero, List.set_cons_succ] at ha
                subst ha
                refine wpOp_on rfl rfl ?_
                simp only [Act.put, List.setIfInBounds_toArray, List.set_cons_zero, List.set_cons_succ, List.getD_cons_succ, List.getD_cons_zero] at hK
                go_simp
                exact hK.out _ _ rfl (sepEmp hS) hst
              · refine all25 fun z0 z1 z2 z3 z4 z5 z6 z7 z8 z9 z10 z11 z12 z13 z14 z15 z16 z17 z18 z19 z20 z21 z22 z23 z24 W L hv hS hst a ha K hK => ?_
                obtain ⟨v2, _⟩ := hv
                obtain rfl : z2 = _ := v2
                simp only [dagPut, Act.put, List.setIfInBounds_toArray, List.set_cons_zero, List.set_cons_succ] at ha
                subst ha
                refine wpOp_on rfl rfl ?_
                simp only [Act.put, List.setIfInBounds_toArray, List.set_cons_zero, List.set_cons_succ, List.getD_cons_succ, List.getD_cons_zero] at hK
                go_simp
                exact hK.out _ _ rfl (sepEmp hS) hst
              · refine all25 fun z0 z1 z2 z3 z4 z5 z6 z7 z8 z9 z10 z11 z12 z13 z14 z15 z16 z17 z18 z19 z20 z21 z22 z23 z24 W L hv hS hst a ha K hK => ?_
                obtain ⟨v2, _⟩ := hv
                obtain rfl : z2 = _ := v2
                simp only [dagPut, Act.put, List.setIfInBounds_toArray, List.set_cons_zero, List.set_cons_succ] at ha
                subst ha
                refine wpOp_on rfl rfl ?_
                simp only [Act.put, List.setIfInBounds_toArray, List.set_cons_zero, List.set_cons_succ, List.getD_cons_succ, List.getD_cons_zero] at hK
                go_simp
                exact hK.out _ _ rfl (sepEmp hS) hst
              · refine all25 fun z0 z1 z2 z3 z4 z5 z6 z7 z8 z9 z10 z11 z12 z13 z14 z15 z16 z17 z18 z19 z20 z21 z22 z23 z24 W L hv hS hst a ha K hK => ?_
                obtain ⟨v8, v9, v2, _⟩ := hv
                obtain rfl : z8 = _ := v8
                obtain rfl : z9 = _ := v9
                obtain rfl : z2 = _ := v2
                simp only [dagPut, Act.put, List.setIfInBounds_toArray, List.set_cons_zero, List.set_cons_succ] at ha
                subst ha
                refine wpOp_on rfl rfl ?_
                simp only [Act.put, List.setIfInBounds_toArray, List.set_cons_zero, List.set_cons_succ, List.getD_cons_succ, List.getD_cons_zero] at hK
                go_simp
                exact hK.out _ _ rfl (sepEmp hS) hst
              · refine all25 fun z0 z1 z2 z3 z4 z5 z6 z7 z8 z9 z10 z11 z12 z13 z14 z15 z16 z17 z18 z19 z20 z21 z22 z23 z24 W L hv hS hst a ha K hK => ?_
                obtain ⟨v10, v2, _⟩ := hv
                obtain rfl : z10 = _ := v10
                obtain rfl : z2 = _ := v2
                have c0 := HH.out.1 W _ hS
                simp only [dagPut, Act.put, List.setIfInBounds_toArray, List.set_cons_zero, List.set_cons_succ] at ha
                subst ha
                refine wpOp_on rfl rfl ?_
                simp only [Act.put, List.setIfInBounds_toArray, List.set_cons_zero, List.set_cons_succ, List.getD_cons_succ, List.getD_cons_zero] at hK
                go_simp
                exact hK.out _ _ rfl (sepEmp hS) hst
              · refine all25 fun z0 z1 z2 z3 z4 z5 z6 z7 z8 z9 z10 z11 z12 z13 z14 z15 z16 z17 z18 z19 z20 z21 z22 z23 z24 W L hv hS hst a ha K hK => ?_
                obtain ⟨v7, v11, v2, _⟩ := hv
                obtain rfl : z7 = _ := v7
                obtain rfl : z11 = _ := v11
                obtain rfl : z2 = _ := v2
                simp only [dagPut, Act.put, List.setIfInBounds_toArray, List.set_cons_zero, List.set_cons_succ] at ha
                subst ha
                refine wpOp_on rfl rfl ?_
                simp only [Act.put, List.setIfInBounds_toArray, List.set_cons_zero, List.set_cons_succ, List.getD_cons_succ, List.getD_cons_zero] at hK
                go_simp
                exact hK.out _ _ rfl (sepEmp hS) hst
              · refine all25 fun z0 z1 z2 z3 z4 z5 z6 z7 z8 z9 z10 z11 z12 z13 z14 z15 z16 z17 z18 z19 z20 z21 z22 z23 z24 W L hv hS hst a ha K hK => ?_
                obtain ⟨v2, v12, _⟩ := hv
                obtain rfl : z2 = _ := v2
                obtain rfl : z12 = _ := v12
                simp only [dagPut, Act.put, List.setIfInBounds_toArray, List.set_cons_zero, List.set_cons_succ] at ha
                subst ha
                refine wpOp_plain rfl rfl ?_
                simp only [Act.put, List.setIfInBounds_toArray, List.set_cons_zero, List.set_cons_succ, List.getD_cons_succ, List.getD_cons_zero] at hK
                go_simp
                exact hK.out _ _ rfl (sepEmp hS) hst
              · refine all25 fun z0 z1 z2 z3 z4 z5 z6 z7 z8 z9 z10 z11 z12 z13 z14 z15 z16 z17 z18 z19 z20 z21 z22 z23 z24 W L hv hS hst a ha K hK => ?_
                obtain ⟨v13, _⟩ := hv
                obtain rfl : z13 = _ := v13
                simp only [dagPut, Act.put, List.setIfInBounds_toArray, List.set_cons_zero, List.set_cons_succ] at ha
                subst ha
                refine wpOp_plain rfl rfl ?_
                simp only [Act.put, List.setIfInBounds_toArray, List.set_cons_zero, List.set_cons_succ, List.getD_cons_succ, List.getD_cons_zero] at hK
                go_simp
                exact hK.out _ _ rfl (sepEmp hS) hst
              · refine all25 fun z0 z1 z2 z3 z4 z5 z6 z7 z8 z9 z10 z11 z12 z13 z14 z15 z16 z17 z18 z19 z20 z21 z22 z23 z24 W L hv hS hst a ha K hK => ?_
                obtain ⟨v14, _⟩ := hv
                obtain rfl : z14 = _ := v14
                simp only [dagPut, Act.put, List.setIfInBounds_toArray, List.set_cons_zero, List.set_cons_succ] at ha
                subst ha
                refine wpOp_on rfl rfl ?_
                simp only [Act.put, List.setIfInBounds_toArray, List.set_cons_zero, List.set_cons_succ, List.getD_cons_succ, List.getD_cons_zero] at hK
                refine wp_load_row 31 _ rfl _ rfl _ _ _ _ (Sep.get (L := _) (Sep.pick 2 hS)) Try.underlying31 rfl (by kernel_rfl) ?_
                exact hK.out _ _ rfl (sepEmp hS) hst
              · refine all25 fun z0 z1 z2 z3 z4 z5 z6 z7 z8 z9 z10 z11 z12 z13 z14 z15 z16 z17 z18 z19 z20 z21 z22 z23 z24 W L hv hS hst a ha K hK => ?_
                obtain ⟨v14, _⟩ := hv
                obtain rfl : z14 = _ := v14
                simp only [dagPut, Act.put, List.setIfInBounds_toArray, List.set_cons_zero, List.set_cons_succ] at ha
                subst ha
                refine wpOp_on rfl rfl ?_
                simp only [Act.put, List.setIfInBounds_toArray, List.set_cons_zero, List.set_cons_succ, List.getD_cons_succ, List.getD_cons_zero] at hK
                go_simp
                exact hK.out _ _ rfl (sepEmp hS) hst
              · refine all25 fun z0 z1 z2 z3 z4 z5 z6 z7 z8 z9 z10 z11 z12 z13 z14 z15 z16 z17 z18 z19 z20 z21 z22 z23 z24 W L hv hS hst a ha K hK => ?_
                obtain ⟨v14, _⟩ := hv
                obtain rfl : z14 = _ := v14
                simp only [dagPut, Act.put, List.setIfInBounds_toArray, List.set_cons_zero, List.set_cons_succ] at ha
                subst ha
                refine wpOp_on rfl rfl ?_
                simp only [Act.put, List.setIfInBounds_toArray, List.set_cons_zero, List.set_cons_succ, List.getD_cons_succ, List.getD_cons_zero] at hK
                go_simp
                exact hK.out _ _ rfl (sepEmp hS) hst
              · refine all25 fun z0 z1 z2 z3 z4 z5 z6 z7 z8 z9 z10 z11 z12 z13 z14 z15 z16 z17 z18 z19 z20 z21 z22 z23 z24 W L hv hS hst a ha K hK => ?_
                obtain ⟨v16, v17, v14, _⟩ := hv
                obtain rfl : z16 = _ := v16
                obtain rfl : z17 = _ := v17
                obtain rfl : z14 = _ := v14
                simp only [dagPut, Act.put, List.setIfInBounds_toArray, List.set_cons_zero, List.set_cons_succ] at ha
                subst ha
                refine wpOp_on rfl rfl ?_
                simp only [Act.put, List.setIfInBounds_toArray, List.set_cons_zero, List.set_cons_succ, List.getD_cons_succ, List.getD_cons_zero] at hK
                go_simp
                exact hK.out _ _ rfl (sepEmp hS) hst
              · refine all25 fun z0 z1 z2 z3 z4 z5 z6 z7 z8 z9 z10 z11 z12 z13 z14 z15 z16 z17 z18 z19 z20 z21 z22 z23 z24 W L hv hS hst a ha K hK => ?_
                obtain ⟨v18, v14, _⟩ := hv
                obtain rfl : z18 = _ := v18
                obtain rfl : z14 = _ := v14
                have c0 := HH.out.1 W _ hS
                simp only [dagPut, Act.put, List.setIfInBounds_toArray, List.set_cons_zero, List.set_cons_succ] at ha
                subst ha
                refine wpOp_on rfl rfl ?_
                simp only [Act.put, List.setIfInBounds_toArray, List.set_cons_zero, List.set_cons_succ, List.getD_cons_succ, List.getD_cons_zero] at hK
                go_simp
                exact hK.out _ _ rfl (sepEmp hS) hst
              · refine all25 fun z0 z1 z2 z3 z4 z5 z6 z7 z8 z9 z10 z11 z12 z13 z14 z15 z16 z17 z18 z19 z20 z21 z22 z23 z24 W L hv hS hst a ha K hK => ?_
                obtain ⟨v15, v19, v14, _⟩ := hv
                obtain rfl : z15 = _ := v15
                obtain rfl : z19 = _ := v19
                obtain rfl : z14 = _ := v14
                simp only [dagPut, Act.put, List.setIfInBounds_toArray, List.set_cons_zero, List.set_cons_succ] at ha
                subst ha
                refine wpOp_on rfl rfl ?_
                simp only [Act.put, List.setIfInBounds_toArray, List.set_cons_zero, List.set_cons_succ, List.getD_cons_succ, List.getD_cons_zero] at hK
                go_simp
                refine (HC.out.2.1 W _ (Sep.pick 3 hS) y).mono ?_
                rintro e w3 ⟨v3, rfl, hS3, hst3⟩
                exact hK.out _ _ trivial ((Sep.mount hS (Sep.pick 1 hS3))) (hst.trans hst3)
              · refine all25 fun z0 z1 z2 z3 z4 z5 z6 z7 z8 z9 z10 z11 z12 z13 z14 z15 z16 z17 z18 z19 z20 z21 z22 z23 z24 W L hv hS hst a ha K hK => ?_
                obtain ⟨v14, _⟩ := hv
                obtain rfl : z14 = _ := v14
                simp only [dagPut, Act.put, List.setIfInBounds_toArray, List.set_cons_zero, List.set_cons_succ] at ha
                subst ha
                refine wpOp_on rfl rfl ?_
                simp only [Act.put, List.setIfInBounds_toArray, List.set_cons_zero, List.set_cons_succ, List.getD_cons_succ, List.getD_cons_zero] at hK
                go_simp
                exact hK.out _ _ rfl (sepEmp hS) hst
              · refine all25 fun z0 z1 z2 z3 z4 z5 z6 z7 z8 z9 z10 z11 z12 z13 z14 z15 z16 z17 z18 z19 z20 z21 z22 z23 z24 W L hv hS hst a ha K hK => ?_
                have hS0 : Sep W (rowI z20 (q y) :: _) := hS
                obtain ⟨v20, v21, v14, _⟩ := hv
                obtain rfl : z21 = _ := v21
                obtain rfl : z14 = _ := v14
                simp only [dagPut, Act.put, List.setIfInBounds_toArray, List.set_cons_zero, List.set_cons_succ] at ha
                subst ha
                refine wpOp_on rfl rfl ?_
                simp only [Act.put, List.setIfInBounds_toArray, List.set_cons_zero, List.set_cons_succ, List.getD_cons_succ, List.getD_cons_zero] at hK
                go_simp
                refine (Has_true (HH.out.2.1) hS0.reads (HH.out.2.2 y)).mono ?_
                rintro e w3 ⟨rfl, rfl⟩
                exact hK.out _ _ rfl (sepEmp hS0.drop) hst
              · refine all25 fun z0 z1 z2 z3 z4 z5 z6 z7 z8 z9 z10 z11 z12 z13 z14 z15 z16 z17 z18 z19 z20 z21 z22 z23 z24 W L hv hS hst a ha K hK => ?_
                obtain ⟨v22, v14, _⟩ := hv
                obtain rfl : z22 = _ := v22
                obtain rfl : z14 = _ := v14
                simp only [dagPut, Act.put, List.setIfInBounds_toArray, List.set_cons_zero, List.set_cons_succ] at ha
                subst ha
                refine wpOp_on rfl rfl ?_
                simp only [Act.put, List.setIfInBounds_toArray, List.set_cons_zero, List.set_cons_succ, List.getD_cons_succ, List.getD_cons_zero] at hK
                go_simp
                exact hK.out _ _ rfl (sepEmp hS) hst
              · refine all25 fun z0 z1 z2 z3 z4 z5 z6 z7 z8 z9 z10 z11 z12 z13 z14 z15 z16 z17 z18 z19 z20 z21 z22 z23 z24 W L hv hS hst a ha K hK => ?_
                obtain ⟨v14, v23, _⟩ := hv
                obtain rfl : z14 = _ := v14
                obtain rfl : z23 = _ := v23
                simp only [dagPut, Act.put, List.setIfInBounds_toArray, List.set_cons_zero, List.set_cons_succ] at ha
                subst ha
                refine wpOp_plain rfl rfl ?_
                simp only [Act.put, List.setIfInBounds_toArray, List.set_cons_zero, List.set_cons_succ, List.getD_cons_succ, List.getD_cons_zero] at hK
                go_simp
                exact hK.out _ _ rfl (sepEmp hS) hst
              · refine all25 fun z0 z1 z2 z3 z4 z5 z6 z7 z8 z9 z10 z11 z12 z13 z14 z15 z16 z17 z18 z19 z20 z21 z22 z23 z24 W hv hS hst a ha => ?_
                obtain ⟨⟨⟨⟨⟨⟨⟨⟨⟨⟨⟨⟨⟨⟨⟨⟨⟨⟨⟨⟨⟨⟨⟨⟨⟨_, v0⟩, v1⟩, v2⟩, v3⟩, v4⟩, v5⟩, v6⟩, v7⟩, v8⟩, v9⟩, v10⟩, v11⟩, v12⟩, v13⟩, v14⟩, v15⟩, v16⟩, v17⟩, v18⟩, v19⟩, v20⟩, v21⟩, v22⟩, v23⟩, v24⟩ := hv
                obtain rfl : z0 = _ := v0
                obtain rfl : z1 = _ := v1
                obtain rfl : z2 = _ := v2
                obtain rfl : z3 = _ := v3
                obtain rfl : z4 = _ := v4
                obtain rfl : z5 = _ := v5
                obtain rfl : z6 = _ := v6
                obtain rfl : z7 = _ := v7
                obtain rfl : z8 = _ := v8
                obtain rfl : z9 = _ := v9
                obtain rfl : z10 = _ := v10
                obtain rfl : z11 = _ := v11
                obtain rfl : z12 = _ := v12
                obtain rfl : z13 = _ := v13
                obtain rfl : z14 = _ := v14
                obtain rfl : z15 = _ := v15
                obtain rfl : z16 = _ := v16
                obtain rfl : z17 = _ := v17
                obtain rfl : z18 = _ := v18
                obtain rfl : z19 = _ := v19
                obtain rfl : z21 = _ := v21
                obtain rfl : z22 = _ := v22
                obtain rfl : z23 = _ := v23
                obtain rfl : z24 = _ := v24
                simp only [dagPut, Act.put, List.setIfInBounds_toArray, List.set_cons_zero, List.set_cons_succ] at ha; subst ha
                go_wp2_with fail
                go_meet
                exact ⟨rfl, hS, hst⟩
          case rest =>
            obtain ⟨rfl, hS, hst⟩ := hcut
            have H9 := Lib.hid (And.intro hS hst)
            clear hS hst
            go_wp2_with fail
            go_roundw
            case rel => exact ⟨k + 1, by omega, by go_num, H9.out.1, H9.out.2⟩
            case measure => simp [intOf]; omega
        · obtain rfl : k = N := by omega
          go_wp2_with fail
          go_roundw
          case rel => exact ⟨i + 1, by omega, by go_num, HR2.out.1.drop, HR2.out.2⟩
          case measure => simp [intOf]; omega
    · obtain rfl : i = rooms.length := by omega
      go_wp2_with fail
      clear hlt
      obtain ⟨wo, hwo⟩ : ∃ wo : World, wo = wr := ⟨_, rfl⟩
      go_loopw [12, 13] (fun i j wr => ∃ i' : Nat, (i' : Int) ≤ players ∧ i = .int .i64 i' ∧ Sep wr [rowI cv cs, pts bs (.cells #[i64 players, .slice ba bodies.length bc, i64 x0, i64 y0, i64 x1, i64 y1, .slice ra rooms.length rc, .slice da doors.length dc, i64 fog, i64 gx, i64 gy, i64 push, i64 drag, i64 rest, i64 rounds, i64 fuel] 31), old w1] ∧ Stable w1 wr) (fun i _ _ => (players - intOf i).toNat)
      case atStart => exact ⟨0, by omega, rfl, HR.out.1, HR.out.2⟩
      case round =>
        obtain ⟨i, hi, rfl, hSr, hst⟩ := hrel
        have s0 := cell_of_blk (hSr.pick 1).get 0
        simp at s0
        have HR := Lib.hid (And.intro hSr hst)
        clear hSr hst s6 hwo
        by_cases hlt : (i : Int) < players
        · go_wp2_with fail
          go_loopw [13] (fun j wr => ∃ j' : Nat, (j' : Int) ≤ players ∧ j = .int .i64 j' ∧ Sep wr [rowI cv cs, pts bs (.cells #[i64 players, .slice ba bodies.length bc, i64 x0, i64 y0, i64 x1, i64 y1, .slice ra rooms.length rc, .slice da doors.length dc, i64 fog, i64 gx, i64 gy, i64 push, i64 drag, i64 rest, i64 rounds, i64 fuel] 31), old w1] ∧ Stable w1 wr) (fun j _ => (players - intOf j).toNat)
          case atStart => exact ⟨0, by omega, rfl, HR.out.1, HR.out.2⟩
          case round =>
            obtain ⟨j, hj, rfl, hSr, hst⟩ := hrel
            clear s0
            have s0 := cell_of_blk (hSr.pick 1).get 0
            simp at s0
            have H7 := Lib.hid (And.intro hSr hst)
            clear hSr hst
            by_cases hlj : (j : Int) < players
            · have hco := HC.out.2.2.2.2.2.1 i j (by omega) (by omega)
              have HCJ := Lib.hid (fun (W : World) (M : List Asn) (hW : Sep W (rowI cv cs :: pts bs (.cells #[i64 players, .slice ba bodies.length bc, i64 x0, i64 y0, i64 x1, i64 y1, .slice ra rooms.length rc, .slice da doors.length dc, i64 fog, i64 gx, i64 gy, i64 push, i64 drag, i64 rest, i64 rounds, i64 fuel] 31) :: old w1 :: M)) => by have h := HC.out.1 W M hW j i; rw [← hco] at h; exact h)
              clear hco
              go_upto_region 20 with fail
              go_cut [87] from 77 to 86 (fun x87 wx => x87 = .bool false ∧ Sep wx [rowI cv cs, pts bs (.cells #[i64 players, .slice ba bodies.length bc, i64 x0, i64 y0, i64 x1, i64 y1, .slice ra rooms.length rc, .slice da doors.length dc, i64 fog, i64 gx, i64 gy, i64 push, i64 drag, i64 rest, i64 rounds, i64 fuel] 31), old w1] ∧ Stable w1 wx)
              case first =>
                refine wp_region_dag (w0 := w1) 11 [some 77, some 78, some 79, some 80, some 81, some 82, some 83, some 84, some 85, some 86, some 87] [.det [] (.agg #[i64 players, .slice ba bodies.length bc, i64 x0, i64 y0, i64 x1, i64 y1, .slice ra rooms.length rc, .slice da doors.length dc, i64 fog, i64 gx, i64 gy, i64 push, i64 drag, i64 rest, i64 rounds, i64 fuel]), .det [] (cv), .det [] (i64 i), .det [] (i64 j), .det [0, 1, 2, 3] (.bool (sb i j)), .det [] (.agg #[i64 players, .slice ba bodies.length bc, i64 x0, i64 y0, i64 x1, i64 y1, .slice ra rooms.length rc, .slice da doors.length dc, i64 fog, i64 gx, i64 gy, i64 push, i64 drag, i64 rest, i64 rounds, i64 fuel]), .det [] (cv), .det [] (i64 j), .det [] (i64 i), .det [5, 6, 7, 8] (.bool (sb i j)), .det [4, 9] (.bool false)] [rowI cv cs, pts bs (.cells #[i64 players, .slice ba bodies.length bc, i64 x0, i64 y0, i64 x1, i64 y1, .slice ra rooms.length rc, .slice da doors.length dc, i64 fog, i64 gx, i64 gy, i64 push, i64 drag, i64 rest, i64 rounds, i64 fuel] 31), old w1] [] rfl (by kernel_rfl) (by kernel_rfl) (by kernel_rfl) (by kernel_rfl) (H7.out.1) (H7.out.2) ⟨⟨⟨⟨⟨⟨⟨⟨⟨⟨⟨trivial, ?_⟩, ?_⟩, ?_⟩, ?_⟩, ?_⟩, ?_⟩, ?_⟩, ?_⟩, ?_⟩, ?_⟩, ?_⟩ ?_
                · refine all11 fun z0 z1 z2 z3 z4 z5 z6 z7 z8 z9 z10 W L hv hS hst a ha K hK => ?_
                  simp only [dagPut, Act.put, List.setIfInBounds_toArray, List.set_cons_zero, List.set_cons_succ] at ha
                  subst ha
                  refine wpOp_plain rfl rfl ?_
                  simp only [Act.put, List.setIfInBounds_toArray, List.set_cons_zero, List.set_cons_succ, List.getD_cons_zero] at hK
                  refine wp_load_row 31 _ rfl _ rfl _ _ _ _ (Sep.get (L := _) (Sep.pick 1 hS)) Try.underlying31 rfl (by kernel_rfl) ?_
                  exact hK.out _ _ rfl (sepEmp hS) hst
                · refine all11 fun z0 z1 z2 z3 z4 z5 z6 z7 z8 z9 z10 W L hv hS hst a ha K hK => ?_
                  simp only [dagPut, Act.put, List.setIfInBounds_toArray, List.set_cons_zero, List.set_cons_succ] at ha
                  subst ha
                  refine wpOp_plain rfl rfl ?_
                  simp only [Act.put, List.setIfInBounds_toArray, List.set_cons_zero, List.set_cons_succ, List.getD_cons_succ, List.getD_cons_zero] at hK
                  go_simp
                  exact hK.out _ _ rfl (sepEmp hS) hst
                · refine all11 fun z0 z1 z2 z3 z4 z5 z6 z7 z8 z9 z10 W L hv hS hst a ha K hK => ?_
                  simp only [dagPut, Act.put, List.setIfInBounds_toArray, List.set_cons_zero, List.set_cons_succ] at ha
                  subst ha
                  refine wpOp_plain rfl rfl ?_
                  simp only [Act.put, List.setIfInBounds_toArray, List.set_cons_zero, List.set_cons_succ, List.getD_cons_succ, List.getD_cons_zero] at hK
                  go_simp
                  exact hK.out _ _ rfl (sepEmp hS) hst
                · refine all11 fun z0 z1 z2 z3 z4 z5 z6 z7 z8 z9 z10 W L hv hS hst a ha K hK => ?_
                  simp only [dagPut, Act.put, List.setIfInBounds_toArray, List.set_cons_zero, List.set_cons_succ] at ha
                  subst ha
                  refine wpOp_plain rfl rfl ?_
                  simp only [Act.put, List.setIfInBounds_toArray, List.set_cons_zero, List.set_cons_succ, List.getD_cons_succ, List.getD_cons_zero] at hK
                  go_simp
                  exact hK.out _ _ rfl (sepEmp hS) hst
                · refine all11 fun z0 z1 z2 z3 z4 z5 z6 z7 z8 z9 z10 W L hv hS hst a ha K hK => ?_
                  obtain ⟨v0, v1, v2, v3, _⟩ := hv
                  obtain rfl : z0 = _ := v0
                  obtain rfl : z1 = _ := v1
                  obtain rfl : z2 = _ := v2
                  obtain rfl : z3 = _ := v3
                  simp only [dagPut, Act.put, List.setIfInBounds_toArray, List.set_cons_zero, List.set_cons_succ] at ha
                  subst ha
                  refine wpOp_plain rfl rfl ?_
                  simp only [Act.put, List.setIfInBounds_toArray, List.set_cons_zero, List.set_cons_succ, List.getD_cons_succ, List.getD_cons_zero] at hK
                  go_simp
                  refine (HC.out.1 W _ hS i j).mono ?_
                  rintro e w3 ⟨rfl, hS3, hst3⟩
                  exact hK.out _ _ rfl (sepEmp (Sep.mount (M := []) hS hS3)) (hst.trans hst3)
                · refine all11 fun z0 z1 z2 z3 z4 z5 z6 z7 z8 z9 z10 W L hv hS hst a ha K hK => ?_
                  simp only [dagPut, Act.put, List.setIfInBounds_toArray, List.set_cons_zero, List.set_cons_succ] at ha
                  subst ha
                  refine wpOp_plain rfl rfl ?_
                  simp only [Act.put, List.setIfInBounds_toArray, List.set_cons_zero, List.set_cons_succ, List.getD_cons_succ, List.getD_cons_zero] at hK
                  refine wp_load_row 31 _ rfl _ rfl _ _ _ _ (Sep.get (L := _) (Sep.pick 1 hS)) Try.underlying31 rfl (by kernel_rfl) ?_
                  exact hK.out _ _ rfl (sepEmp hS) hst
                · refine all11 fun z0 z1 z2 z3 z4 z5 z6 z7 z8 z9 z10 W L hv hS hst a ha K hK => ?_
                  simp only [dagPut, Act.put, List.setIfInBounds_toArray, List.set_cons_zero, List.set_cons_succ] at ha
                  subst ha
                  refine wpOp_plain rfl rfl ?_
                  simp only [Act.put, List.setIfInBounds_toArray, List.set_cons_zero, List.set_cons_succ, List.getD_cons_succ, List.getD_cons_zero] at hK
                  go_simp
                  exact hK.out _ _ rfl (sepEmp hS) hst
                · refine all11 fun z0 z1 z2 z3 z4 z5 z6 z7 z8 z9 z10 W L hv hS hst a ha K hK => ?_
                  simp only [dagPut, Act.put, List.setIfInBounds_toArray, List.set_cons_zero, List.set_cons_succ] at ha
                  subst ha
                  refine wpOp_plain rfl rfl ?_
                  simp only [Act.put, List.setIfInBounds_toArray, List.set_cons_zero, List.set_cons_succ, List.getD_cons_succ, List.getD_cons_zero] at hK
                  go_simp
                  exact hK.out _ _ rfl (sepEmp hS) hst
                · refine all11 fun z0 z1 z2 z3 z4 z5 z6 z7 z8 z9 z10 W L hv hS hst a ha K hK => ?_
                  simp only [dagPut, Act.put, List.setIfInBounds_toArray, List.set_cons_zero, List.set_cons_succ] at ha
                  subst ha
                  refine wpOp_plain rfl rfl ?_
                  simp only [Act.put, List.setIfInBounds_toArray, List.set_cons_zero, List.set_cons_succ, List.getD_cons_succ, List.getD_cons_zero] at hK
                  go_simp
                  exact hK.out _ _ rfl (sepEmp hS) hst
                · refine all11 fun z0 z1 z2 z3 z4 z5 z6 z7 z8 z9 z10 W L hv hS hst a ha K hK => ?_
                  obtain ⟨v5, v6, v7, v8, _⟩ := hv
                  obtain rfl : z5 = _ := v5
                  obtain rfl : z6 = _ := v6
                  obtain rfl : z7 = _ := v7
                  obtain rfl : z8 = _ := v8
                  simp only [dagPut, Act.put, List.setIfInBounds_toArray, List.set_cons_zero, List.set_cons_succ] at ha
                  subst ha
                  refine wpOp_plain rfl rfl ?_
                  simp only [Act.put, List.setIfInBounds_toArray, List.set_cons_zero, List.set_cons_succ, List.getD_cons_succ, List.getD_cons_zero] at hK
                  go_simp
                  refine (HCJ.out W _ hS).mono ?_
                  rintro e w3 ⟨rfl, hS3, hst3⟩
                  exact hK.out _ _ rfl (sepEmp (Sep.mount (M := []) hS hS3)) (hst.trans hst3)
                · refine all11 fun z0 z1 z2 z3 z4 z5 z6 z7 z8 z9 z10 W L hv hS hst a ha K hK => ?_
                  obtain ⟨v4, v9, _⟩ := hv
                  obtain rfl : z4 = _ := v4
                  obtain rfl : z9 = _ := v9
                  simp only [dagPut, Act.put, List.setIfInBounds_toArray, List.set_cons_zero, List.set_cons_succ] at ha
                  subst ha
                  refine wpOp_plain rfl rfl ?_
                  simp only [Act.put, List.setIfInBounds_toArray, List.set_cons_zero, List.set_cons_succ, List.getD_cons_succ, List.getD_cons_zero] at hK
                  go_simp
                  exact hK.out _ _ rfl (sepEmp hS) hst
                · refine all11 fun z0 z1 z2 z3 z4 z5 z6 z7 z8 z9 z10 W hv hS hst a ha => ?_
                  obtain ⟨⟨⟨⟨⟨⟨⟨⟨⟨⟨⟨_, v0⟩, v1⟩, v2⟩, v3⟩, v4⟩, v5⟩, v6⟩, v7⟩, v8⟩, v9⟩, v10⟩ := hv
                  obtain rfl : z0 = _ := v0
                  obtain rfl : z1 = _ := v1
                  obtain rfl : z2 = _ := v2
                  obtain rfl : z3 = _ := v3
                  obtain rfl : z4 = _ := v4
                  obtain rfl : z5 = _ := v5
                  obtain rfl : z6 = _ := v6
                  obtain rfl : z7 = _ := v7
                  obtain rfl : z8 = _ := v8
                  obtain rfl : z9 = _ := v9
                  obtain rfl : z10 = _ := v10
                  simp only [dagPut, Act.put, List.setIfInBounds_toArray, List.set_cons_zero, List.set_cons_succ] at ha; subst ha
                  go_wp2_with fail
                  go_meet
                  exact ⟨rfl, hS, hst⟩
              case rest =>
                obtain ⟨rfl, hS, hst⟩ := hcut
                have H9 := Lib.hid (And.intro hS hst)
                clear hS hst
                go_wp2_with fail
                go_roundw
                case rel => exact ⟨j + 1, by omega, by go_num, H9.out.1, H9.out.2⟩
                case measure => simp [intOf]; omega
            · go_wp2_with fail
              go_roundw
              case rel => exact ⟨i + 1, by omega, by go_num, H7.out.1, H7.out.2⟩
              case measure => simp [intOf]; omega
        · go_wp2_with fail
          refine (lives_spec _).mono ?_
          rintro e w6 ⟨rfl, hS6, hst6⟩
          have H6 := Lib.hid (And.intro (HR.out.1.mount hS6) (HR.out.2.trans hst6))
          clear hS6 hst6
          go_wp2_with fail
          go_ret
          exact ⟨rfl, rebase HB.out (Sep.below (H6.out.1.drop.drop) H6.out.2)⟩

end Go.Proofs.Ytjmlpjaahankcaa
