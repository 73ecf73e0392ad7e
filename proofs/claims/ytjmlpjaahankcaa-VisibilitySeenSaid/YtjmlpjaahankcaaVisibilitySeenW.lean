/- The walk of VisibilitySeen. -/
import Derived.Test.YtjmlpjaahankcaaLaw27
import Derived.Deep.CutRange
namespace Go.Proofs.Ytjmlpjaahankcaa
open Go.RowKit Go.Sl

variable {w : World} {L : List Asn}

set_option maxRecDepth 100000 in
set_option maxHeartbeats 8000000 in
theorem visibilitySeen_walk {u v vt : Value} {l rs at_ : List Int} {player body : Int} (e0 : readsI w u l) (b0 : l.length ≤ 9223372036854775807) (w0 : ∀ x ∈ l, inI64 x) (e1 : readsI w v rs) (b1 : rs.length ≤ 9223372036854775807) (w1 : ∀ x ∈ rs, inI64 x)
    (e2 : readsI w vt at_) (b2 : at_.length ≤ 9223372036854775807) (w2 : ∀ x ∈ at_, inI64 x) (_hp : inI64 player) (_hb : inI64 body) :
    Calls Try.prog 4 #[u, v, vt, i64 player, i64 body] w fun e w' => e = .returned (.bool true) ∧ Below w.heap.size w w' := by
  clear _hp _hb
  have hSet := Setup27_spec e0 w0 b0 e1 w1 b1
  have HS := Lib.hid (And.intro hSet (And.intro e2 (And.intro b2 w2)))
  clear hSet e0 b0 w0 e1 b1 w1 e2 b2 w2
  go_enter Try.func4, Try.ntmps4
  go_wp2_with fail
  refine HS.out.1.mono ?_
  rintro e w1 ⟨su, rfl, hg, hS1, hst1⟩
  have hB1 : Below w.heap.size w w1 := (Su.oldPart hS1).below hst1
  have hrd := Su.reads hS1
  have hbr := Su.bodiesRead hS1
  have hfine := hg.fine
  have hrt : readsI w1 vt at_ := HS.out.2.1.of_heap (Su.oldPart hS1).oldGet
  obtain ⟨np, hnp, hnp3⟩ := hg.base.players_nat
  have hCe := fun (W : World) (M : List Asn) (hW : Sep W (old w1 :: M)) => Cells_spec (w := W) su np hnp (by omega) hg.base.nb (by have := hg.base.few; omega) (hbr.of_heap hW.oldGet) hg.base.near (hrt.of_heap hW.oldGet) HS.out.2.2.2 HS.out.2.2.1
  have hsee := fun (cv : Value) (cs : List Int) (hna : nearAll np su.bodies.length cs) (W : World) (M : List Asn) (hS : Sep W (rowI cv cs :: old w1 :: M)) => seeing_of hg.base hfine (by have := hg.fog; omega) hrd hnp hna hS
  have HC := Lib.hid (And.intro hCe (And.intro hsee (And.intro hg (And.intro hfine hrd))))
  have HB := Lib.hid hB1
  have hpl := hg.base.players
  have hmo := hg.base.more
  have hfew := hg.base.few
  have hro := hg.rooms
  have hnb := hg.base.nb
  clear hS1 hst1 hrd hfine hB1 hg hbr hrt hCe hsee HS hnp
  obtain ⟨s, bodies⟩ := su
  obtain ⟨players, nb, ba, bc, x0, y0, x1, y1, rooms, ra, rc, doors, da, dc, fog, gx, gy, push, drag, rest, rounds, fuel⟩ := s
  dsimp only [St.val, St.doorsV] at *
  subst hnb
  have H1 := Lib.hid (And.intro ((Sep.start w1).alloc (.cells #[i64 0, .slice none 0 0, i64 0, i64 0, i64 0, i64 0, .slice none 0 0, .slice none 0 0, i64 0, i64 0, i64 0, i64 0, i64 0, i64 0, i64 0, i64 0] 31)) ((Stable.refl w1).alloc (.cells #[i64 0, .slice none 0 0, i64 0, i64 0, i64 0, i64 0, .slice none 0 0, .slice none 0 0, i64 0, i64 0, i64 0, i64 0, i64 0, i64 0, i64 0, i64 0] 31)))
  go_upto_region 2 with (refine wpList_store_sep rfl 31 _ _ rfl w1.heap.size #[i64 players, .slice ba bodies.length bc, i64 x0, i64 y0, i64 x1, i64 y1, .slice ra rooms.length rc, .slice da doors.length dc, i64 fog, i64 gx, i64 gy, i64 push, i64 drag, i64 rest, i64 rounds, i64 fuel] rfl rfl H1.out.1 (by kernel_rfl) rfl (by kernel_rfl) ?_; intro w2 hS2 hst2)
  generalize w1.heap.size = bs at *
  have H2 := Lib.hid (And.intro hS2 (H1.out.2.trans hst2))
  clear hS2 hst2 H1
  go_wp2_with (refine wpList_load_g 31 _ rfl _ rfl _ _ _ _ (Sep.get H2.out.1) Try.underlying31 rfl (by kernel_rfl) (by first | rfl | (go_simp; done) | (go_simp; omega)) ?_)
  refine (HC.out.1 _ _ (H2.out.1.pick 1)).mono ?_
  rintro e w3 ⟨cv, cs, rfl, hna, hS3, hst3⟩
  have hS4 := H2.out.1.mount (hS3.pick 1)
  have hsee := HC.out.2.1 cv cs hna
  have H4 := Lib.hid (And.intro (show Sep w3 [rowI cv cs, pts bs (.cells #[i64 players, .slice ba bodies.length bc, i64 x0, i64 y0, i64 x1, i64 y1, .slice ra rooms.length rc, .slice da doors.length dc, i64 fog, i64 gx, i64 gy, i64 push, i64 drag, i64 rest, i64 rounds, i64 fuel] 31), old w1] from hS4.pick 0) (And.intro (H2.out.2.trans hst3) (And.intro hsee hna)))
  clear hS3 hst3 hS4 hsee hna H2
  have hSe := fun (W : World) (M : List Asn) (hW : Sep W (rowI cv cs :: pts bs (.cells #[i64 players, .slice ba bodies.length bc, i64 x0, i64 y0, i64 x1, i64 y1, .slice ra rooms.length rc, .slice da doors.length dc, i64 fog, i64 gx, i64 gy, i64 push, i64 drag, i64 rest, i64 rounds, i64 fuel] 31) :: old w1 :: M)) (p i : Int) => Sees_spec (H4.out.2.2.1 W _ ((hW.pick 2).pick 1)) p i
  have hSeR := fun (W : World) (M : List Asn) (hW : Sep W (rowI cv cs :: pts bs (.cells #[i64 players, .slice ba bodies.length bc, i64 x0, i64 y0, i64 x1, i64 y1, .slice ra rooms.length rc, .slice da doors.length dc, i64 fog, i64 gx, i64 gy, i64 push, i64 drag, i64 rest, i64 rounds, i64 fuel] 31) :: old w1 :: M)) (p i : Int) => SeesR_spec (H4.out.2.2.1 W _ ((hW.pick 2).pick 1)) p i
  have hSn := fun (W : World) (M : List Asn) (hW : Sep W (rowI cv cs :: pts bs (.cells #[i64 players, .slice ba bodies.length bc, i64 x0, i64 y0, i64 x1, i64 y1, .slice ra rooms.length rc, .slice da doors.length dc, i64 fog, i64 gx, i64 gy, i64 push, i64 drag, i64 rest, i64 rounds, i64 fuel] 31) :: old w1 :: M)) (p : Int) => Seen_spec (H4.out.2.2.1 W _ ((hW.pick 2).pick 1)) p
  have hSnR := fun (W : World) (M : List Asn) (hW : Sep W (rowI cv cs :: pts bs (.cells #[i64 players, .slice ba bodies.length bc, i64 x0, i64 y0, i64 x1, i64 y1, .slice ra rooms.length rc, .slice da doors.length dc, i64 fog, i64 gx, i64 gy, i64 push, i64 drag, i64 rest, i64 rounds, i64 fuel] 31) :: old w1 :: M)) (p : Int) => SeenR_spec (H4.out.2.2.1 W _ ((hW.pick 2).pick 1)) p
  have hlen := fun p : Int => seenL_length ⟨players, bodies.length, ba, bc, x0, y0, x1, y1, rooms, ra, rc, doors, da, dc, fog, gx, gy, push, drag, rest, rounds, fuel⟩ cs p
  dsimp only [St.val] at hSe hSeR hSn hSnR hlen
  generalize seesB ⟨players, bodies.length, ba, bc, x0, y0, x1, y1, rooms, ra, rc, doors, da, dc, fog, gx, gy, push, drag, rest, rounds, fuel⟩ cs = q at *
  generalize seenL ⟨players, bodies.length, ba, bc, x0, y0, x1, y1, rooms, ra, rc, doors, da, dc, fog, gx, gy, push, drag, rest, rounds, fuel⟩ cs = qs at *
  have HQ := Lib.hid (And.intro hSe (And.intro hSeR (And.intro hSn (And.intro hSnR (fun p => Nat.le_trans (hlen p) (show bodies.length ≤ 1000000000000 by omega))))))
  have H5 := Lib.hid (And.intro H4.out.1 H4.out.2.1)
  clear hSe hSeR hSn hSnR hlen H4 HC
  go_wp2_with fail
  go_loopw [13, 14] (fun i j wr => ∃ k : Nat, k ≤ players + 2 ∧ i = i64 ((k : Int) - 1) ∧ Sep wr [rowI cv cs, pts bs (.cells #[i64 players, .slice ba bodies.length bc, i64 x0, i64 y0, i64 x1, i64 y1, .slice ra rooms.length rc, .slice da doors.length dc, i64 fog, i64 gx, i64 gy, i64 push, i64 drag, i64 rest, i64 rounds, i64 fuel] 31), old w1] ∧ Stable w1 wr) (fun i _ _ => (players + 2 - (intOf i + 1)).toNat)
  case atStart => exact ⟨0, by omega, rfl, H5.out.1, H5.out.2⟩
  case round =>
    obtain ⟨k, hk, rfl, hSr, hst⟩ := hrel
    have s0 : wr.cell? ⟨bs, 0, none⟩ = some (i64 players) := cell_of_blk (hSr.pick 1).get 0
    have HR := Lib.hid (And.intro hSr hst)
    clear hSr hst
    by_cases hlt : (k : Int) < players + 2
    · have hb : decide ((k : Int) - 1 ≤ players) = true := by rw [decide_eq_true_iff]; omega
      go_upto_region 6 with fail
      go_cut [36] from 27 to 35 (fun x36 wx => x36 = .bool false ∧ Sep wx [rowI cv cs, pts bs (.cells #[i64 players, .slice ba bodies.length bc, i64 x0, i64 y0, i64 x1, i64 y1, .slice ra rooms.length rc, .slice da doors.length dc, i64 fog, i64 gx, i64 gy, i64 push, i64 drag, i64 rest, i64 rounds, i64 fuel] 31), old w1] ∧ Stable w1 wx)
      case first =>
        refine wp_region_dag (w0 := w1) 10 [some 27, some 28, some 29, some 30, some 31, some 32, some 33, some 34, some 35, some 36] [.det [] (.agg #[i64 players, .slice ba bodies.length bc, i64 x0, i64 y0, i64 x1, i64 y1, .slice ra rooms.length rc, .slice da doors.length dc, i64 fog, i64 gx, i64 gy, i64 push, i64 drag, i64 rest, i64 rounds, i64 fuel]), .det [] (cv), .det [] (i64 ((k : Int) - 1)), .make [0, 1, 2] (fun x => rowI x (qs ((k : Int) - 1))), .det [] (.agg #[i64 players, .slice ba bodies.length bc, i64 x0, i64 y0, i64 x1, i64 y1, .slice ra rooms.length rc, .slice da doors.length dc, i64 fog, i64 gx, i64 gy, i64 push, i64 drag, i64 rest, i64 rounds, i64 fuel]), .det [] (cv), .det [] (i64 ((k : Int) - 1)), .make [4, 5, 6] (fun x => rowI x (qs ((k : Int) - 1))), Sp.mk [3, 7] [3, 7] (fun _ x => x = .bool true) (fun _ _ => emp), .det [8] (.bool false)] [rowI cv cs, pts bs (.cells #[i64 players, .slice ba bodies.length bc, i64 x0, i64 y0, i64 x1, i64 y1, .slice ra rooms.length rc, .slice da doors.length dc, i64 fog, i64 gx, i64 gy, i64 push, i64 drag, i64 rest, i64 rounds, i64 fuel] 31), old w1] [] rfl (by kernel_rfl) (by kernel_rfl) (by kernel_rfl) (by kernel_rfl) (HR.out.1) (HR.out.2) ⟨⟨⟨⟨⟨⟨⟨⟨⟨⟨trivial, ?_⟩, ?_⟩, ?_⟩, ?_⟩, ?_⟩, ?_⟩, ?_⟩, ?_⟩, ?_⟩, ?_⟩ ?_
        · refine all10 fun z0 z1 z2 z3 z4 z5 z6 z7 z8 z9 W L hv hS hst a ha K hK => ?_
          simp only [dagPut, Act.put, List.setIfInBounds_toArray, List.set_cons_zero, List.set_cons_succ] at ha
          subst ha
          refine wpOp_plain rfl rfl ?_
          simp only [Act.put, List.setIfInBounds_toArray, List.set_cons_zero, List.set_cons_succ, List.getD_cons_zero] at hK
          refine wp_load_row 31 _ rfl _ rfl _ _ _ _ (Sep.get (L := _) (Sep.pick 1 hS)) Try.underlying31 rfl (by kernel_rfl) ?_
          exact hK.out _ _ rfl (sepEmp hS) hst
        · refine all10 fun z0 z1 z2 z3 z4 z5 z6 z7 z8 z9 W L hv hS hst a ha K hK => ?_
          simp only [dagPut, Act.put, List.setIfInBounds_toArray, List.set_cons_zero, List.set_cons_succ] at ha
          subst ha
          refine wpOp_plain rfl rfl ?_
          simp only [Act.put, List.setIfInBounds_toArray, List.set_cons_zero, List.set_cons_succ, List.getD_cons_succ, List.getD_cons_zero] at hK
          go_simp
          exact hK.out _ _ rfl (sepEmp hS) hst
        · refine all10 fun z0 z1 z2 z3 z4 z5 z6 z7 z8 z9 W L hv hS hst a ha K hK => ?_
          simp only [dagPut, Act.put, List.setIfInBounds_toArray, List.set_cons_zero, List.set_cons_succ] at ha
          subst ha
          refine wpOp_plain rfl rfl ?_
          simp only [Act.put, List.setIfInBounds_toArray, List.set_cons_zero, List.set_cons_succ, List.getD_cons_succ, List.getD_cons_zero] at hK
          go_simp
          exact hK.out _ _ rfl (sepEmp hS) hst
        · refine all10 fun z0 z1 z2 z3 z4 z5 z6 z7 z8 z9 W L hv hS hst a ha K hK => ?_
          obtain ⟨v0, v1, v2, _⟩ := hv
          obtain rfl : z0 = _ := v0
          obtain rfl : z1 = _ := v1
          obtain rfl : z2 = _ := v2
          simp only [dagPut, Act.put, List.setIfInBounds_toArray, List.set_cons_zero, List.set_cons_succ] at ha
          subst ha
          refine wpOp_plain rfl rfl ?_
          simp only [Act.put, List.setIfInBounds_toArray, List.set_cons_zero, List.set_cons_succ, List.getD_cons_succ, List.getD_cons_zero] at hK
          go_simp
          refine (HQ.out.2.2.1 W _ hS ((k : Int) - 1)).mono ?_
          rintro e w3 ⟨v3, rfl, hS3, hst3⟩
          exact hK.out _ _ trivial ((Sep.mount hS (Sep.pick 1 hS3))) (hst.trans hst3)
        · refine all10 fun z0 z1 z2 z3 z4 z5 z6 z7 z8 z9 W L hv hS hst a ha K hK => ?_
          simp only [dagPut, Act.put, List.setIfInBounds_toArray, List.set_cons_zero, List.set_cons_succ] at ha
          subst ha
          refine wpOp_plain rfl rfl ?_
          simp only [Act.put, List.setIfInBounds_toArray, List.set_cons_zero, List.set_cons_succ, List.getD_cons_succ, List.getD_cons_zero] at hK
          refine wp_load_row 31 _ rfl _ rfl _ _ _ _ (Sep.get (L := _) (Sep.pick 1 hS)) Try.underlying31 rfl (by kernel_rfl) ?_
          exact hK.out _ _ rfl (sepEmp hS) hst
        · refine all10 fun z0 z1 z2 z3 z4 z5 z6 z7 z8 z9 W L hv hS hst a ha K hK => ?_
          simp only [dagPut, Act.put, List.setIfInBounds_toArray, List.set_cons_zero, List.set_cons_succ] at ha
          subst ha
          refine wpOp_plain rfl rfl ?_
          simp only [Act.put, List.setIfInBounds_toArray, List.set_cons_zero, List.set_cons_succ, List.getD_cons_succ, List.getD_cons_zero] at hK
          go_simp
          exact hK.out _ _ rfl (sepEmp hS) hst
        · refine all10 fun z0 z1 z2 z3 z4 z5 z6 z7 z8 z9 W L hv hS hst a ha K hK => ?_
          simp only [dagPut, Act.put, List.setIfInBounds_toArray, List.set_cons_zero, List.set_cons_succ] at ha
          subst ha
          refine wpOp_plain rfl rfl ?_
          simp only [Act.put, List.setIfInBounds_toArray, List.set_cons_zero, List.set_cons_succ, List.getD_cons_succ, List.getD_cons_zero] at hK
          go_simp
          exact hK.out _ _ rfl (sepEmp hS) hst
        · refine all10 fun z0 z1 z2 z3 z4 z5 z6 z7 z8 z9 W L hv hS hst a ha K hK => ?_
          obtain ⟨v4, v5, v6, _⟩ := hv
          obtain rfl : z4 = _ := v4
          obtain rfl : z5 = _ := v5
          obtain rfl : z6 = _ := v6
          simp only [dagPut, Act.put, List.setIfInBounds_toArray, List.set_cons_zero, List.set_cons_succ] at ha
          subst ha
          refine wpOp_plain rfl rfl ?_
          simp only [Act.put, List.setIfInBounds_toArray, List.set_cons_zero, List.set_cons_succ, List.getD_cons_succ, List.getD_cons_zero] at hK
          go_simp
          refine (HQ.out.2.2.2.1 W _ hS ((k : Int) - 1)).mono ?_
          rintro e w3 ⟨v3, rfl, hS3, hst3⟩
          exact hK.out _ _ trivial ((Sep.mount hS (Sep.pick 1 hS3))) (hst.trans hst3)
        · refine all10 fun z0 z1 z2 z3 z4 z5 z6 z7 z8 z9 W L hv hS hst a ha K hK => ?_
          have hS0 : Sep W (rowI z3 (qs ((k : Int) - 1)) :: rowI z7 (qs ((k : Int) - 1)) :: _) := hS
          obtain ⟨v3, v7, _⟩ := hv
          simp only [dagPut, Act.put, List.setIfInBounds_toArray, List.set_cons_zero, List.set_cons_succ] at ha
          subst ha
          refine wpOp_plain rfl rfl ?_
          simp only [Act.put, List.setIfInBounds_toArray, List.set_cons_zero, List.set_cons_succ, List.getD_cons_succ, List.getD_cons_zero] at hK
          go_simp
          refine (SameInts_self hS0.reads (Sep.pick 1 hS0).reads (HQ.out.2.2.2.2 ((k : Int) - 1))).mono ?_
          rintro e w3 ⟨rfl, n3, rfl⟩
          exact hK.out _ _ rfl (sepEmp ((hS0.drop.drop).drewN n3)) (hst.drewN n3)
        · refine all10 fun z0 z1 z2 z3 z4 z5 z6 z7 z8 z9 W L hv hS hst a ha K hK => ?_
          obtain ⟨v8, _⟩ := hv
          obtain rfl : z8 = _ := v8
          simp only [dagPut, Act.put, List.setIfInBounds_toArray, List.set_cons_zero, List.set_cons_succ] at ha
          subst ha
          refine wpOp_plain rfl rfl ?_
          simp only [Act.put, List.setIfInBounds_toArray, List.set_cons_zero, List.set_cons_succ, List.getD_cons_succ, List.getD_cons_zero] at hK
          go_simp
          exact hK.out _ _ rfl (sepEmp hS) hst
        · refine all10 fun z0 z1 z2 z3 z4 z5 z6 z7 z8 z9 W hv hS hst a ha => ?_
          obtain ⟨⟨⟨⟨⟨⟨⟨⟨⟨⟨_, v0⟩, v1⟩, v2⟩, v3⟩, v4⟩, v5⟩, v6⟩, v7⟩, v8⟩, v9⟩ := hv
          obtain rfl : z0 = _ := v0
          obtain rfl : z1 = _ := v1
          obtain rfl : z2 = _ := v2
          obtain rfl : z4 = _ := v4
          obtain rfl : z5 = _ := v5
          obtain rfl : z6 = _ := v6
          obtain rfl : z8 = _ := v8
          obtain rfl : z9 = _ := v9
          simp only [dagPut, Act.put, List.setIfInBounds_toArray, List.set_cons_zero, List.set_cons_succ] at ha; subst ha
          go_wp2_with fail
          go_meet
          exact ⟨rfl, hS, hst⟩
      case rest =>
        obtain ⟨rfl, hS, hst⟩ := hcut
        have H6 := Lib.hid (And.intro hS hst)
        clear hS hst hb s0
        go_wp2_with fail
        obtain ⟨wo, hwo⟩ : ∃ wo : World, wo = wc := ⟨_, rfl⟩
        clear hwo
        go_loopw [14] (fun j wr => ∃ m : Nat, m ≤ bodies.length + 2 ∧ j = i64 ((m : Int) - 1) ∧ Sep wr [rowI cv cs, pts bs (.cells #[i64 players, .slice ba bodies.length bc, i64 x0, i64 y0, i64 x1, i64 y1, .slice ra rooms.length rc, .slice da doors.length dc, i64 fog, i64 gx, i64 gy, i64 push, i64 drag, i64 rest, i64 rounds, i64 fuel] 31), old w1] ∧ Stable w1 wr) (fun j _ => bodies.length + 2 - (intOf j + 1).toNat)
        case atStart => exact ⟨0, by omega, rfl, H6.out.1, H6.out.2⟩
        case round =>
          obtain ⟨m, hm, rfl, hSr, hst⟩ := hrel
          have s2 : wr.cell? ⟨bs, 1, none⟩ = some (.slice ba bodies.length bc) := cell_of_blk (hSr.pick 1).get 1
          have H7 := Lib.hid (And.intro hSr hst)
          clear hSr hst
          by_cases hlm : m < bodies.length + 2
          · have hb : decide ((m : Int) - 1 ≤ (bodies.length : Int)) = true := by rw [decide_eq_true_iff]; omega
            go_upto_region 11 with fail
            go_cut [54] from 44 to 53 (fun x54 wx => x54 = .bool false ∧ Sep wx [rowI cv cs, pts bs (.cells #[i64 players, .slice ba bodies.length bc, i64 x0, i64 y0, i64 x1, i64 y1, .slice ra rooms.length rc, .slice da doors.length dc, i64 fog, i64 gx, i64 gy, i64 push, i64 drag, i64 rest, i64 rounds, i64 fuel] 31), old w1] ∧ Stable w1 wx)
            case first =>
              refine wp_region_dag (w0 := w1) 11 [some 44, some 45, some 46, some 47, some 48, some 49, some 50, some 51, some 52, some 53, some 54] [.det [] (.agg #[i64 players, .slice ba bodies.length bc, i64 x0, i64 y0, i64 x1, i64 y1, .slice ra rooms.length rc, .slice da doors.length dc, i64 fog, i64 gx, i64 gy, i64 push, i64 drag, i64 rest, i64 rounds, i64 fuel]), .det [] (cv), .det [] (i64 ((k : Int) - 1)), .det [] (i64 ((m : Int) - 1)), .det [0, 1, 2, 3] (.bool (q ((k : Int) - 1) ((m : Int) - 1))), .det [] (.agg #[i64 players, .slice ba bodies.length bc, i64 x0, i64 y0, i64 x1, i64 y1, .slice ra rooms.length rc, .slice da doors.length dc, i64 fog, i64 gx, i64 gy, i64 push, i64 drag, i64 rest, i64 rounds, i64 fuel]), .det [] (cv), .det [] (i64 ((k : Int) - 1)), .det [] (i64 ((m : Int) - 1)), .det [5, 6, 7, 8] (.bool (q ((k : Int) - 1) ((m : Int) - 1))), .det [4, 9] (.bool false)] [rowI cv cs, pts bs (.cells #[i64 players, .slice ba bodies.length bc, i64 x0, i64 y0, i64 x1, i64 y1, .slice ra rooms.length rc, .slice da doors.length dc, i64 fog, i64 gx, i64 gy, i64 push, i64 drag, i64 rest, i64 rounds, i64 fuel] 31), old w1] [] rfl (by kernel_rfl) (by kernel_rfl) (by kernel_rfl) (by kernel_rfl) (H7.out.1) (H7.out.2) ⟨⟨⟨⟨⟨⟨⟨⟨⟨⟨⟨trivial, ?_⟩, ?_⟩, ?_⟩, ?_⟩, ?_⟩, ?_⟩, ?_⟩, ?_⟩, ?_⟩, ?_⟩, ?_⟩ ?_
              · refine all11 fun z0 z1 z2 z3 z4 z5 z6 z7 z8 z9 z10 W L hv hS hst a ha K hK => ?_
                simp only [dagPut, Act.put, List.setIfInBounds_toArray, List.set_cons_zero, List.set_cons_succ] at ha
                subst ha
                refine wpOp_plain rfl rfl ?_
                simp only [Act.put, List.setIfInBounds_toArray, List.set_cons_zero, List.set_cons_succ, List.getD_cons_zero] at hK
                refine wp_load_row 31 _ rfl _ rfl _ _ _ _ (Sep.get (L := _) (Sep.pick 1 hS)) Try.underlying31 rfl (by kernel_rfl) ?_
                exact hK.out _ _ rfl (sepEmp hS) hst
              · refine all11 fun z0 z1 z2 z3 z4 z5 z6 z7 z8 z9 z10 W L hv hS hst a ha K hK => ?_
                simp only [dagPut, Act.put, List.setIfInBounds_toArray, List.set_cons_zero, List.set_cons_succ] at ha
                subst ha
                refine wpOp_plain rfl rfl ?_
                simp only [Act.put, List.setIfInBounds_toArray, List.set_cons_zero, List.set_cons_succ, List.getD_cons_succ, List.getD_cons_zero] at hK
                go_simp
                exact hK.out _ _ rfl (sepEmp hS) hst
              · refine all11 fun z0 z1 z2 z3 z4 z5 z6 z7 z8 z9 z10 W L hv hS hst a ha K hK => ?_
                simp only [dagPut, Act.put, List.setIfInBounds_toArray, List.set_cons_zero, List.set_cons_succ] at ha
                subst ha
                refine wpOp_plain rfl rfl ?_
                simp only [Act.put, List.setIfInBounds_toArray, List.set_cons_zero, List.set_cons_succ, List.getD_cons_succ, List.getD_cons_zero] at hK
                go_simp
                exact hK.out _ _ rfl (sepEmp hS) hst
              · refine all11 fun z0 z1 z2 z3 z4 z5 z6 z7 z8 z9 z10 W L hv hS hst a ha K hK => ?_
                simp only [dagPut, Act.put, List.setIfInBounds_toArray, List.set_cons_zero, List.set_cons_succ] at ha
                subst ha
                refine wpOp_plain rfl rfl ?_
                simp only [Act.put, List.setIfInBounds_toArray, List.set_cons_zero, List.set_cons_succ, List.getD_cons_succ, List.getD_cons_zero] at hK
                go_simp
                exact hK.out _ _ rfl (sepEmp hS) hst
              · refine all11 fun z0 z1 z2 z3 z4 z5 z6 z7 z8 z9 z10 W L hv hS hst a ha K hK => ?_
                obtain ⟨v0, v1, v2, v3, _⟩ := hv
                obtain rfl : z0 = _ := v0
                obtain rfl : z1 = _ := v1
                obtain rfl : z2 = _ := v2
                obtain rfl : z3 = _ := v3
                simp only [dagPut, Act.put, List.setIfInBounds_toArray, List.set_cons_zero, List.set_cons_succ] at ha
                subst ha
                refine wpOp_plain rfl rfl ?_
                simp only [Act.put, List.setIfInBounds_toArray, List.set_cons_zero, List.set_cons_succ, List.getD_cons_succ, List.getD_cons_zero] at hK
                go_simp
                refine (HQ.out.1 W _ hS ((k : Int) - 1) ((m : Int) - 1)).mono ?_
                rintro e w3 ⟨rfl, hS3, hst3⟩
                exact hK.out _ _ rfl (sepEmp (Sep.mount (M := []) hS hS3)) (hst.trans hst3)
              · refine all11 fun z0 z1 z2 z3 z4 z5 z6 z7 z8 z9 z10 W L hv hS hst a ha K hK => ?_
                simp only [dagPut, Act.put, List.setIfInBounds_toArray, List.set_cons_zero, List.set_cons_succ] at ha
                subst ha
                refine wpOp_plain rfl rfl ?_
                simp only [Act.put, List.setIfInBounds_toArray, List.set_cons_zero, List.set_cons_succ, List.getD_cons_succ, List.getD_cons_zero] at hK
                refine wp_load_row 31 _ rfl _ rfl _ _ _ _ (Sep.get (L := _) (Sep.pick 1 hS)) Try.underlying31 rfl (by kernel_rfl) ?_
                exact hK.out _ _ rfl (sepEmp hS) hst
              · refine all11 fun z0 z1 z2 z3 z4 z5 z6 z7 z8 z9 z10 W L hv hS hst a ha K hK => ?_
                simp only [dagPut, Act.put, List.setIfInBounds_toArray, List.set_cons_zero, List.set_cons_succ] at ha
                subst ha
                refine wpOp_plain rfl rfl ?_
                simp only [Act.put, List.setIfInBounds_toArray, List.set_cons_zero, List.set_cons_succ, List.getD_cons_succ, List.getD_cons_zero] at hK
                go_simp
                exact hK.out _ _ rfl (sepEmp hS) hst
              · refine all11 fun z0 z1 z2 z3 z4 z5 z6 z7 z8 z9 z10 W L hv hS hst a ha K hK => ?_
                simp only [dagPut, Act.put, List.setIfInBounds_toArray, List.set_cons_zero, List.set_cons_succ] at ha
                subst ha
                refine wpOp_plain rfl rfl ?_
                simp only [Act.put, List.setIfInBounds_toArray, List.set_cons_zero, List.set_cons_succ, List.getD_cons_succ, List.getD_cons_zero] at hK
                go_simp
                exact hK.out _ _ rfl (sepEmp hS) hst
              · refine all11 fun z0 z1 z2 z3 z4 z5 z6 z7 z8 z9 z10 W L hv hS hst a ha K hK => ?_
                simp only [dagPut, Act.put, List.setIfInBounds_toArray, List.set_cons_zero, List.set_cons_succ] at ha
                subst ha
                refine wpOp_plain rfl rfl ?_
                simp only [Act.put, List.setIfInBounds_toArray, List.set_cons_zero, List.set_cons_succ, List.getD_cons_succ, List.getD_cons_zero] at hK
                go_simp
                exact hK.out _ _ rfl (sepEmp hS) hst
              · refine all11 fun z0 z1 z2 z3 z4 z5 z6 z7 z8 z9 z10 W L hv hS hst a ha K hK => ?_
                obtain ⟨v5, v6, v7, v8, _⟩ := hv
                obtain rfl : z5 = _ := v5
                obtain rfl : z6 = _ := v6
                obtain rfl : z7 = _ := v7
                obtain rfl : z8 = _ := v8
                simp only [dagPut, Act.put, List.setIfInBounds_toArray, List.set_cons_zero, List.set_cons_succ] at ha
                subst ha
                refine wpOp_plain rfl rfl ?_
                simp only [Act.put, List.setIfInBounds_toArray, List.set_cons_zero, List.set_cons_succ, List.getD_cons_succ, List.getD_cons_zero] at hK
                go_simp
                refine (HQ.out.2.1 W _ hS ((k : Int) - 1) ((m : Int) - 1)).mono ?_
                rintro e w3 ⟨rfl, hS3, hst3⟩
                exact hK.out _ _ rfl (sepEmp (Sep.mount (M := []) hS hS3)) (hst.trans hst3)
              · refine all11 fun z0 z1 z2 z3 z4 z5 z6 z7 z8 z9 z10 W L hv hS hst a ha K hK => ?_
                obtain ⟨v4, v9, _⟩ := hv
                obtain rfl : z4 = _ := v4
                obtain rfl : z9 = _ := v9
                simp only [dagPut, Act.put, List.setIfInBounds_toArray, List.set_cons_zero, List.set_cons_succ] at ha
                subst ha
                refine wpOp_plain rfl rfl ?_
                simp only [Act.put, List.setIfInBounds_toArray, List.set_cons_zero, List.set_cons_succ, List.getD_cons_succ, List.getD_cons_zero] at hK
                go_simp
                exact hK.out _ _ rfl (sepEmp hS) hst
              · refine all11 fun z0 z1 z2 z3 z4 z5 z6 z7 z8 z9 z10 W hv hS hst a ha => ?_
                obtain ⟨⟨⟨⟨⟨⟨⟨⟨⟨⟨⟨_, v0⟩, v1⟩, v2⟩, v3⟩, v4⟩, v5⟩, v6⟩, v7⟩, v8⟩, v9⟩, v10⟩ := hv
                obtain rfl : z0 = _ := v0
                obtain rfl : z1 = _ := v1
                obtain rfl : z2 = _ := v2
                obtain rfl : z3 = _ := v3
                obtain rfl : z4 = _ := v4
                obtain rfl : z5 = _ := v5
                obtain rfl : z6 = _ := v6
                obtain rfl : z7 = _ := v7
                obtain rfl : z8 = _ := v8
                obtain rfl : z9 = _ := v9
                obtain rfl : z10 = _ := v10
                simp only [dagPut, Act.put, List.setIfInBounds_toArray, List.set_cons_zero, List.set_cons_succ] at ha; subst ha
                go_wp2_with fail
                go_meet
                exact ⟨rfl, hS, hst⟩
            case rest =>
              obtain ⟨rfl, hS, hst⟩ := hcut
              have H8 := Lib.hid (And.intro hS hst)
              clear hS hst
              go_wp2_with fail
              go_roundw
              case rel => exact ⟨m + 1, by omega, by go_num, H8.out.1, H8.out.2⟩
              case measure => simp [intOf]; omega
          · obtain rfl : m = bodies.length + 2 := by omega
            go_wp2_with fail
            go_roundw
            case rel => exact ⟨k + 1, by omega, by go_num, H7.out.1, H7.out.2⟩
            case measure => simp [intOf]; omega
    · have hb : decide ((k : Int) - 1 ≤ players) = false := by rw [decide_eq_false_iff_not]; omega
      go_upto_region 13 with fail
      go_cut [10] from 55 to 68 (fun x10 wx => x10 = .bool true ∧ Sep wx [rowI cv cs, pts bs (.cells #[i64 players, .slice ba bodies.length bc, i64 x0, i64 y0, i64 x1, i64 y1, .slice ra rooms.length rc, .slice da doors.length dc, i64 fog, i64 gx, i64 gy, i64 push, i64 drag, i64 rest, i64 rounds, i64 fuel] 31), old w1] ∧ Stable w1 wx)
      case first =>
        refine wp_region_dag (w0 := w1) 15 [some 55, some 56, some 57, some 58, some 59, some 60, some 61, some 62, some 63, some 64, some 65, some 66, some 67, some 68, some 10] [.det [] (.agg #[i64 players, .slice ba bodies.length bc, i64 x0, i64 y0, i64 x1, i64 y1, .slice ra rooms.length rc, .slice da doors.length dc, i64 fog, i64 gx, i64 gy, i64 push, i64 drag, i64 rest, i64 rounds, i64 fuel]), .det [] (cv), .det [] (i64 player), .det [] (i64 body), .det [0, 1, 2, 3] (.bool (q player body)), .det [] (.agg #[i64 players, .slice ba bodies.length bc, i64 x0, i64 y0, i64 x1, i64 y1, .slice ra rooms.length rc, .slice da doors.length dc, i64 fog, i64 gx, i64 gy, i64 push, i64 drag, i64 rest, i64 rounds, i64 fuel]), .det [] (cv), .det [] (i64 player), .det [] (i64 body), .det [5, 6, 7, 8] (.bool (q player body)), .det [4, 9] (.bool true), .det [10] (.bool true), .det [11] (.bool true), .det [11, 12] (.bool true), .det [13] (.bool true)] [rowI cv cs, pts bs (.cells #[i64 players, .slice ba bodies.length bc, i64 x0, i64 y0, i64 x1, i64 y1, .slice ra rooms.length rc, .slice da doors.length dc, i64 fog, i64 gx, i64 gy, i64 push, i64 drag, i64 rest, i64 rounds, i64 fuel] 31), old w1] [] rfl (by kernel_rfl) (by kernel_rfl) (by kernel_rfl) (by kernel_rfl) (HR.out.1) (HR.out.2) ⟨⟨⟨⟨⟨⟨⟨⟨⟨⟨⟨⟨⟨⟨⟨trivial, ?_⟩, ?_⟩, ?_⟩, ?_⟩, ?_⟩, ?_⟩, ?_⟩, ?_⟩, ?_⟩, ?_⟩, ?_⟩, ?_⟩, ?_⟩, ?_⟩, ?_⟩ ?_
        · refine all15 fun z0 z1 z2 z3 z4 z5 z6 z7 z8 z9 z10 z11 z12 z13 z14 W L hv hS hst a ha K hK => ?_
          simp only [dagPut, Act.put, List.setIfInBounds_toArray, List.set_cons_zero, List.set_cons_succ] at ha
          subst ha
          refine wpOp_plain rfl rfl ?_
          simp only [Act.put, List.setIfInBounds_toArray, List.set_cons_zero, List.set_cons_succ, List.getD_cons_zero] at hK
          refine wp_load_row 31 _ rfl _ rfl _ _ _ _ (Sep.get (L := _) (Sep.pick 1 hS)) Try.underlying31 rfl (by kernel_rfl) ?_
          exact hK.out _ _ rfl (sepEmp hS) hst
        · refine all15 fun z0 z1 z2 z3 z4 z5 z6 z7 z8 z9 z10 z11 z12 z13 z14 W L hv hS hst a ha K hK => ?_
          simp only [dagPut, Act.put, List.setIfInBounds_toArray, List.set_cons_zero, List.set_cons_succ] at ha
          subst ha
          refine wpOp_plain rfl rfl ?_
          simp only [Act.put, List.setIfInBounds_toArray, List.set_cons_zero, List.set_cons_succ, List.getD_cons_succ, List.getD_cons_zero] at hK
          go_simp
          exact hK.out _ _ rfl (sepEmp hS) hst
        · refine all15 fun z0 z1 z2 z3 z4 z5 z6 z7 z8 z9 z10 z11 z12 z13 z14 W L hv hS hst a ha K hK => ?_
          simp only [dagPut, Act.put, List.setIfInBounds_toArray, List.set_cons_zero, List.set_cons_succ] at ha
          subst ha
          refine wpOp_plain rfl rfl ?_
          simp only [Act.put, List.setIfInBounds_toArray, List.set_cons_zero, List.set_cons_succ, List.getD_cons_succ, List.getD_cons_zero] at hK
          go_simp
          exact hK.out _ _ rfl (sepEmp hS) hst
        · refine all15 fun z0 z1 z2 z3 z4 z5 z6 z7 z8 z9 z10 z11 z12 z13 z14 W L hv hS hst a ha K hK => ?_
          simp only [dagPut, Act.put, List.setIfInBounds_toArray, List.set_cons_zero, List.set_cons_succ] at ha
          subst ha
          refine wpOp_plain rfl rfl ?_
          simp only [Act.put, List.setIfInBounds_toArray, List.set_cons_zero, List.set_cons_succ, List.getD_cons_succ, List.getD_cons_zero] at hK
          go_simp
          exact hK.out _ _ rfl (sepEmp hS) hst
        · refine all15 fun z0 z1 z2 z3 z4 z5 z6 z7 z8 z9 z10 z11 z12 z13 z14 W L hv hS hst a ha K hK => ?_
          obtain ⟨v0, v1, v2, v3, _⟩ := hv
          obtain rfl : z0 = _ := v0
          obtain rfl : z1 = _ := v1
          obtain rfl : z2 = _ := v2
          obtain rfl : z3 = _ := v3
          simp only [dagPut, Act.put, List.setIfInBounds_toArray, List.set_cons_zero, List.set_cons_succ] at ha
          subst ha
          refine wpOp_plain rfl rfl ?_
          simp only [Act.put, List.setIfInBounds_toArray, List.set_cons_zero, List.set_cons_succ, List.getD_cons_succ, List.getD_cons_zero] at hK
          go_simp
          refine (HQ.out.1 W _ hS player body).mono ?_
          rintro e w3 ⟨rfl, hS3, hst3⟩
          exact hK.out _ _ rfl (sepEmp (Sep.mount (M := []) hS hS3)) (hst.trans hst3)
        · refine all15 fun z0 z1 z2 z3 z4 z5 z6 z7 z8 z9 z10 z11 z12 z13 z14 W L hv hS hst a ha K hK => ?_
          simp only [dagPut, Act.put, List.setIfInBounds_toArray, List.set_cons_zero, List.set_cons_succ] at ha
          subst ha
          refine wpOp_plain rfl rfl ?_
          simp only [Act.put, List.setIfInBounds_toArray, List.set_cons_zero, List.set_cons_succ, List.getD_cons_succ, List.getD_cons_zero] at hK
          refine wp_load_row 31 _ rfl _ rfl _ _ _ _ (Sep.get (L := _) (Sep.pick 1 hS)) Try.underlying31 rfl (by kernel_rfl) ?_
          exact hK.out _ _ rfl (sepEmp hS) hst
        · refine all15 fun z0 z1 z2 z3 z4 z5 z6 z7 z8 z9 z10 z11 z12 z13 z14 W L hv hS hst a ha K hK => ?_
          simp only [dagPut, Act.put, List.setIfInBounds_toArray, List.set_cons_zero, List.set_cons_succ] at ha
          subst ha
          refine wpOp_plain rfl rfl ?_
          simp only [Act.put, List.setIfInBounds_toArray, List.set_cons_zero, List.set_cons_succ, List.getD_cons_succ, List.getD_cons_zero] at hK
          go_simp
          exact hK.out _ _ rfl (sepEmp hS) hst
        · refine all15 fun z0 z1 z2 z3 z4 z5 z6 z7 z8 z9 z10 z11 z12 z13 z14 W L hv hS hst a ha K hK => ?_
          simp only [dagPut, Act.put, List.setIfInBounds_toArray, List.set_cons_zero, List.set_cons_succ] at ha
          subst ha
          refine wpOp_plain rfl rfl ?_
          simp only [Act.put, List.setIfInBounds_toArray, List.set_cons_zero, List.set_cons_succ, List.getD_cons_succ, List.getD_cons_zero] at hK
          go_simp
          exact hK.out _ _ rfl (sepEmp hS) hst
        · refine all15 fun z0 z1 z2 z3 z4 z5 z6 z7 z8 z9 z10 z11 z12 z13 z14 W L hv hS hst a ha K hK => ?_
          simp only [dagPut, Act.put, List.setIfInBounds_toArray, List.set_cons_zero, List.set_cons_succ] at ha
          subst ha
          refine wpOp_plain rfl rfl ?_
          simp only [Act.put, List.setIfInBounds_toArray, List.set_cons_zero, List.set_cons_succ, List.getD_cons_succ, List.getD_cons_zero] at hK
          go_simp
          exact hK.out _ _ rfl (sepEmp hS) hst
        · refine all15 fun z0 z1 z2 z3 z4 z5 z6 z7 z8 z9 z10 z11 z12 z13 z14 W L hv hS hst a ha K hK => ?_
          obtain ⟨v5, v6, v7, v8, _⟩ := hv
          obtain rfl : z5 = _ := v5
          obtain rfl : z6 = _ := v6
          obtain rfl : z7 = _ := v7
          obtain rfl : z8 = _ := v8
          simp only [dagPut, Act.put, List.setIfInBounds_toArray, List.set_cons_zero, List.set_cons_succ] at ha
          subst ha
          refine wpOp_plain rfl rfl ?_
          simp only [Act.put, List.setIfInBounds_toArray, List.set_cons_zero, List.set_cons_succ, List.getD_cons_succ, List.getD_cons_zero] at hK
          go_simp
          refine (HQ.out.2.1 W _ hS player body).mono ?_
          rintro e w3 ⟨rfl, hS3, hst3⟩
          exact hK.out _ _ rfl (sepEmp (Sep.mount (M := []) hS hS3)) (hst.trans hst3)
        · refine all15 fun z0 z1 z2 z3 z4 z5 z6 z7 z8 z9 z10 z11 z12 z13 z14 W L hv hS hst a ha K hK => ?_
          obtain ⟨v4, v9, _⟩ := hv
          obtain rfl : z4 = _ := v4
          obtain rfl : z9 = _ := v9
          simp only [dagPut, Act.put, List.setIfInBounds_toArray, List.set_cons_zero, List.set_cons_succ] at ha
          subst ha
          refine wpOp_plain rfl rfl ?_
          simp only [Act.put, List.setIfInBounds_toArray, List.set_cons_zero, List.set_cons_succ, List.getD_cons_succ, List.getD_cons_zero] at hK
          go_simp
          exact hK.out _ _ rfl (sepEmp hS) hst
        · refine all15 fun z0 z1 z2 z3 z4 z5 z6 z7 z8 z9 z10 z11 z12 z13 z14 W L hv hS hst a ha K hK => ?_
          obtain ⟨v10, _⟩ := hv
          obtain rfl : z10 = _ := v10
          simp only [dagPut, Act.put, List.setIfInBounds_toArray, List.set_cons_zero, List.set_cons_succ] at ha
          subst ha
          refine wpOp_plain rfl rfl ?_
          simp only [Act.put, List.setIfInBounds_toArray, List.set_cons_zero, List.set_cons_succ, List.getD_cons_succ, List.getD_cons_zero] at hK
          go_simp
          exact hK.out _ _ rfl (sepEmp hS) hst
        · refine all15 fun z0 z1 z2 z3 z4 z5 z6 z7 z8 z9 z10 z11 z12 z13 z14 W L hv hS hst a ha K hK => ?_
          obtain ⟨v11, _⟩ := hv
          obtain rfl : z11 = _ := v11
          simp only [dagPut, Act.put, List.setIfInBounds_toArray, List.set_cons_zero, List.set_cons_succ] at ha
          subst ha
          refine wpOp_on rfl rfl ?_
          simp only [Act.put, List.setIfInBounds_toArray, List.set_cons_zero, List.set_cons_succ, List.getD_cons_succ, List.getD_cons_zero] at hK
          go_simp
          refine (lives_spec W).mono ?_
          rintro e w3 ⟨rfl, hS3, hst3⟩
          exact hK.out _ _ rfl (sepEmp (Sep.mount (M := []) hS hS3)) (hst.trans hst3)
        · refine all15 fun z0 z1 z2 z3 z4 z5 z6 z7 z8 z9 z10 z11 z12 z13 z14 W L hv hS hst a ha K hK => ?_
          obtain ⟨v11, v12, _⟩ := hv
          obtain rfl : z11 = _ := v11
          obtain rfl : z12 = _ := v12
          simp only [dagPut, Act.put, List.setIfInBounds_toArray, List.set_cons_zero, List.set_cons_succ] at ha
          subst ha
          refine wpOp_plain rfl rfl ?_
          simp only [Act.put, List.setIfInBounds_toArray, List.set_cons_zero, List.set_cons_succ, List.getD_cons_succ, List.getD_cons_zero] at hK
          go_simp
          exact hK.out _ _ rfl (sepEmp hS) hst
        · refine all15 fun z0 z1 z2 z3 z4 z5 z6 z7 z8 z9 z10 z11 z12 z13 z14 W L hv hS hst a ha K hK => ?_
          obtain ⟨v13, _⟩ := hv
          obtain rfl : z13 = _ := v13
          simp only [dagPut, Act.put, List.setIfInBounds_toArray, List.set_cons_zero, List.set_cons_succ] at ha
          subst ha
          refine wpOp_plain rfl rfl ?_
          simp only [Act.put, List.setIfInBounds_toArray, List.set_cons_zero, List.set_cons_succ, List.getD_cons_succ, List.getD_cons_zero] at hK
          go_simp
          exact hK.out _ _ rfl (sepEmp hS) hst
        · refine all15 fun z0 z1 z2 z3 z4 z5 z6 z7 z8 z9 z10 z11 z12 z13 z14 W hv hS hst a ha => ?_
          obtain ⟨⟨⟨⟨⟨⟨⟨⟨⟨⟨⟨⟨⟨⟨⟨_, v0⟩, v1⟩, v2⟩, v3⟩, v4⟩, v5⟩, v6⟩, v7⟩, v8⟩, v9⟩, v10⟩, v11⟩, v12⟩, v13⟩, v14⟩ := hv
          obtain rfl : z0 = _ := v0
          obtain rfl : z1 = _ := v1
          obtain rfl : z2 = _ := v2
          obtain rfl : z3 = _ := v3
          obtain rfl : z4 = _ := v4
          obtain rfl : z5 = _ := v5
          obtain rfl : z6 = _ := v6
          obtain rfl : z7 = _ := v7
          obtain rfl : z8 = _ := v8
          obtain rfl : z9 = _ := v9
          obtain rfl : z10 = _ := v10
          obtain rfl : z11 = _ := v11
          obtain rfl : z12 = _ := v12
          obtain rfl : z13 = _ := v13
          obtain rfl : z14 = _ := v14
          simp only [dagPut, Act.put, List.setIfInBounds_toArray, List.set_cons_zero, List.set_cons_succ] at ha; subst ha
          go_wp2_with fail
          go_meet
          exact ⟨rfl, hS, hst⟩
      case rest =>
        obtain ⟨rfl, hS, hst⟩ := hcut
        have H6 := Lib.hid (And.intro hS hst)
        clear hS hst
        go_wp2_with fail
        go_ret
        exact ⟨rfl, rebase HB.out (Sep.below (H6.out.1.drop.drop) H6.out.2)⟩

end Go.Proofs.Ytjmlpjaahankcaa
