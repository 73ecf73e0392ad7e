/- The walk of VisibilityRooms. -/
import Derived.Test.YtjmlpjaahankcaaLaw27
import Derived.Deep.CutRange
namespace Go.Proofs.Ytjmlpjaahankcaa
open Go.RowKit Go.Sl

variable {w : World} {L : List Asn}

set_option maxRecDepth 100000 in
set_option maxHeartbeats 8000000 in
theorem visibilityRooms_walk {u v : Value} {l rs : List Int} {x y room : Int} (e0 : readsI w u l) (b0 : l.length ≤ 9223372036854775807) (w0 : ∀ x ∈ l, inI64 x) (e1 : readsI w v rs) (b1 : rs.length ≤ 9223372036854775807) (w1 : ∀ x ∈ rs, inI64 x)
    (hx : inI64 x) (hy : inI64 y) (_hr : inI64 room) :
    Calls Try.prog 3 #[u, v, i64 x, i64 y, i64 room] w fun e w' => e = .returned (.bool true) ∧ Below w.heap.size w w' := by
  have hSet := Setup27_spec e0 w0 b0 e1 w1 b1
  have hPt := Point_spec x y hx hy
  have HS := Lib.hid (And.intro hSet hPt)
  clear hSet hPt e0 b0 w0 e1 b1 w1 hx hy _hr
  go_enter Try.func3, Try.ntmps3
  go_wp2_with fail
  refine HS.out.1.mono ?_
  rintro e w1 ⟨su, rfl, hg, hS1, hst1⟩
  have hB1 : Below w.heap.size w w1 := (Su.oldPart hS1).below hst1
  have hrd := Su.reads hS1
  have hfine := hg.fine
  have hR := fun (W : World) (M : List Asn) (hW : Sep W (old w1 :: M)) (x y : Int) => Room_spec (hrd.of_heap hW.oldGet) hfine x y
  have hRR := fun (W : World) (M : List Asn) (hW : Sep W (old w1 :: M)) (x y : Int) => RoomR_spec (hrd.of_heap hW.oldGet) hfine x y
  have hQ := fun (W : World) (M : List Asn) (hW : Sep W (old w1 :: M)) (r : Int) => Rooms_all (hrd.of_heap hW.oldGet) hfine r
  have hQR := fun (W : World) (M : List Asn) (hW : Sep W (old w1 :: M)) (r : Int) => RoomsR_all (hrd.of_heap hW.oldGet) hfine r
  have hlen : ∀ r, (roomsI su.st r).length ≤ 1000000000000 := fun r => by have := roomsI_length su.st r; have := hg.rooms; omega
  have hn := hg.rooms
  have HC := Lib.hid (And.intro hR (And.intro hRR (And.intro hQ (And.intro hQR hlen))))
  have HB := Lib.hid hB1
  clear hS1 hst1 hrd hfine hR hRR hQ hQR hlen hB1 hg
  generalize (fun r => roomsI su.st r) = q at *
  obtain ⟨s, bodies⟩ := su
  dsimp only at *
  generalize hq : roomsI s = q at *
  generalize hq2 : roomIx s.rooms = q2 at *
  clear hq hq2
  obtain ⟨players, nb, ba, bc, x0, y0, x1, y1, rooms, ra, rc, doors, da, dc, fog, gx, gy, push, drag, rest, rounds, fuel⟩ := s
  dsimp only [St.val, St.doorsV] at *
  have H1 := Lib.hid (And.intro ((Sep.start w1).alloc (.cells #[i64 0, .slice none 0 0, i64 0, i64 0, i64 0, i64 0, .slice none 0 0, .slice none 0 0, i64 0, i64 0, i64 0, i64 0, i64 0, i64 0, i64 0, i64 0] 31)) ((Stable.refl w1).alloc (.cells #[i64 0, .slice none 0 0, i64 0, i64 0, i64 0, i64 0, .slice none 0 0, .slice none 0 0, i64 0, i64 0, i64 0, i64 0, i64 0, i64 0, i64 0, i64 0] 31)))
  go_upto_region 2 with (refine wpList_store_sep rfl 31 _ _ rfl w1.heap.size #[i64 players, .slice ba nb bc, i64 x0, i64 y0, i64 x1, i64 y1, .slice ra rooms.length rc, .slice da doors.length dc, i64 fog, i64 gx, i64 gy, i64 push, i64 drag, i64 rest, i64 rounds, i64 fuel] rfl rfl H1.out.1 (by kernel_rfl) rfl (by kernel_rfl) ?_; intro w2 hS2 hst2)
  generalize w1.heap.size = bs at *
  have H2 := Lib.hid (And.intro hS2 (H1.out.2.trans hst2))
  clear hS2 hst2 H1
  go_wp2_with fail
  refine (HS.out.2 _).mono ?_
  rintro e w3 ⟨px, py, rfl, _, _, hS3, hst3⟩
  have hS4 := (H2.out.1.mount hS3).alloc (.cells #[i64 px, i64 py] 29)
  have H4 := Lib.hid (And.intro hS4 ((H2.out.2.trans hst3).alloc (.cells #[i64 px, i64 py] 29)))
  clear hS3 hst3 hS4 H2 HS
  go_upto_region 3 with fail
  generalize w3.heap.size = bp at *
  generalize World.alloc w3 _ = w4 at *
  go_cut [36] from 20 to 35 (fun x36 wx => x36 = .bool false ∧ Sep wx [pts bs (.cells #[i64 players, .slice ba nb bc, i64 x0, i64 y0, i64 x1, i64 y1, .slice ra rooms.length rc, .slice da doors.length dc, i64 fog, i64 gx, i64 gy, i64 push, i64 drag, i64 rest, i64 rounds, i64 fuel] 31), old w1] ∧ Stable w1 wx)
  case first =>
    refine wp_region_dag (w0 := w1) 17 [some 20, some 21, some 22, some 23, some 24, some 25, some 26, some 27, some 28, some 29, some 30, some 31, some 32, some 33, some 34, some 35, some 36] [.det [] (.agg #[i64 players, .slice ba nb bc, i64 x0, i64 y0, i64 x1, i64 y1, .slice ra rooms.length rc, .slice da doors.length dc, i64 fog, i64 gx, i64 gy, i64 push, i64 drag, i64 rest, i64 rounds, i64 fuel]), .det [] (.agg #[i64 px, i64 py]), .det [0, 1] (i64 (q2 px py)), .det [] (.agg #[i64 players, .slice ba nb bc, i64 x0, i64 y0, i64 x1, i64 y1, .slice ra rooms.length rc, .slice da doors.length dc, i64 fog, i64 gx, i64 gy, i64 push, i64 drag, i64 rest, i64 rounds, i64 fuel]), .det [] (.agg #[i64 px, i64 py]), .det [3, 4] (i64 (q2 px py)), .det [2, 5] (.bool false), .det [6] (.bool false), .det [7] (.agg #[i64 players, .slice ba nb bc, i64 x0, i64 y0, i64 x1, i64 y1, .slice ra rooms.length rc, .slice da doors.length dc, i64 fog, i64 gx, i64 gy, i64 push, i64 drag, i64 rest, i64 rounds, i64 fuel]), .det [7] (i64 room), .make [8, 9, 7] (fun x => rowI x (q room)), .det [7] (.agg #[i64 players, .slice ba nb bc, i64 x0, i64 y0, i64 x1, i64 y1, .slice ra rooms.length rc, .slice da doors.length dc, i64 fog, i64 gx, i64 gy, i64 push, i64 drag, i64 rest, i64 rounds, i64 fuel]), .det [7] (i64 room), .make [11, 12, 7] (fun x => rowI x (q room)), Sp.mk [10, 13, 7] [10, 13] (fun _ x => x = .bool true) (fun _ _ => emp), .det [14, 7] (.bool false), .det [7, 15] (.bool false)] [pts bp (.cells #[i64 px, i64 py] 29), pts bs (.cells #[i64 players, .slice ba nb bc, i64 x0, i64 y0, i64 x1, i64 y1, .slice ra rooms.length rc, .slice da doors.length dc, i64 fog, i64 gx, i64 gy, i64 push, i64 drag, i64 rest, i64 rounds, i64 fuel] 31), old w1] [] rfl (by kernel_rfl) (by kernel_rfl) (by kernel_rfl) (by kernel_rfl) (H4.out.1) (H4.out.2) ⟨⟨⟨⟨⟨⟨⟨⟨⟨⟨⟨⟨⟨⟨⟨⟨⟨trivial, ?_⟩, ?_⟩, ?_⟩, ?_⟩, ?_⟩, ?_⟩, ?_⟩, ?_⟩, ?_⟩, ?_⟩, ?_⟩, ?_⟩, ?_⟩, ?_⟩, ?_⟩, ?_⟩, ?_⟩ ?_
    · refine all17 fun z0 z1 z2 z3 z4 z5 z6 z7 z8 z9 z10 z11 z12 z13 z14 z15 z16 W L hv hS hst a ha K hK => ?_
      simp only [dagPut, Act.put, List.setIfInBounds_toArray, List.set_cons_zero, List.set_cons_succ] at ha
      subst ha
      refine wpOp_plain rfl rfl ?_
      simp only [Act.put, List.setIfInBounds_toArray, List.set_cons_zero, List.set_cons_succ, List.getD_cons_zero, List.getD_cons_succ] at hK
      refine wp_load_row 31 _ rfl _ rfl _ _ _ _ (Sep.get (L := _) (Sep.pick 1 hS)) Try.underlying31 rfl (by kernel_rfl) ?_
      exact hK.out _ _ rfl (sepEmp hS) hst
    · refine all17 fun z0 z1 z2 z3 z4 z5 z6 z7 z8 z9 z10 z11 z12 z13 z14 z15 z16 W L hv hS hst a ha K hK => ?_
      simp only [dagPut, Act.put, List.setIfInBounds_toArray, List.set_cons_zero, List.set_cons_succ] at ha
      subst ha
      refine wpOp_plain rfl rfl ?_
      simp only [Act.put, List.setIfInBounds_toArray, List.set_cons_zero, List.set_cons_succ, List.getD_cons_zero, List.getD_cons_succ] at hK
      refine wp_load_row 29 _ rfl _ rfl _ _ _ _ (Sep.get (L := _) (hS)) Try.underlying29 rfl (by kernel_rfl) ?_
      exact hK.out _ _ rfl (sepEmp hS) hst
    · refine all17 fun z0 z1 z2 z3 z4 z5 z6 z7 z8 z9 z10 z11 z12 z13 z14 z15 z16 W L hv hS hst a ha K hK => ?_
      obtain ⟨v0, v1, _⟩ := hv
      obtain rfl : z0 = _ := v0
      obtain rfl : z1 = _ := v1
      simp only [dagPut, Act.put, List.setIfInBounds_toArray, List.set_cons_zero, List.set_cons_succ] at ha
      subst ha
      refine wpOp_plain rfl rfl ?_
      simp only [Act.put, List.setIfInBounds_toArray, List.set_cons_zero, List.set_cons_succ, List.getD_cons_zero, List.getD_cons_succ] at hK
      go_simp
      refine (HC.out.1 W _ (Sep.pick 2 hS) px py).mono ?_
      rintro e w3 ⟨rfl, hS3, hst3⟩
      exact hK.out _ _ rfl (sepEmp (Sep.mount (M := []) hS hS3)) (hst.trans hst3)
    · refine all17 fun z0 z1 z2 z3 z4 z5 z6 z7 z8 z9 z10 z11 z12 z13 z14 z15 z16 W L hv hS hst a ha K hK => ?_
      simp only [dagPut, Act.put, List.setIfInBounds_toArray, List.set_cons_zero, List.set_cons_succ] at ha
      subst ha
      refine wpOp_plain rfl rfl ?_
      simp only [Act.put, List.setIfInBounds_toArray, List.set_cons_zero, List.set_cons_succ, List.getD_cons_zero, List.getD_cons_succ] at hK
      refine wp_load_row 31 _ rfl _ rfl _ _ _ _ (Sep.get (L := _) (Sep.pick 1 hS)) Try.underlying31 rfl (by kernel_rfl) ?_
      exact hK.out _ _ rfl (sepEmp hS) hst
    · refine all17 fun z0 z1 z2 z3 z4 z5 z6 z7 z8 z9 z10 z11 z12 z13 z14 z15 z16 W L hv hS hst a ha K hK => ?_
      simp only [dagPut, Act.put, List.setIfInBounds_toArray, List.set_cons_zero, List.set_cons_succ] at ha
      subst ha
      refine wpOp_plain rfl rfl ?_
      simp only [Act.put, List.setIfInBounds_toArray, List.set_cons_zero, List.set_cons_succ, List.getD_cons_zero, List.getD_cons_succ] at hK
      refine wp_load_row 29 _ rfl _ rfl _ _ _ _ (Sep.get (L := _) (hS)) Try.underlying29 rfl (by kernel_rfl) ?_
      exact hK.out _ _ rfl (sepEmp hS) hst
    · refine all17 fun z0 z1 z2 z3 z4 z5 z6 z7 z8 z9 z10 z11 z12 z13 z14 z15 z16 W L hv hS hst a ha K hK => ?_
      obtain ⟨v3, v4, _⟩ := hv
      obtain rfl : z3 = _ := v3
      obtain rfl : z4 = _ := v4
      simp only [dagPut, Act.put, List.setIfInBounds_toArray, List.set_cons_zero, List.set_cons_succ] at ha
      subst ha
      refine wpOp_plain rfl rfl ?_
      simp only [Act.put, List.setIfInBounds_toArray, List.set_cons_zero, List.set_cons_succ, List.getD_cons_zero, List.getD_cons_succ] at hK
      go_simp
      refine (HC.out.2.1 W _ (Sep.pick 2 hS) px py).mono ?_
      rintro e w3 ⟨rfl, hS3, hst3⟩
      exact hK.out _ _ rfl (sepEmp (Sep.mount (M := []) hS hS3)) (hst.trans hst3)
    · refine all17 fun z0 z1 z2 z3 z4 z5 z6 z7 z8 z9 z10 z11 z12 z13 z14 z15 z16 W L hv hS hst a ha K hK => ?_
      obtain ⟨v2, v5, _⟩ := hv
      obtain rfl : z2 = _ := v2
      obtain rfl : z5 = _ := v5
      simp only [dagPut, Act.put, List.setIfInBounds_toArray, List.set_cons_zero, List.set_cons_succ] at ha
      subst ha
      refine wpOp_plain rfl rfl ?_
      simp only [Act.put, List.setIfInBounds_toArray, List.set_cons_zero, List.set_cons_succ, List.getD_cons_zero, List.getD_cons_succ] at hK
      go_simp
      exact hK.out _ _ rfl (sepEmp hS) hst
    · refine all17 fun z0 z1 z2 z3 z4 z5 z6 z7 z8 z9 z10 z11 z12 z13 z14 z15 z16 W L hv hS hst a ha K hK => ?_
      obtain ⟨v6, _⟩ := hv
      obtain rfl : z6 = _ := v6
      simp only [dagPut, Act.put, List.setIfInBounds_toArray, List.set_cons_zero, List.set_cons_succ] at ha
      subst ha
      refine wpOp_plain rfl rfl ?_
      simp only [Act.put, List.setIfInBounds_toArray, List.set_cons_zero, List.set_cons_succ, List.getD_cons_zero, List.getD_cons_succ] at hK
      go_simp
      exact hK.out _ _ rfl (sepEmp hS) hst
    · refine all17 fun z0 z1 z2 z3 z4 z5 z6 z7 z8 z9 z10 z11 z12 z13 z14 z15 z16 W L hv hS hst a ha K hK => ?_
      obtain ⟨v7, _⟩ := hv
      obtain rfl : z7 = _ := v7
      simp only [dagPut, Act.put, List.setIfInBounds_toArray, List.set_cons_zero, List.set_cons_succ] at ha
      subst ha
      refine wpOp_on rfl rfl ?_
      simp only [Act.put, List.setIfInBounds_toArray, List.set_cons_zero, List.set_cons_succ, List.getD_cons_zero, List.getD_cons_succ] at hK
      refine wp_load_row 31 _ rfl _ rfl _ _ _ _ (Sep.get (L := _) (Sep.pick 1 hS)) Try.underlying31 rfl (by kernel_rfl) ?_
      exact hK.out _ _ rfl (sepEmp hS) hst
    · refine all17 fun z0 z1 z2 z3 z4 z5 z6 z7 z8 z9 z10 z11 z12 z13 z14 z15 z16 W L hv hS hst a ha K hK => ?_
      obtain ⟨v7, _⟩ := hv
      obtain rfl : z7 = _ := v7
      simp only [dagPut, Act.put, List.setIfInBounds_toArray, List.set_cons_zero, List.set_cons_succ] at ha
      subst ha
      refine wpOp_on rfl rfl ?_
      simp only [Act.put, List.setIfInBounds_toArray, List.set_cons_zero, List.set_cons_succ, List.getD_cons_zero, List.getD_cons_succ] at hK
      go_simp
      exact hK.out _ _ rfl (sepEmp hS) hst
    · refine all17 fun z0 z1 z2 z3 z4 z5 z6 z7 z8 z9 z10 z11 z12 z13 z14 z15 z16 W L hv hS hst a ha K hK => ?_
      obtain ⟨v8, v9, v7, _⟩ := hv
      obtain rfl : z8 = _ := v8
      obtain rfl : z9 = _ := v9
      obtain rfl : z7 = _ := v7
      simp only [dagPut, Act.put, List.setIfInBounds_toArray, List.set_cons_zero, List.set_cons_succ] at ha
      subst ha
      refine wpOp_on rfl rfl ?_
      simp only [Act.put, List.setIfInBounds_toArray, List.set_cons_zero, List.set_cons_succ, List.getD_cons_zero, List.getD_cons_succ] at hK
      go_simp
      refine (HC.out.2.2.1 W _ (Sep.pick 2 hS) room).mono ?_
      rintro e w3 ⟨v3, rfl, hS3, hst3⟩
      exact hK.out _ _ trivial ((Sep.mount hS (Sep.pick 1 hS3))) (hst.trans hst3)
    · refine all17 fun z0 z1 z2 z3 z4 z5 z6 z7 z8 z9 z10 z11 z12 z13 z14 z15 z16 W L hv hS hst a ha K hK => ?_
      obtain ⟨v7, _⟩ := hv
      obtain rfl : z7 = _ := v7
      simp only [dagPut, Act.put, List.setIfInBounds_toArray, List.set_cons_zero, List.set_cons_succ] at ha
      subst ha
      refine wpOp_on rfl rfl ?_
      simp only [Act.put, List.setIfInBounds_toArray, List.set_cons_zero, List.set_cons_succ, List.getD_cons_zero, List.getD_cons_succ] at hK
      refine wp_load_row 31 _ rfl _ rfl _ _ _ _ (Sep.get (L := _) (Sep.pick 1 hS)) Try.underlying31 rfl (by kernel_rfl) ?_
      exact hK.out _ _ rfl (sepEmp hS) hst
    · refine all17 fun z0 z1 z2 z3 z4 z5 z6 z7 z8 z9 z10 z11 z12 z13 z14 z15 z16 W L hv hS hst a ha K hK => ?_
      obtain ⟨v7, _⟩ := hv
      obtain rfl : z7 = _ := v7
      simp only [dagPut, Act.put, List.setIfInBounds_toArray, List.set_cons_zero, List.set_cons_succ] at ha
      subst ha
      refine wpOp_on rfl rfl ?_
      simp only [Act.put, List.setIfInBounds_toArray, List.set_cons_zero, List.set_cons_succ, List.getD_cons_zero, List.getD_cons_succ] at hK
      go_simp
      exact hK.out _ _ rfl (sepEmp hS) hst
    · refine all17 fun z0 z1 z2 z3 z4 z5 z6 z7 z8 z9 z10 z11 z12 z13 z14 z15 z16 W L hv hS hst a ha K hK => ?_
      obtain ⟨v11, v12, v7, _⟩ := hv
      obtain rfl : z11 = _ := v11
      obtain rfl : z12 = _ := v12
      obtain rfl : z7 = _ := v7
      simp only [dagPut, Act.put, List.setIfInBounds_toArray, List.set_cons_zero, List.set_cons_succ] at ha
      subst ha
      refine wpOp_on rfl rfl ?_
      simp only [Act.put, List.setIfInBounds_toArray, List.set_cons_zero, List.set_cons_succ, List.getD_cons_zero, List.getD_cons_succ] at hK
      go_simp
      refine (HC.out.2.2.2.1 W _ (Sep.pick 2 hS) room).mono ?_
      rintro e w3 ⟨v3, rfl, hS3, hst3⟩
      exact hK.out _ _ trivial ((Sep.mount hS (Sep.pick 1 hS3))) (hst.trans hst3)
    · refine all17 fun z0 z1 z2 z3 z4 z5 z6 z7 z8 z9 z10 z11 z12 z13 z14 z15 z16 W L hv hS hst a ha K hK => ?_
      have hS0 : Sep W (rowI z10 (q room) :: rowI z13 (q room) :: _) := hS
      obtain ⟨v10, v13, v7, _⟩ := hv
      obtain rfl : z7 = _ := v7
      simp only [dagPut, Act.put, List.setIfInBounds_toArray, List.set_cons_zero, List.set_cons_succ] at ha
      subst ha
      refine wpOp_on rfl rfl ?_
      simp only [Act.put, List.setIfInBounds_toArray, List.set_cons_zero, List.set_cons_succ, List.getD_cons_zero, List.getD_cons_succ] at hK
      go_simp
      refine (SameInts_self hS0.reads (Sep.pick 1 hS0).reads (HC.out.2.2.2.2 room)).mono ?_
      rintro e w3 ⟨rfl, n3, rfl⟩
      exact hK.out _ _ rfl (sepEmp ((hS0.drop.drop).drewN n3)) (hst.drewN n3)
    · refine all17 fun z0 z1 z2 z3 z4 z5 z6 z7 z8 z9 z10 z11 z12 z13 z14 z15 z16 W L hv hS hst a ha K hK => ?_
      obtain ⟨v14, v7, _⟩ := hv
      obtain rfl : z14 = _ := v14
      obtain rfl : z7 = _ := v7
      simp only [dagPut, Act.put, List.setIfInBounds_toArray, List.set_cons_zero, List.set_cons_succ] at ha
      subst ha
      refine wpOp_on rfl rfl ?_
      simp only [Act.put, List.setIfInBounds_toArray, List.set_cons_zero, List.set_cons_succ, List.getD_cons_zero, List.getD_cons_succ] at hK
      go_simp
      exact hK.out _ _ rfl (sepEmp hS) hst
    · refine all17 fun z0 z1 z2 z3 z4 z5 z6 z7 z8 z9 z10 z11 z12 z13 z14 z15 z16 W L hv hS hst a ha K hK => ?_
      obtain ⟨v7, v15, _⟩ := hv
      obtain rfl : z7 = _ := v7
      obtain rfl : z15 = _ := v15
      simp only [dagPut, Act.put, List.setIfInBounds_toArray, List.set_cons_zero, List.set_cons_succ] at ha
      subst ha
      refine wpOp_plain rfl rfl ?_
      simp only [Act.put, List.setIfInBounds_toArray, List.set_cons_zero, List.set_cons_succ, List.getD_cons_zero, List.getD_cons_succ] at hK
      go_simp
      exact hK.out _ _ rfl (sepEmp hS) hst
    · refine all17 fun z0 z1 z2 z3 z4 z5 z6 z7 z8 z9 z10 z11 z12 z13 z14 z15 z16 W hv hS hst a ha => ?_
      obtain ⟨⟨⟨⟨⟨⟨⟨⟨⟨⟨⟨⟨⟨⟨⟨⟨⟨_, v0⟩, v1⟩, v2⟩, v3⟩, v4⟩, v5⟩, v6⟩, v7⟩, v8⟩, v9⟩, v10⟩, v11⟩, v12⟩, v13⟩, v14⟩, v15⟩, v16⟩ := hv
      obtain rfl : z0 = _ := v0
      obtain rfl : z1 = _ := v1
      obtain rfl : z2 = _ := v2
      obtain rfl : z3 = _ := v3
      obtain rfl : z4 = _ := v4
      obtain rfl : z5 = _ := v5
      obtain rfl : z6 = _ := v6
      obtain rfl : z7 = _ := v7
      obtain rfl : z8 = _ := v8
      obtain rfl : z9 = _ := v9
      obtain rfl : z11 = _ := v11
      obtain rfl : z12 = _ := v12
      obtain rfl : z14 = _ := v14
      obtain rfl : z15 = _ := v15
      obtain rfl : z16 = _ := v16
      simp only [dagPut, Act.put, List.setIfInBounds_toArray, List.set_cons_zero, List.set_cons_succ] at ha; subst ha
      go_wp2_with fail
      go_meet
      exact ⟨rfl, hS.drop, hst⟩
  case rest =>
    obtain ⟨rfl, hS, hst⟩ := hcut
    have H5 := Lib.hid (And.intro hS hst)
    clear hS hst H4
    go_wp2_with fail
    go_loopw [13] (fun i wr => ∃ k : Nat, k ≤ rooms.length + 2 ∧ i = i64 ((k : Int) - 1) ∧ Sep wr [pts bs (.cells #[i64 players, .slice ba nb bc, i64 x0, i64 y0, i64 x1, i64 y1, .slice ra rooms.length rc, .slice da doors.length dc, i64 fog, i64 gx, i64 gy, i64 push, i64 drag, i64 rest, i64 rounds, i64 fuel] 31), old w1] ∧ Stable w1 wr) (fun i _ => rooms.length + 2 - (intOf i + 1).toNat)
    case atStart => exact ⟨0, by omega, rfl, H5.out.1, H5.out.2⟩
    case round =>
      obtain ⟨k, hk, rfl, hSr, hst⟩ := hrel
      have s6 : wr.cell? ⟨bs, 6, none⟩ = some (.slice ra rooms.length rc) := cell_of_blk hSr.get 6
      have HR := Lib.hid (And.intro hSr hst)
      clear hSr hst
      by_cases hlt : k < rooms.length + 2
      · have hb : decide ((k : Int) - 1 ≤ (rooms.length : Int)) = true := by rw [decide_eq_true_iff]; omega
        go_upto_region 8 with fail
        go_cut [51] from 44 to 50 (fun x51 wx => x51 = .bool false ∧ Sep wx [pts bs (.cells #[i64 players, .slice ba nb bc, i64 x0, i64 y0, i64 x1, i64 y1, .slice ra rooms.length rc, .slice da doors.length dc, i64 fog, i64 gx, i64 gy, i64 push, i64 drag, i64 rest, i64 rounds, i64 fuel] 31), old w1] ∧ Stable w1 wx)
        case first =>
          refine wp_region_dag (w0 := w1) 8 [some 44, some 45, some 46, some 47, some 48, some 49, some 50, some 51] [.det [] (.agg #[i64 players, .slice ba nb bc, i64 x0, i64 y0, i64 x1, i64 y1, .slice ra rooms.length rc, .slice da doors.length dc, i64 fog, i64 gx, i64 gy, i64 push, i64 drag, i64 rest, i64 rounds, i64 fuel]), .det [] (i64 ((k : Int) - 1)), .make [0, 1] (fun x => rowI x (q ((k : Int) - 1))), .det [] (.agg #[i64 players, .slice ba nb bc, i64 x0, i64 y0, i64 x1, i64 y1, .slice ra rooms.length rc, .slice da doors.length dc, i64 fog, i64 gx, i64 gy, i64 push, i64 drag, i64 rest, i64 rounds, i64 fuel]), .det [] (i64 ((k : Int) - 1)), .make [3, 4] (fun x => rowI x (q ((k : Int) - 1))), Sp.mk [2, 5] [2, 5] (fun _ x => x = .bool true) (fun _ _ => emp), .det [6] (.bool false)] [pts bs (.cells #[i64 players, .slice ba nb bc, i64 x0, i64 y0, i64 x1, i64 y1, .slice ra rooms.length rc, .slice da doors.length dc, i64 fog, i64 gx, i64 gy, i64 push, i64 drag, i64 rest, i64 rounds, i64 fuel] 31), old w1] [] rfl (by kernel_rfl) (by kernel_rfl) (by kernel_rfl) (by kernel_rfl) (HR.out.1) (HR.out.2) ⟨⟨⟨⟨⟨⟨⟨⟨trivial, ?_⟩, ?_⟩, ?_⟩, ?_⟩, ?_⟩, ?_⟩, ?_⟩, ?_⟩ ?_
          · refine all8 fun z0 z1 z2 z3 z4 z5 z6 z7 W L hv hS hst a ha K hK => ?_
            simp only [dagPut, Act.put, List.setIfInBounds_toArray, List.set_cons_zero, List.set_cons_succ] at ha
            subst ha
            refine wpOp_plain rfl rfl ?_
            simp only [Act.put, List.setIfInBounds_toArray, List.set_cons_zero, List.set_cons_succ, List.getD_cons_zero, List.getD_cons_succ] at hK
            refine wp_load_row 31 _ rfl _ rfl _ _ _ _ (Sep.get (L := _) (hS)) Try.underlying31 rfl (by kernel_rfl) ?_
            exact hK.out _ _ rfl (sepEmp hS) hst
          · refine all8 fun z0 z1 z2 z3 z4 z5 z6 z7 W L hv hS hst a ha K hK => ?_
            simp only [dagPut, Act.put, List.setIfInBounds_toArray, List.set_cons_zero, List.set_cons_succ] at ha
            subst ha
            refine wpOp_plain rfl rfl ?_
            simp only [Act.put, List.setIfInBounds_toArray, List.set_cons_zero, List.set_cons_succ, List.getD_cons_zero, List.getD_cons_succ] at hK
            go_simp
            exact hK.out _ _ rfl (sepEmp hS) hst
          · refine all8 fun z0 z1 z2 z3 z4 z5 z6 z7 W L hv hS hst a ha K hK => ?_
            obtain ⟨v0, v1, _⟩ := hv
            obtain rfl : z0 = _ := v0
            obtain rfl : z1 = _ := v1
            simp only [dagPut, Act.put, List.setIfInBounds_toArray, List.set_cons_zero, List.set_cons_succ] at ha
            subst ha
            refine wpOp_plain rfl rfl ?_
            simp only [Act.put, List.setIfInBounds_toArray, List.set_cons_zero, List.set_cons_succ, List.getD_cons_zero, List.getD_cons_succ] at hK
            go_simp
            refine (HC.out.2.2.1 W _ (Sep.pick 1 hS) ((k : Int) - 1)).mono ?_
            rintro e w3 ⟨v3, rfl, hS3, hst3⟩
            exact hK.out _ _ trivial ((Sep.mount hS (Sep.pick 1 hS3))) (hst.trans hst3)
          · refine all8 fun z0 z1 z2 z3 z4 z5 z6 z7 W L hv hS hst a ha K hK => ?_
            simp only [dagPut, Act.put, List.setIfInBounds_toArray, List.set_cons_zero, List.set_cons_succ] at ha
            subst ha
            refine wpOp_plain rfl rfl ?_
            simp only [Act.put, List.setIfInBounds_toArray, List.set_cons_zero, List.set_cons_succ, List.getD_cons_zero, List.getD_cons_succ] at hK
            refine wp_load_row 31 _ rfl _ rfl _ _ _ _ (Sep.get (L := _) (hS)) Try.underlying31 rfl (by kernel_rfl) ?_
            exact hK.out _ _ rfl (sepEmp hS) hst
          · refine all8 fun z0 z1 z2 z3 z4 z5 z6 z7 W L hv hS hst a ha K hK => ?_
            simp only [dagPut, Act.put, List.setIfInBounds_toArray, List.set_cons_zero, List.set_cons_succ] at ha
            subst ha
            refine wpOp_plain rfl rfl ?_
            simp only [Act.put, List.setIfInBounds_toArray, List.set_cons_zero, List.set_cons_succ, List.getD_cons_zero, List.getD_cons_succ] at hK
            go_simp
            exact hK.out _ _ rfl (sepEmp hS) hst
          · refine all8 fun z0 z1 z2 z3 z4 z5 z6 z7 W L hv hS hst a ha K hK => ?_
            obtain ⟨v3, v4, _⟩ := hv
            obtain rfl : z3 = _ := v3
            obtain rfl : z4 = _ := v4
            simp only [dagPut, Act.put, List.setIfInBounds_toArray, List.set_cons_zero, List.set_cons_succ] at ha
            subst ha
            refine wpOp_plain rfl rfl ?_
            simp only [Act.put, List.setIfInBounds_toArray, List.set_cons_zero, List.set_cons_succ, List.getD_cons_zero, List.getD_cons_succ] at hK
            go_simp
            refine (HC.out.2.2.2.1 W _ (Sep.pick 1 hS) ((k : Int) - 1)).mono ?_
            rintro e w3 ⟨v3, rfl, hS3, hst3⟩
            exact hK.out _ _ trivial ((Sep.mount hS (Sep.pick 1 hS3))) (hst.trans hst3)
          · refine all8 fun z0 z1 z2 z3 z4 z5 z6 z7 W L hv hS hst a ha K hK => ?_
            have hS0 : Sep W (rowI z2 (q ((k : Int) - 1)) :: rowI z5 (q ((k : Int) - 1)) :: _) := hS
            obtain ⟨v2, v5, _⟩ := hv
            simp only [dagPut, Act.put, List.setIfInBounds_toArray, List.set_cons_zero, List.set_cons_succ] at ha
            subst ha
            refine wpOp_plain rfl rfl ?_
            simp only [Act.put, List.setIfInBounds_toArray, List.set_cons_zero, List.set_cons_succ, List.getD_cons_zero, List.getD_cons_succ] at hK
            go_simp
            refine (SameInts_self hS0.reads (Sep.pick 1 hS0).reads (HC.out.2.2.2.2 ((k : Int) - 1))).mono ?_
            rintro e w3 ⟨rfl, n3, rfl⟩
            exact hK.out _ _ rfl (sepEmp ((hS0.drop.drop).drewN n3)) (hst.drewN n3)
          · refine all8 fun z0 z1 z2 z3 z4 z5 z6 z7 W L hv hS hst a ha K hK => ?_
            obtain ⟨v6, _⟩ := hv
            obtain rfl : z6 = _ := v6
            simp only [dagPut, Act.put, List.setIfInBounds_toArray, List.set_cons_zero, List.set_cons_succ] at ha
            subst ha
            refine wpOp_plain rfl rfl ?_
            simp only [Act.put, List.setIfInBounds_toArray, List.set_cons_zero, List.set_cons_succ, List.getD_cons_zero, List.getD_cons_succ] at hK
            go_simp
            exact hK.out _ _ rfl (sepEmp hS) hst
          · refine all8 fun z0 z1 z2 z3 z4 z5 z6 z7 W hv hS hst a ha => ?_
            obtain ⟨⟨⟨⟨⟨⟨⟨⟨_, v0⟩, v1⟩, v2⟩, v3⟩, v4⟩, v5⟩, v6⟩, v7⟩ := hv
            obtain rfl : z0 = _ := v0
            obtain rfl : z1 = _ := v1
            obtain rfl : z3 = _ := v3
            obtain rfl : z4 = _ := v4
            obtain rfl : z6 = _ := v6
            obtain rfl : z7 = _ := v7
            simp only [dagPut, Act.put, List.setIfInBounds_toArray, List.set_cons_zero, List.set_cons_succ] at ha; subst ha
            go_wp2_with fail
            go_meet
            exact ⟨rfl, hS, hst⟩
        case rest =>
          obtain ⟨rfl, hS, hst⟩ := hcut
          have H6 := Lib.hid (And.intro hS hst)
          clear hS hst
          go_wp2_with fail
          go_roundw
          case rel => exact ⟨k + 1, by omega, by go_num, H6.out.1, H6.out.2⟩
          case measure => simp [intOf]; omega
      · obtain rfl : k = rooms.length + 2 := by omega
        go_wp2_with fail
        refine (lives_spec _).mono ?_
        rintro e w6 ⟨rfl, hS6, hst6⟩
        have H6 := Lib.hid (And.intro (HR.out.1.mount hS6) (HR.out.2.trans hst6))
        clear hS6 hst6
        go_wp2_with fail
        go_ret
        exact ⟨rfl, rebase HB.out (Sep.below (H6.out.1.drop) H6.out.2)⟩

end Go.Proofs.Ytjmlpjaahankcaa
