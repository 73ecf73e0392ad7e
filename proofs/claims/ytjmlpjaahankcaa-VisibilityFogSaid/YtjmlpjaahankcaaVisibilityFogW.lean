/- The walk of VisibilityFog. -/
import Derived.Test.YtjmlpjaahankcaaVisSym
import Derived.Test.YtjmlpjaahankcaaMotion
import Derived.Deep.CutRange
namespace Go.Proofs.Ytjmlpjaahankcaa
open Go.RowKit Go.Sl

variable {w : World} {L : List Asn}

def bigBox : Bx := (-1048576, -1048576, 1048576, 1048576)
theorem roomIx_big {x y : Int} (hx : near x) (hy : near y) : roomIx [bigBox] x y = 0 := by
  refine roomIx_at (k := 0) (by simp) (by simp) ?_
  unfold near at hx hy
  simp [inB, bigBox]
  omega
theorem fog_sees {s : St} {cs : List Int} {p i : Int} (hr : s.rooms = [bigBox]) (hd : s.doors = []) (hn : ∀ i : Int, 0 ≤ i → i < s.nb → near (posX s cs i) ∧ near (posY s cs i)) (hm : s.players ≤ s.nb) (h : 0 ≤ p ∧ p < s.players ∧ 0 ≤ i ∧ i < s.nb) :
    seesB s cs p i = (p == i || decide (dist2 s cs p i < (s.fog + 1) * (s.fog + 1))) := by
  have h1 : roomOf s cs p = 0 := by unfold roomOf; rw [hr]; exact roomIx_big (hn p h.1 (by omega)).1 (hn p h.1 (by omega)).2
  have h2 : roomOf s cs i = 0 := by unfold roomOf; rw [hr]; exact roomIx_big (hn i h.2.2.1 h.2.2.2).1 (hn i h.2.2.1 h.2.2.2).2
  rw [seesB_in h, seesIn, h1, h2, hd, connB_self]
  simp

set_option maxRecDepth 100000 in
set_option maxHeartbeats 8000000 in
theorem visibilityFog_walk {u vt : Value} {l at_ : List Int} {fg : Int} (e0 : readsI w u l) (b0 : l.length ≤ 9223372036854775807) (w0 : ∀ x ∈ l, inI64 x) (e2 : readsI w vt at_) (b2 : at_.length ≤ 9223372036854775807) (w2 : ∀ x ∈ at_, inI64 x) (hfg : inI64 fg) :
    Calls Try.prog 9 #[u, vt, i64 fg] w fun e w' => e = .returned (.bool true) ∧ Below w.heap.size w w' := by
  have hA := fun w => Around_spec fg 30000 w (by omega) (by omega) hfg
  have f0 : 0 ≤ around fg 30000 := around_lo (by omega)
  have f1 : around fg 30000 < 30000 := around_hi (by omega)
  generalize around fg 30000 = f at *
  have hSet := Setup12_spec e0 w0 b0
  have HS := Lib.hid (And.intro hSet (And.intro e2 (And.intro b2 (And.intro w2 hA))))
  clear hSet e0 b0 w0 e2 b2 w2 hA hfg
  go_enter Try.func9, Try.ntmps9
  go_wp2_with fail
  refine HS.out.1.mono ?_
  rintro e w1 ⟨su, rfl, hg, hS1, hst1⟩
  have hB1 : Below w.heap.size w w1 := (Su.oldPart hS1).below hst1
  have hbr := Su.bodiesRead hS1
  have hrt : readsI w1 vt at_ := HS.out.2.1.of_heap (Su.oldPart hS1).oldGet
  obtain ⟨np, hnp, hnp3⟩ := hg.base.players_nat
  have HC := Lib.hid (And.intro hg (And.intro hbr (And.intro hrt hnp)))
  have HB := Lib.hid hB1
  have hpl := hg.base.players
  have hmo := hg.base.more
  have hfew := hg.base.few
  have hnb := hg.base.nb
  clear hS1 hst1 hB1 hg hbr hrt hnp
  obtain ⟨s, bodies⟩ := su
  obtain ⟨players, nb, ba, bc, x0, y0, x1, y1, rooms, ra, rc, doors, da, dc, fog, gx, gy, push, drag, rest, rounds, fuel⟩ := s
  dsimp only [St.val, St.doorsV] at *
  subst hnb
  have H1 := Lib.hid (And.intro ((Sep.start w1).alloc (.cells #[i64 0, .slice none 0 0, i64 0, i64 0, i64 0, i64 0, .slice none 0 0, .slice none 0 0, i64 0, i64 0, i64 0, i64 0, i64 0, i64 0, i64 0, i64 0] 31)) ((Stable.refl w1).alloc (.cells #[i64 0, .slice none 0 0, i64 0, i64 0, i64 0, i64 0, .slice none 0 0, .slice none 0 0, i64 0, i64 0, i64 0, i64 0, i64 0, i64 0, i64 0, i64 0] 31)))
  go_upto_region 2 with (refine wpList_store_sep rfl 31 _ _ rfl w1.heap.size #[i64 players, .slice ba bodies.length bc, i64 x0, i64 y0, i64 x1, i64 y1, .slice ra rooms.length rc, .slice da doors.length dc, i64 fog, i64 gx, i64 gy, i64 push, i64 drag, i64 rest, i64 rounds, i64 fuel] rfl rfl H1.out.1 (by kernel_rfl) rfl (by kernel_rfl) ?_; intro w2 hS2 hst2)
  generalize w1.heap.size = bs at *
  have H2 := Lib.hid (And.intro (hS2.alloc (.cells #[i64 (-1048576), i64 (-1048576), i64 1048576, i64 1048576] 25)) ((H1.out.2.trans hst2).alloc (.cells #[i64 (-1048576), i64 (-1048576), i64 1048576, i64 1048576] 25)))
  clear hS2 hst2 H1
  go_upto_region 3 with (refine wpList_store_cell rfl _ _ _ rfl (H2.out.1.pick 1) 6 (.slice (some ⟨w2.heap.size, 0, none⟩) 1 1) rfl rfl rfl (by simp) (by kernel_rfl) ?_; intro w3 hS3 hst3)
  generalize w2.heap.size = rb at *
  simp only [List.setIfInBounds_toArray, List.set_cons_succ, List.set_cons_zero] at hS3
  have H3 := Lib.hid (And.intro hS3 (H2.out.2.trans hst3))
  clear hS3 hst3 H2
  go_upto_region 4 with (refine wpList_store_cell rfl _ _ _ rfl H3.out.1 7 (.slice none 0 0) rfl rfl rfl (by simp) (by kernel_rfl) ?_; intro w4 hS4 hst4)
  simp only [List.setIfInBounds_toArray, List.set_cons_succ, List.set_cons_zero] at hS4
  have H4 := Lib.hid (And.intro hS4 (H3.out.2.trans hst4))
  clear hS4 hst4 H3
  go_wp2_with fail
  refine (HS.out.2.2.2.2 _).mono ?_
  rintro e w5 ⟨rfl, rfl⟩
  go_upto_region 5 with (refine wpList_store_cell rfl 3 _ _ rfl H4.out.1 8 (i64 f) rfl rfl rfl (by simp) (by kernel_rfl) ?_; intro w5 hS5 hst5)
  simp only [List.setIfInBounds_toArray, List.set_cons_succ, List.set_cons_zero] at hS5
  have hS6 := (hS5.pick 1).lit (size := 4) (n := 1) rfl (by decide)
  have H5 := Lib.hid (And.intro (show Sep w5 [Sl.held 4 (.slice (some ⟨rb, 0, none⟩) 1 1) 1 (bcells [bigBox]), pts bs (.cells #[i64 players, .slice ba bodies.length bc, i64 x0, i64 y0, i64 x1, i64 y1, .slice (some ⟨rb, 0, none⟩) 1 1, .slice none 0 0, i64 f, i64 gx, i64 gy, i64 push, i64 drag, i64 rest, i64 rounds, i64 fuel] 31), old w1] from hS6) (H4.out.2.trans hst5))
  clear hS5 hst5 hS6 H4
  have hbase : (Su.mk ⟨players, bodies.length, ba, bc, x0, y0, x1, y1, [bigBox], some ⟨rb, 0, none⟩, 1, [], none, 0, f, gx, gy, push, drag, rest, rounds, fuel⟩ bodies).Base := by have b := HC.out.1.base; exact ⟨b.nb, b.players, b.more, b.few, b.bounds, b.gx, b.gy, b.push, b.drag, b.rest, b.rounds, b.fuel, b.bodies⟩
  have hfine : St.Fine ⟨players, bodies.length, ba, bc, x0, y0, x1, y1, [bigBox], some ⟨rb, 0, none⟩, 1, [], none, 0, f, gx, gy, push, drag, rest, rounds, fuel⟩ := ⟨by simp, by simp, by simp⟩
  have hCe := Cells_spec (w := w5) (Su.mk ⟨players, bodies.length, ba, bc, x0, y0, x1, y1, [bigBox], some ⟨rb, 0, none⟩, 1, [], none, 0, f, gx, gy, push, drag, rest, rounds, fuel⟩ bodies) np HC.out.2.2.2 (by omega) rfl (by show bodies.length ≤ 1000; omega) (HC.out.2.1.of_heap (H5.out.1.pick 2).oldGet) hbase.near (HC.out.2.2.1.of_heap (H5.out.1.pick 2).oldGet) HS.out.2.2.2.1 HS.out.2.2.1
  dsimp only [St.val] at hCe
  have HCE := Lib.hid hCe
  have HBF := Lib.hid (And.intro hbase hfine)
  clear hCe hbase hfine
  go_wp2_with (refine wpList_load_g 31 _ rfl _ rfl _ _ _ _ (Sep.get (H5.out.1.pick 1)) Try.underlying31 rfl (by kernel_rfl) (by first | rfl | (go_simp; done) | (go_simp; omega)) ?_)
  refine HCE.out.mono ?_
  rintro e w6 ⟨cv, cs, rfl, hna, hS6, hst6⟩
  have hS7 : Sep w6 [rowI cv cs, pts bs (.cells #[i64 players, .slice ba bodies.length bc, i64 x0, i64 y0, i64 x1, i64 y1, .slice (some ⟨rb, 0, none⟩) 1 1, .slice none 0 0, i64 f, i64 gx, i64 gy, i64 push, i64 drag, i64 rest, i64 rounds, i64 fuel] 31), Sl.held 4 (.slice (some ⟨rb, 0, none⟩) 1 1) 1 (bcells [bigBox]), old w1] := (H5.out.1.mount (hS6.pick 1)).pick 2 |>.pick 1
  have hsee := fun (W : World) (M : List Asn) (hS : Sep W (rowI cv cs :: pts bs (.cells #[i64 players, .slice ba bodies.length bc, i64 x0, i64 y0, i64 x1, i64 y1, .slice (some ⟨rb, 0, none⟩) 1 1, .slice none 0 0, i64 f, i64 gx, i64 gy, i64 push, i64 drag, i64 rest, i64 rounds, i64 fuel] 31) :: Sl.held 4 (.slice (some ⟨rb, 0, none⟩) 1 1) 1 (bcells [bigBox]) :: old w1 :: M)) => seeing_at (s := Su.mk ⟨players, bodies.length, ba, bc, x0, y0, x1, y1, [bigBox], some ⟨rb, 0, none⟩, 1, [], none, 0, f, gx, gy, push, drag, rest, rounds, fuel⟩ bodies) HBF.out.1 HBF.out.2 (by show 0 ≤ f ∧ f ≤ 10000000; omega) ⟨(hS.pick 2).heldReads, readsD_nil W⟩ HC.out.2.2.2 hna hS.reads
  have hpl2 := fun (k n : Nat) (hk : k < bodies.length) (hn : bodyAt ⟨players, bodies.length, ba, bc, x0, y0, x1, y1, [bigBox], some ⟨rb, 0, none⟩, 1, [], none, 0, f, gx, gy, push, drag, rest, rounds, fuel⟩ k = n) (W : World) (M : List Asn) (hS : Sep W (rowI cv cs :: pts bs (.cells #[i64 players, .slice ba bodies.length bc, i64 x0, i64 y0, i64 x1, i64 y1, .slice (some ⟨rb, 0, none⟩) 1 1, .slice none 0 0, i64 f, i64 gx, i64 gy, i64 push, i64 drag, i64 rest, i64 rounds, i64 fuel] 31) :: Sl.held 4 (.slice (some ⟨rb, 0, none⟩) 1 1) 1 (bcells [bigBox]) :: old w1 :: M)) => place_in (w := W) (Su.mk ⟨players, bodies.length, ba, bc, x0, y0, x1, y1, [bigBox], some ⟨rb, 0, none⟩, 1, [], none, 0, f, gx, gy, push, drag, rest, rounds, fuel⟩ bodies) (by show 0 ≤ players ∧ players ≤ 1000; omega) rfl (by show bodies.length ≤ 1000; omega) (HC.out.2.1.of_heap (hS.pick 3).oldGet) hS.reads k n hk hn (by have h1 := hna.1; have h2 := hn; have h3 := HC.out.2.2.2; unfold bodyAt at h2; dsimp only at h1 h2 h3; rw [if_pos (by omega)] at h2; omega)
  have H6 := Lib.hid (And.intro hS7 (H5.out.2.trans hst6))
  have HP := Lib.hid (And.intro hsee (And.intro hpl2 hna))
  clear hS6 hst6 hS7 hsee hpl2 hna H5
  go_wp2_with fail
  go_loopw [9, 10, 11, 12] (fun kk i d c wr => ∃ k : Nat, (k : Int) ≤ players ∧ kk = .int .i64 k ∧ Sep wr [rowI cv cs, pts bs (.cells #[i64 players, .slice ba bodies.length bc, i64 x0, i64 y0, i64 x1, i64 y1, .slice (some ⟨rb, 0, none⟩) 1 1, .slice none 0 0, i64 f, i64 gx, i64 gy, i64 push, i64 drag, i64 rest, i64 rounds, i64 fuel] 31), Sl.held 4 (.slice (some ⟨rb, 0, none⟩) 1 1) 1 (bcells [bigBox]), old w1] ∧ Stable w1 wr) (fun k _ _ _ _ => (players - intOf k).toNat)
  case atStart => exact ⟨0, by omega, rfl, H6.out.1, H6.out.2⟩
  case round =>
    obtain ⟨k, hk, rfl, hSr, hst⟩ := hrel
    have s0 := cell_of_blk (hSr.pick 1).get 0
    simp at s0
    have HR := Lib.hid (And.intro hSr hst)
    clear hSr hst
    by_cases hlt : (k : Int) < players
    · go_wp2_with fail
      obtain ⟨wo, hwo⟩ : ∃ wo : World, wo = wr := ⟨_, rfl⟩
      clear hwo s0
      go_loopw [10, 11, 12] (fun ii d c wr => ∃ i : Nat, i ≤ bodies.length ∧ ii = .int .i64 i ∧ Sep wr [rowI cv cs, pts bs (.cells #[i64 players, .slice ba bodies.length bc, i64 x0, i64 y0, i64 x1, i64 y1, .slice (some ⟨rb, 0, none⟩) 1 1, .slice none 0 0, i64 f, i64 gx, i64 gy, i64 push, i64 drag, i64 rest, i64 rounds, i64 fuel] 31), Sl.held 4 (.slice (some ⟨rb, 0, none⟩) 1 1) 1 (bcells [bigBox]), old w1] ∧ Stable w1 wr) (fun i _ _ _ => bodies.length - (intOf i).toNat)
      case atStart => exact ⟨0, by omega, rfl, HR.out.1, HR.out.2⟩
      case round =>
        obtain ⟨i, hi, rfl, hSr, hst⟩ := hrel
        have s2 := cell_of_blk (hSr.pick 1).get 1
        simp at s2
        have H7 := Lib.hid (And.intro hSr hst)
        clear hSr hst
        by_cases hli : i < bodies.length
        · have hkb : k < bodies.length := by omega
          have hbi : bodyAt ⟨players, bodies.length, ba, bc, x0, y0, x1, y1, [bigBox], some ⟨rb, 0, none⟩, 1, [], none, 0, f, gx, gy, push, drag, rest, rounds, fuel⟩ i = ((48 + 4 * np + 8 * i : Nat) : Int) := by have := HC.out.2.2.2; unfold bodyAt; dsimp only at this ⊢; rw [if_pos (by omega)]; omega
          have hbk : bodyAt ⟨players, bodies.length, ba, bc, x0, y0, x1, y1, [bigBox], some ⟨rb, 0, none⟩, 1, [], none, 0, f, gx, gy, push, drag, rest, rounds, fuel⟩ k = ((48 + 4 * np + 8 * k : Nat) : Int) := by have := HC.out.2.2.2; unfold bodyAt; dsimp only at this ⊢; rw [if_pos (by omega)]; omega
          have hPi := HP.out.2.1 i _ hli hbi
          have hPk := HP.out.2.1 k _ hkb hbk
          obtain ⟨ni1, ni2⟩ := HP.out.2.2.2 i hli
          obtain ⟨nk1, nk2⟩ := HP.out.2.2.2 k hkb
          have hfs := fog_sees (s := ⟨players, bodies.length, ba, bc, x0, y0, x1, y1, [bigBox], some ⟨rb, 0, none⟩, 1, [], none, 0, f, gx, gy, push, drag, rest, rounds, fuel⟩) (cs := cs) (p := k) (i := i) rfl rfl (HP.out.1 _ _ H7.out.1).near hmo (by dsimp only; omega)
          unfold dist2 posX posY at hfs
          rw [hbi, hbk, Int.toNat_natCast, Int.toNat_natCast] at hfs
          have hSs := fun (W : World) (M : List Asn) (hW : Sep W (rowI cv cs :: pts bs (.cells #[i64 players, .slice ba bodies.length bc, i64 x0, i64 y0, i64 x1, i64 y1, .slice (some ⟨rb, 0, none⟩) 1 1, .slice none 0 0, i64 f, i64 gx, i64 gy, i64 push, i64 drag, i64 rest, i64 rounds, i64 fuel] 31) :: Sl.held 4 (.slice (some ⟨rb, 0, none⟩) 1 1) 1 (bcells [bigBox]) :: old w1 :: M)) => Sees_spec (HP.out.1 W M hW) k i
          dsimp only [St.val] at hPi hPk hfs hSs
          rw [hfs] at hSs
          generalize cs.getD (48 + 4 * np + 8 * i) 0 = xi at *
          generalize cs.getD (48 + 4 * np + 8 * i + 1) 0 = yi at *
          generalize cs.getD (48 + 4 * np + 8 * k) 0 = xk at *
          generalize cs.getD (48 + 4 * np + 8 * k + 1) 0 = yk at *
          unfold near at ni1 ni2 nk1 nk2
          have hSub := fun W => Sub_spec xi yi xk yk (by unfold mid; omega) (by unfold mid; omega) (by unfold mid; omega) (by unfold mid; omega) W
          have HX := Lib.hid (And.intro hPi (And.intro hPk (And.intro hSub hSs)))
          have bx : -2097152 ≤ xi - xk ∧ xi - xk ≤ 2097152 := by omega
          have by' : -2097152 ≤ yi - yk ∧ yi - yk ≤ 2097152 := by omega
          clear hPi hPk hSub hSs hfs hbi hbk ni1 ni2 nk1 nk2
          go_upto_region 12 with fail
          go_cut [11] from 38 to 46 (fun x11 wx => ∃ bd, x11 = .pointer (some ⟨bd, 0, none⟩) ∧ Sep wx [pts bd (.cells #[i64 (xi - xk), i64 (yi - yk)] 29), rowI cv cs, pts bs (.cells #[i64 players, .slice ba bodies.length bc, i64 x0, i64 y0, i64 x1, i64 y1, .slice (some ⟨rb, 0, none⟩) 1 1, .slice none 0 0, i64 f, i64 gx, i64 gy, i64 push, i64 drag, i64 rest, i64 rounds, i64 fuel] 31), Sl.held 4 (.slice (some ⟨rb, 0, none⟩) 1 1) 1 (bcells [bigBox]), old w1] ∧ Stable w1 wx)
          case first =>
            refine wp_region_dag (w0 := w1) 11 [some 38, some 39, some 40, some 41, some 42, some 43, some 44, some 45, some 46, some 11, none] [.det [] (.agg #[i64 players, .slice ba bodies.length bc, i64 x0, i64 y0, i64 x1, i64 y1, .slice (some ⟨rb, 0, none⟩) 1 1, .slice none 0 0, i64 f, i64 gx, i64 gy, i64 push, i64 drag, i64 rest, i64 rounds, i64 fuel]), .det [] (cv), .det [] (i64 i), .det [0, 1, 2] (.agg #[i64 xi, i64 yi]), .det [] (.agg #[i64 players, .slice ba bodies.length bc, i64 x0, i64 y0, i64 x1, i64 y1, .slice (some ⟨rb, 0, none⟩) 1 1, .slice none 0 0, i64 f, i64 gx, i64 gy, i64 push, i64 drag, i64 rest, i64 rounds, i64 fuel]), .det [] (cv), .det [] (i64 k), .det [4, 5, 6] (.agg #[i64 xk, i64 yk]), .det [3, 7] (.agg #[i64 (xi - xk), i64 (yi - yk)]), .new ((.cells #[i64 0, i64 0] 29)), .store 9 [8] ((.cells #[i64 (xi - xk), i64 (yi - yk)] 29))] [rowI cv cs, pts bs (.cells #[i64 players, .slice ba bodies.length bc, i64 x0, i64 y0, i64 x1, i64 y1, .slice (some ⟨rb, 0, none⟩) 1 1, .slice none 0 0, i64 f, i64 gx, i64 gy, i64 push, i64 drag, i64 rest, i64 rounds, i64 fuel] 31), Sl.held 4 (.slice (some ⟨rb, 0, none⟩) 1 1) 1 (bcells [bigBox]), old w1] [10] rfl (by kernel_rfl) (by kernel_rfl) (by kernel_rfl) (by kernel_rfl) (H7.out.1) (H7.out.2) ⟨⟨⟨⟨⟨⟨⟨⟨⟨⟨⟨trivial, ?_⟩, ?_⟩, ?_⟩, ?_⟩, ?_⟩, ?_⟩, ?_⟩, ?_⟩, ?_⟩, ?_⟩, ?_⟩ ?_
            · refine all11 fun z0 z1 z2 z3 z4 z5 z6 z7 z8 z9 z10 W L hv hS hst a ha K hK => ?_
              simp only [dagPut, Act.put, List.setIfInBounds_toArray, List.set_cons_zero, List.set_cons_succ] at ha
              subst ha
              refine wpOp_plain rfl rfl ?_
              simp only [Act.put, List.setIfInBounds_toArray, List.set_cons_zero, List.set_cons_succ, List.getD_cons_zero] at hK
              refine wp_load_row 31 _ rfl _ rfl _ _ _ _ (Sep.get (L := _) (Sep.pick 1 hS)) Try.underlying31 rfl (by kernel_rfl) ?_
              exact hK.out _ _ rfl (sepEmp hS) hst
            · refine all11 fun z0 z1 z2 z3 z4 z5 z6 z7 z8 z9 z10 W L hv hS hst a ha K hK => ?_
              simp only [dagPut, Act.put, List.setIfInBounds_toArray, List.set_cons_zero, List.set_cons_succ] at ha
              subst ha
              refine wpOp_plain rfl rfl ?_
              simp only [Act.put, List.setIfInBounds_toArray, List.set_cons_zero, List.set_cons_succ, List.getD_cons_succ, List.getD_cons_zero] at hK
              go_simp
              exact hK.out _ _ rfl (sepEmp hS) hst
            · refine all11 fun z0 z1 z2 z3 z4 z5 z6 z7 z8 z9 z10 W L hv hS hst a ha K hK => ?_
              simp only [dagPut, Act.put, List.setIfInBounds_toArray, List.set_cons_zero, List.set_cons_succ] at ha
              subst ha
              refine wpOp_plain rfl rfl ?_
              simp only [Act.put, List.setIfInBounds_toArray, List.set_cons_zero, List.set_cons_succ, List.getD_cons_succ, List.getD_cons_zero] at hK
              go_simp
              exact hK.out _ _ rfl (sepEmp hS) hst
            · refine all11 fun z0 z1 z2 z3 z4 z5 z6 z7 z8 z9 z10 W L hv hS hst a ha K hK => ?_
              obtain ⟨v0, v1, v2, _⟩ := hv
              obtain rfl : z0 = _ := v0
              obtain rfl : z1 = _ := v1
              obtain rfl : z2 = _ := v2
              simp only [dagPut, Act.put, List.setIfInBounds_toArray, List.set_cons_zero, List.set_cons_succ] at ha
              subst ha
              refine wpOp_plain rfl rfl ?_
              simp only [Act.put, List.setIfInBounds_toArray, List.set_cons_zero, List.set_cons_succ, List.getD_cons_succ, List.getD_cons_zero] at hK
              go_simp
              refine (HX.out.1 W _ hS).mono ?_
              rintro e w3 ⟨rfl, hS3, hst3⟩
              exact hK.out _ _ rfl (sepEmp (Sep.mount (M := []) hS hS3)) (hst.trans hst3)
            · refine all11 fun z0 z1 z2 z3 z4 z5 z6 z7 z8 z9 z10 W L hv hS hst a ha K hK => ?_
              simp only [dagPut, Act.put, List.setIfInBounds_toArray, List.set_cons_zero, List.set_cons_succ] at ha
              subst ha
              refine wpOp_plain rfl rfl ?_
              simp only [Act.put, List.setIfInBounds_toArray, List.set_cons_zero, List.set_cons_succ, List.getD_cons_succ, List.getD_cons_zero] at hK
              refine wp_load_row 31 _ rfl _ rfl _ _ _ _ (Sep.get (L := _) (Sep.pick 1 hS)) Try.underlying31 rfl (by kernel_rfl) ?_
              exact hK.out _ _ rfl (sepEmp hS) hst
            · refine all11 fun z0 z1 z2 z3 z4 z5 z6 z7 z8 z9 z10 W L hv hS hst a ha K hK => ?_
              simp only [dagPut, Act.put, List.setIfInBounds_toArray, List.set_cons_zero, List.set_cons_succ] at ha
              subst ha
              refine wpOp_plain rfl rfl ?_
              simp only [Act.put, List.setIfInBounds_toArray, List.set_cons_zero, List.set_cons_succ, List.getD_cons_succ, List.getD_cons_zero] at hK
              go_simp
              exact hK.out _ _ rfl (sepEmp hS) hst
            · refine all11 fun z0 z1 z2 z3 z4 z5 z6 z7 z8 z9 z10 W L hv hS hst a ha K hK => ?_
              simp only [dagPut, Act.put, List.setIfInBounds_toArray, List.set_cons_zero, List.set_cons_succ] at ha
              subst ha
              refine wpOp_plain rfl rfl ?_
              simp only [Act.put, List.setIfInBounds_toArray, List.set_cons_zero, List.set_cons_succ, List.getD_cons_succ, List.getD_cons_zero] at hK
              go_simp
              exact hK.out _ _ rfl (sepEmp hS) hst
            · refine all11 fun z0 z1 z2 z3 z4 z5 z6 z7 z8 z9 z10 W L hv hS hst a ha K hK => ?_
              obtain ⟨v4, v5, v6, _⟩ := hv
              obtain rfl : z4 = _ := v4
              obtain rfl : z5 = _ := v5
              obtain rfl : z6 = _ := v6
              simp only [dagPut, Act.put, List.setIfInBounds_toArray, List.set_cons_zero, List.set_cons_succ] at ha
              subst ha
              refine wpOp_plain rfl rfl ?_
              simp only [Act.put, List.setIfInBounds_toArray, List.set_cons_zero, List.set_cons_succ, List.getD_cons_succ, List.getD_cons_zero] at hK
              go_simp
              refine (HX.out.2.1 W _ hS).mono ?_
              rintro e w3 ⟨rfl, hS3, hst3⟩
              exact hK.out _ _ rfl (sepEmp (Sep.mount (M := []) hS hS3)) (hst.trans hst3)
            · refine all11 fun z0 z1 z2 z3 z4 z5 z6 z7 z8 z9 z10 W L hv hS hst a ha K hK => ?_
              obtain ⟨v3, v7, _⟩ := hv
              obtain rfl : z3 = _ := v3
              obtain rfl : z7 = _ := v7
              simp only [dagPut, Act.put, List.setIfInBounds_toArray, List.set_cons_zero, List.set_cons_succ] at ha
              subst ha
              refine wpOp_plain rfl rfl ?_
              simp only [Act.put, List.setIfInBounds_toArray, List.set_cons_zero, List.set_cons_succ, List.getD_cons_succ, List.getD_cons_zero] at hK
              go_simp
              refine (HX.out.2.2.1 W).mono ?_
              rintro e w3 ⟨rfl, hS3, hst3⟩
              exact hK.out _ _ rfl (sepEmp (Sep.mount (M := []) hS hS3)) (hst.trans hst3)
            · refine all11 fun z0 z1 z2 z3 z4 z5 z6 z7 z8 z9 z10 W L hv hS hst a ha K hK => ?_
              simp only [dagPut, Act.put, List.setIfInBounds_toArray, List.set_cons_zero, List.set_cons_succ] at ha
              subst ha
              refine wpOp_plain rfl rfl ?_
              simp only [Act.put, List.setIfInBounds_toArray, List.set_cons_zero, List.set_cons_succ, List.getD_cons_succ, List.getD_cons_zero] at hK
              go_simp
              exact hK.out _ _ ⟨_, rfl⟩ (Sep.alloc hS _).box (hst.alloc _)
            · refine all11 fun z0 z1 z2 z3 z4 z5 z6 z7 z8 z9 z10 W L hv hS hst a ha K hK => ?_
              obtain ⟨v9, v8, _⟩ := hv
              obtain rfl : z8 = _ := v8
              obtain ⟨b, rfl, hS⟩ := Sep.unbox hS
              have c := fun i => cell_of_blk hS.get i
              have fz := frozen_of_blk hS.get
              simp only [dagPut, Act.put, List.setIfInBounds_toArray, List.set_cons_zero, List.set_cons_succ] at ha
              subst ha
              refine wpOp_plain rfl rfl ?_
              simp only [Act.put, List.getD_cons_succ, List.getD_cons_zero] at hK
              go_simp
              exact hK.out undef _ trivial (hS.set2 _ _).box ((hst.setCell _ _).setCell _ _)
            · refine all11 fun z0 z1 z2 z3 z4 z5 z6 z7 z8 z9 z10 W hv hS hst a ha => ?_
              obtain ⟨⟨⟨⟨⟨⟨⟨⟨⟨⟨⟨_, v0⟩, v1⟩, v2⟩, v3⟩, v4⟩, v5⟩, v6⟩, v7⟩, v8⟩, v9⟩, v10⟩ := hv
              obtain rfl : z0 = _ := v0
              obtain rfl : z1 = _ := v1
              obtain rfl : z2 = _ := v2
              obtain rfl : z3 = _ := v3
              obtain rfl : z4 = _ := v4
              obtain rfl : z5 = _ := v5
              obtain rfl : z6 = _ := v6
              obtain rfl : z7 = _ := v7
              obtain rfl : z8 = _ := v8
              obtain ⟨bd, rfl, hS⟩ := Sep.unbox hS
              simp only [dagPut, Act.put, List.setIfInBounds_toArray, List.set_cons_zero, List.set_cons_succ] at ha; subst ha
              go_wp2_with fail
              go_meet
              exact ⟨bd, rfl, hS, hst⟩
          case rest =>
            obtain ⟨bd, rfl, hS, hst⟩ := hcut
            have c0 := cell_of_blk hS.get 0
            have c1 := cell_of_blk hS.get 1
            have c8 := cell_of_blk (hS.pick 2).get 8
            simp at c0 c1 c8
            have H9 := Lib.hid (And.intro hS hst)
            clear hS hst H7 s2
            have mx := sq_bd (x := xi - xk) (by omega)
            have my := sq_bd (x := yi - yk) (by omega)
            have mf : 0 ≤ (f + 1) * (f + 1) ∧ (f + 1) * (f + 1) ≤ 1000000000 := ⟨Int.mul_nonneg (by omega) (by omega), Int.le_trans (Int.mul_le_mul (by omega : f + 1 ≤ 30001) (by omega : f + 1 ≤ 30001) (by omega) (by omega)) (by decide : (30001 : Int) * 30001 ≤ 1000000000)⟩
            obtain ⟨mx1, mx2⟩ := mx
            obtain ⟨my1, my2⟩ := my
            obtain ⟨mf1, mf2⟩ := mf
            have hSv := HX.out.2.2.2
            generalize hV : ((k : Int) == (i : Int) || decide ((xi - xk) * (xi - xk) + (yi - yk) * (yi - yk) < (f + 1) * (f + 1))) = V at *
            have HSV := Lib.hid hSv
            clear hSv HX
            by_cases hik : i = k
            · have hVt : V = true := by rw [← hV, hik]; simp
              subst hVt
              have HV := Lib.hid (And.intro hV hik)
              clear hV
              subst hik
              go_upto_region 13 with fail
              go_upto_region 14 with fail
              go_wp2_with (refine wpList_load_g 31 _ rfl _ rfl _ _ _ _ (Sep.get (H9.out.1.pick 2)) Try.underlying31 rfl (by kernel_rfl) (by first | rfl | (go_simp; done) | (go_simp; omega)) ?_)
              refine (HSV.out _ _ H9.out.1.drop).mono ?_
              rintro e w9 ⟨rfl, hS9, hst9⟩
              have H10 := Lib.hid (And.intro ((H9.out.1.mount hS9).drop) (H9.out.2.trans hst9))
              clear hS9 hst9
              go_wp2_with fail
              go_roundw
              case rel => exact ⟨i + 1, by omega, by go_num, H10.out.1, H10.out.2⟩
              case measure => simp [intOf]; omega
            · have g1 : ((i : Int) == (k : Int)) = false := by rw [beq_eq_false_iff_ne]; omega
              have hVd : V = decide ((xi - xk) * (xi - xk) + (yi - yk) * (yi - yk) < (f + 1) * (f + 1)) := by rw [← hV, show ((k : Int) == (i : Int)) = false by rw [beq_eq_false_iff_ne]; omega]; simp
              have HIK := Lib.hid (And.intro hik hV)
              clear hik hV
              cases hd : decide ((xi - xk) * (xi - xk) + (yi - yk) * (yi - yk) < (f + 1) * (f + 1)) with
              | true =>
                rw [hd] at hVd
                subst hVd
                go_upto_region 13 with fail
                go_upto_region 14 with fail
                go_wp2_with (refine wpList_load_g 31 _ rfl _ rfl _ _ _ _ (Sep.get (H9.out.1.pick 2)) Try.underlying31 rfl (by kernel_rfl) (by first | rfl | (go_simp; done) | (go_simp; omega)) ?_)
                refine (HSV.out _ _ H9.out.1.drop).mono ?_
                rintro e w9 ⟨rfl, hS9, hst9⟩
                have H10 := Lib.hid (And.intro ((H9.out.1.mount hS9).drop) (H9.out.2.trans hst9))
                clear hS9 hst9
                go_wp2_with fail
                go_roundw
                case rel => exact ⟨i + 1, by omega, by go_num, H10.out.1, H10.out.2⟩
                case measure => simp [intOf]; omega
              | false =>
                rw [hd] at hVd
                subst hVd
                go_upto_region 13 with fail
                go_upto_region 14 with fail
                go_wp2_with (refine wpList_load_g 31 _ rfl _ rfl _ _ _ _ (Sep.get (H9.out.1.pick 2)) Try.underlying31 rfl (by kernel_rfl) (by first | rfl | (go_simp; done) | (go_simp; omega)) ?_)
                refine (HSV.out _ _ H9.out.1.drop).mono ?_
                rintro e w9 ⟨rfl, hS9, hst9⟩
                have H10 := Lib.hid (And.intro ((H9.out.1.mount hS9).drop) (H9.out.2.trans hst9))
                clear hS9 hst9
                go_wp2_with fail
                go_roundw
                case rel => exact ⟨i + 1, by omega, by go_num, H10.out.1, H10.out.2⟩
                case measure => simp [intOf]; omega
        · obtain rfl : i = bodies.length := by omega
          go_wp2_with fail
          go_roundw
          case rel => exact ⟨k + 1, by omega, by go_num, H7.out.1, H7.out.2⟩
          case measure => simp [intOf]; omega
    · go_wp2_with fail
      refine (lives_spec _).mono ?_
      rintro e w7 ⟨rfl, hS7, hst7⟩
      have H7 := Lib.hid (And.intro (HR.out.1.mount hS7) (HR.out.2.trans hst7))
      clear hS7 hst7
      go_wp2_with fail
      go_ret
      exact ⟨rfl, rebase HB.out (Sep.below (H7.out.1.pick 3).one' H7.out.2)⟩

end Go.Proofs.Ytjmlpjaahankcaa
