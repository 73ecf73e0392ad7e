/- The walk of VisibilityFirst. -/
import Derived.Test.YtjmlpjaahankcaaVisSym
import Derived.Deep.CutRange
namespace Go.Proofs.Ytjmlpjaahankcaa
open Go.RowKit Go.Sl

variable {w : World} {L : List Asn}

theorem clamp_id (n lo hi : Int) : clamp n lo hi = n ↔ lo ≤ n ∧ n ≤ hi := by
  unfold clamp
  split
  · omega
  · split <;> omega
theorem roomIx_in {l : List Bx} {x y : Int} {k : Nat} (h : roomIx l x y = k) : inB (l.getD k (0, 0, 0, 0)) x y = true := by
  unfold roomIx at h
  split at h
  · rename_i i hi
    obtain rfl : i = k := by omega
    exact (List.find?_range_eq_some.1 hi).1
  · omega
theorem roomIx_before {l : List Bx} {x y : Int} {k : Nat} (hk : k < l.length) (h : inB (l.getD k (0, 0, 0, 0)) x y = true) : 0 ≤ roomIx l x y ∧ roomIx l x y ≤ k := by
  unfold roomIx
  split
  · rename_i i hi
    have := (List.find?_range_eq_some.1 hi).2.2
    refine ⟨by omega, ?_⟩
    rcases Nat.lt_or_ge k i with hlt | hge
    · have := this k hlt
      rw [h] at this
      simp at this
    · omega
  · rename_i hn
    rw [List.find?_range_eq_none] at hn
    have := hn k hk
    rw [h] at this
    simp at this
theorem roomIx_take {l : List Bx} {x y : Int} {K : Nat} (hK : (K : Int) = roomIx l x y + 1) : roomIx (l.take K) x y = roomIx l x y := by
  rcases roomIx_lt l x y with h | ⟨h1, h2⟩
  · obtain rfl : K = 0 := by omega
    rw [h]; rfl
  · obtain ⟨k, hk⟩ : ∃ k : Nat, roomIx l x y = k := ⟨(roomIx l x y).toNat, by omega⟩
    obtain rfl : K = k + 1 := by omega
    have hkl : k < l.length := by omega
    have e : ∀ i, i < k + 1 → (l.take (k + 1)).getD i (0, 0, 0, 0) = l.getD i (0, 0, 0, 0) := fun i hi => by
      rw [List.getD_eq_getElem?_getD, List.getElem?_take, if_pos hi, List.getD_eq_getElem?_getD]
    rw [hk]
    refine roomIx_at (by rw [List.length_take]; omega) (fun i hi => ?_) ?_
    · rw [e i (by omega)]
      cases hb : inB (l.getD i (0, 0, 0, 0)) x y with
      | false => rfl
      | true => have := roomIx_before (by omega) hb; omega
    · rw [e k (by omega)]
      exact roomIx_in hk
theorem bcells_take (l : List Bx) (k : Nat) : bcells (l.take k) = (bcells l).take (k * 4) := by
  induction l generalizing k with
  | nil => simp [bcells]
  | cons a l ih =>
    cases k with
    | zero => simp [bcells]
    | succ k =>
      simp only [bcells, List.take_succ_cons, List.flatMap_cons] at *
      rw [ih k, show (k + 1) * 4 = k * 4 + 4 by omega]
      simp
theorem readsB_take {W : World} {ra : Option Addr} {rc K : Nat} {l : List Bx} (h : readsB W (.slice ra l.length rc) l) (hK : K ≤ l.length) : readsB W (.slice ra (l.take K).length rc) (l.take K) := by
  have hl : (l.take K).length = K := by rw [List.length_take]; omega
  rw [readsB, hl]
  refine ⟨by rw [bcells_length, hl], ?_⟩
  obtain ⟨a, cap, hv, h1, h2, h3⟩ := h.shape
  obtain ⟨rfl, rfl⟩ : ra = a ∧ rc = cap := by simpa using hv
  by_cases h0 : K = 0
  · exact .inl ⟨h0, ra, rc, by rw [h0], h2, fun e => (h3 e).2⟩
  · rcases h.2 with ⟨hn, _⟩ | ⟨b, off, cap', hv', _, _, hc⟩
    · omega
    · obtain ⟨rfl, rfl⟩ : ra = some ⟨b, off, none⟩ ∧ rc = cap' := by simpa using hv'
      refine .inr ⟨b, off, rc, rfl, by omega, h2, fun i hi => ?_⟩
      rw [bcells_length, hl] at hi
      rw [hc i (by rw [bcells_length]; omega), bcells_take, List.getElem?_take, if_pos hi]

set_option maxRecDepth 100000 in
set_option maxHeartbeats 8000000 in
theorem visibilityFirst_walk {u v : Value} {l rs : List Int} {x y : Int} (e0 : readsI w u l) (b0 : l.length ≤ 9223372036854775807) (w0 : ∀ x ∈ l, inI64 x) (e1 : readsI w v rs) (b1 : rs.length ≤ 9223372036854775807) (w1 : ∀ x ∈ rs, inI64 x)
    (hx : inI64 x) (hy : inI64 y) :
    Calls Try.prog 7 #[u, v, i64 x, i64 y] w fun e w' => e = .returned (.bool true) ∧ Below w.heap.size w w' := by
  have hSet := Setup27_spec e0 w0 b0 e1 w1 b1
  have hPt := Point_spec x y hx hy
  have HS := Lib.hid (And.intro hSet hPt)
  clear hSet hPt e0 b0 w0 e1 b1 w1 hx hy
  go_enter Try.func7, Try.ntmps7
  go_wp2_with fail
  refine HS.out.1.mono ?_
  rintro e w1 ⟨su, rfl, hg, hS1, hst1⟩
  have hB1 : Below w.heap.size w w1 := (Su.oldPart hS1).below hst1
  have hrd := Su.reads hS1
  have hfine := hg.fine
  have hn := hg.rooms
  have hnb := hg.base.nb
  have HC := Lib.hid (And.intro hrd hfine)
  have HRA := Lib.hid hg.head
  have HB := Lib.hid hB1
  clear hS1 hst1 hrd hfine hB1 hg
  obtain ⟨s, bodies⟩ := su
  obtain ⟨players, nb, ba, bc, x0, y0, x1, y1, rooms, ra, rc, doors, da, dc, fog, gx, gy, push, drag, rest, rounds, fuel⟩ := s
  dsimp only [St.val, St.doorsV] at *
  subst hnb
  have H1 := Lib.hid (And.intro ((Sep.start w1).alloc (.cells #[i64 0, .slice none 0 0, i64 0, i64 0, i64 0, i64 0, .slice none 0 0, .slice none 0 0, i64 0, i64 0, i64 0, i64 0, i64 0, i64 0, i64 0, i64 0] 31)) ((Stable.refl w1).alloc (.cells #[i64 0, .slice none 0 0, i64 0, i64 0, i64 0, i64 0, .slice none 0 0, .slice none 0 0, i64 0, i64 0, i64 0, i64 0, i64 0, i64 0, i64 0, i64 0] 31)))
  go_upto_region 2 with (refine wpList_store_sep rfl 31 _ _ rfl w1.heap.size #[i64 players, .slice ba bodies.length bc, i64 x0, i64 y0, i64 x1, i64 y1, .slice ra rooms.length rc, .slice da doors.length dc, i64 fog, i64 gx, i64 gy, i64 push, i64 drag, i64 rest, i64 rounds, i64 fuel] rfl rfl H1.out.1 (by kernel_rfl) rfl (by kernel_rfl) ?_; intro w2 hS2 hst2)
  generalize w1.heap.size = bs at *
  have H2 := Lib.hid (And.intro hS2 (H1.out.2.trans hst2))
  clear hS2 hst2 H1
  go_wp2_with fail
  refine (HS.out.2 _).mono ?_
  rintro e w3 ⟨px, py, rfl, _, _, hS3, hst3⟩
  have hS4 := (H2.out.1.mount hS3).alloc (.cells #[i64 px, i64 py] 29)
  have H4 := Lib.hid (And.intro hS4 ((H2.out.2.trans hst3).alloc (.cells #[i64 px, i64 py] 29)))
  clear hS3 hst3 hS4 H2 HS
  go_upto_region 3 with fail
  generalize w3.heap.size = bp at *
  generalize World.alloc w3 _ = w4 at *
  have hRm := Room_spec (HC.out.1.of_heap (H4.out.1.pick 2).oldGet) HC.out.2 px py
  dsimp only [St.val] at hRm
  have hr1 := roomIx_lt rooms px py
  have hri := fun k => roomIx_in (l := rooms) (x := px) (y := py) (k := k)
  have hrb := fun k => roomIx_before (l := rooms) (x := px) (y := py) (k := k)
  have hrt := fun K => roomIx_take (l := rooms) (x := px) (y := py) (K := K)
  generalize roomIx rooms px py = r at *
  have HR0 := Lib.hid (And.intro hRm (And.intro hri (And.intro hrb hrt)))
  have hr2 : -1 ≤ r ∧ r < (rooms.length : Int) := by omega
  obtain ⟨hr3, hr4⟩ := hr2
  clear hRm hri hrb hrt hr1
  go_wp2_with (first | (refine wpList_load_g 31 _ rfl _ rfl _ _ _ _ (Sep.get (H4.out.1.pick 1)) Try.underlying31 rfl (by kernel_rfl) (by first | rfl | (go_simp; done) | (go_simp; omega)) ?_) | (refine wpList_load_g 29 _ rfl _ rfl _ _ _ _ (Sep.get H4.out.1) Try.underlying29 rfl (by kernel_rfl) (by first | rfl | (go_simp; done) | (go_simp; omega)) ?_))
  refine HR0.out.1.mono ?_
  rintro e w5 ⟨rfl, hS5, hst5⟩
  have H5 := Lib.hid (And.intro (H4.out.1.mount hS5) (H4.out.2.trans hst5))
  clear hS5 hst5
  have s6 : w5.cell? ⟨bs, 6, none⟩ = some (.slice ra rooms.length rc) := cell_of_blk (H5.out.1.pick 1).get 6
  go_wp2_with fail
  clear s6
  go_loopw [12, 13, 14] (fun ii bp' inn wr => ∃ i : Nat, i ≤ rooms.length ∧ ii = .int .i64 i ∧ Sep wr [pts bp (.cells #[i64 px, i64 py] 29), pts bs (.cells #[i64 players, .slice ba bodies.length bc, i64 x0, i64 y0, i64 x1, i64 y1, .slice ra rooms.length rc, .slice da doors.length dc, i64 fog, i64 gx, i64 gy, i64 push, i64 drag, i64 rest, i64 rounds, i64 fuel] 31), old w1] ∧ Stable w1 wr) (fun i _ _ _ => rooms.length - (intOf i).toNat)
  case atStart => exact ⟨0, by omega, rfl, H5.out.1, H5.out.2⟩
  case round =>
    obtain ⟨i, hi, rfl, hSr, hst⟩ := hrel
    have s6 : wr.cell? ⟨bs, 6, none⟩ = some (.slice ra rooms.length rc) := cell_of_blk (hSr.pick 1).get 6
    have HR := Lib.hid (And.intro hSr hst)
    clear hSr hst
    by_cases hlt : i < rooms.length
    · have hrr := (HC.out.1.of_heap (HR.out.1.pick 2).oldGet).rooms
      obtain ⟨b, off, cap, hv, hc⟩ := readsB_at hrr (by dsimp only; omega)
      obtain ⟨rfl, rfl⟩ : ra = some ⟨b, off, none⟩ ∧ rc = cap := by simpa using hv
      obtain ⟨d0, d1, d2, d3⟩ := hc i hlt
      have hb1 := HR0.out.2.1 i
      have hb2 := HR0.out.2.2.1 i hlt
      dsimp only at d0 d1 d2 d3
      generalize rooms.getD i (0, 0, 0, 0) = bx at *
      obtain ⟨c0, c1, c2, c3⟩ := bx
      dsimp only at d0 d1 d2 d3
      have HBX := Lib.hid (And.intro hb1 hb2)
      clear hv hc hb1 hb2 hrr
      have hS6 := HR.out.1.alloc (.cells #[i64 c0, i64 c1, i64 c2, i64 c3] 25)
      have H7 := Lib.hid (And.intro hS6 (HR.out.2.alloc (.cells #[i64 c0, i64 c1, i64 c2, i64 c3] 25)))
      clear hS6
      go_upto_region 10 with fail
      clear s6 d0 d1 d2 d3
      generalize wr.heap.size = bb at *
      generalize World.alloc wr _ = w7 at *
      have hcx := fun W => Clamp_spec px c0 c2 W
      have hcy := fun W => Clamp_spec py c1 c3 W
      have hix := clamp_id px c0 c2
      have hiy := clamp_id py c1 c3
      generalize clamp px c0 c2 = cx at *
      generalize clamp py c1 c3 = cy at *
      have HCL := Lib.hid (And.intro hcx hcy)
      clear hcx hcy
      go_cut [14] from 46 to 67 (fun x14 wx => x14 = .bool (inB (c0, c1, c2, c3) px py) ∧ Sep wx [pts bb (.cells #[i64 c0, i64 c1, i64 c2, i64 c3] 25), pts bp (.cells #[i64 px, i64 py] 29), pts bs (.cells #[i64 players, .slice ba bodies.length bc, i64 x0, i64 y0, i64 x1, i64 y1, .slice (some ⟨b, off, none⟩) rooms.length rc, .slice da doors.length dc, i64 fog, i64 gx, i64 gy, i64 push, i64 drag, i64 rest, i64 rounds, i64 fuel] 31), old w1] ∧ Stable w1 wx)
      case first =>
        by_cases hX : cx = px
        · by_cases hY : cy = py
          · have hin : inB (c0, c1, c2, c3) px py = true := by have := hix.1 hX; have := hiy.1 hY; simp [inB]; omega
            have HIN := Lib.hid hin
            have gx1 : (cx == px) = true := by rw [beq_iff_eq]; exact hX
            have gy1 : (cy == py) = true := by rw [beq_iff_eq]; exact hY
            have HXY := Lib.hid (And.intro hX (And.intro hY (And.intro hix hiy)))
            clear hin hX hY hix hiy
            refine wp_region_dag (w0 := w1) 23 [some 46, some 47, some 48, some 49, some 50, some 51, some 52, some 53, some 54, some 55, some 56, some 57, some 58, some 59, some 60, some 61, some 62, some 63, some 64, some 65, some 66, some 67, some 14] [.det [] (.pointer (some ⟨bp, 0, none⟩)), .det [0] (i64 px), .det [] (.pointer (some ⟨bb, 0, none⟩)), .det [2] (i64 c0), .det [] (.pointer (some ⟨bb, 2, none⟩)), .det [4] (i64 c2), .det [1, 3, 5] (i64 cx), .det [] (.pointer (some ⟨bp, 0, none⟩)), .det [7] (i64 px), .det [6, 8] (.bool true), .det [9] (.bool true), .det [10] (.pointer (some ⟨bp, 1, none⟩)), .det [11, 10] (i64 py), .det [10] (.pointer (some ⟨bb, 1, none⟩)), .det [13, 10] (i64 c1), .det [10] (.pointer (some ⟨bb, 3, none⟩)), .det [15, 10] (i64 c3), .det [12, 14, 16, 10] (i64 cy), .det [10] (.pointer (some ⟨bp, 1, none⟩)), .det [18, 10] (i64 py), .det [17, 19, 10] (.bool true), .det [10, 20] (.bool true), .det [21] (.bool true)] [pts bb (.cells #[i64 c0, i64 c1, i64 c2, i64 c3] 25), pts bp (.cells #[i64 px, i64 py] 29), pts bs (.cells #[i64 players, .slice ba bodies.length bc, i64 x0, i64 y0, i64 x1, i64 y1, .slice (some ⟨b, off, none⟩) rooms.length rc, .slice da doors.length dc, i64 fog, i64 gx, i64 gy, i64 push, i64 drag, i64 rest, i64 rounds, i64 fuel] 31), old w1] [] rfl (by kernel_rfl) (by kernel_rfl) (by kernel_rfl) (by kernel_rfl) (H7.out.1) (H7.out.2) ⟨⟨⟨⟨⟨⟨⟨⟨⟨⟨⟨⟨⟨⟨⟨⟨⟨⟨⟨⟨⟨⟨⟨trivial, ?_⟩, ?_⟩, ?_⟩, ?_⟩, ?_⟩, ?_⟩, ?_⟩, ?_⟩, ?_⟩, ?_⟩, ?_⟩, ?_⟩, ?_⟩, ?_⟩, ?_⟩, ?_⟩, ?_⟩, ?_⟩, ?_⟩, ?_⟩, ?_⟩, ?_⟩, ?_⟩ ?_
            · refine all23 fun z0 z1 z2 z3 z4 z5 z6 z7 z8 z9 z10 z11 z12 z13 z14 z15 z16 z17 z18 z19 z20 z21 z22 W L hv hS hst a ha K hK => ?_
              simp only [dagPut, Act.put, List.setIfInBounds_toArray, List.set_cons_zero, List.set_cons_succ] at ha
              subst ha
              refine wpOp_plain rfl rfl ?_
              simp only [Act.put, List.setIfInBounds_toArray, List.set_cons_zero, List.set_cons_succ, List.getD_cons_zero] at hK
              go_simp
              exact hK.out _ _ rfl (sepEmp hS) hst
            · refine all23 fun z0 z1 z2 z3 z4 z5 z6 z7 z8 z9 z10 z11 z12 z13 z14 z15 z16 z17 z18 z19 z20 z21 z22 W L hv hS hst a ha K hK => ?_
              obtain ⟨v0, _⟩ := hv
              obtain rfl : z0 = _ := v0
              have c0 := (show W.cell? ⟨bp, 0, none⟩ = some (i64 px) from cell_of_blk (Sep.get (L := _) (Sep.pick 1 hS)) 0)
              simp only [dagPut, Act.put, List.setIfInBounds_toArray, List.set_cons_zero, List.set_cons_succ] at ha
              subst ha
              refine wpOp_plain rfl rfl ?_
              simp only [Act.put, List.setIfInBounds_toArray, List.set_cons_zero, List.set_cons_succ, List.getD_cons_succ, List.getD_cons_zero] at hK
              go_simp
              exact hK.out _ _ rfl (sepEmp hS) hst
            · refine all23 fun z0 z1 z2 z3 z4 z5 z6 z7 z8 z9 z10 z11 z12 z13 z14 z15 z16 z17 z18 z19 z20 z21 z22 W L hv hS hst a ha K hK => ?_
              simp only [dagPut, Act.put, List.setIfInBounds_toArray, List.set_cons_zero, List.set_cons_succ] at ha
              subst ha
              refine wpOp_plain rfl rfl ?_
              simp only [Act.put, List.setIfInBounds_toArray, List.set_cons_zero, List.set_cons_succ, List.getD_cons_succ, List.getD_cons_zero] at hK
              go_simp
              exact hK.out _ _ rfl (sepEmp hS) hst
            · refine all23 fun z0 z1 z2 z3 z4 z5 z6 z7 z8 z9 z10 z11 z12 z13 z14 z15 z16 z17 z18 z19 z20 z21 z22 W L hv hS hst a ha K hK => ?_
              obtain ⟨v2, _⟩ := hv
              obtain rfl : z2 = _ := v2
              have c0 := (show W.cell? ⟨bb, 0, none⟩ = some (i64 c0) from cell_of_blk (Sep.get (L := _) (hS)) 0)
              simp only [dagPut, Act.put, List.setIfInBounds_toArray, List.set_cons_zero, List.set_cons_succ] at ha
              subst ha
              refine wpOp_plain rfl rfl ?_
              simp only [Act.put, List.setIfInBounds_toArray, List.set_cons_zero, List.set_cons_succ, List.getD_cons_succ, List.getD_cons_zero] at hK
              go_simp
              exact hK.out _ _ rfl (sepEmp hS) hst
            · refine all23 fun z0 z1 z2 z3 z4 z5 z6 z7 z8 z9 z10 z11 z12 z13 z14 z15 z16 z17 z18 z19 z20 z21 z22 W L hv hS hst a ha K hK => ?_
              simp only [dagPut, Act.put, List.setIfInBounds_toArray, List.set_cons_zero, List.set_cons_succ] at ha
              subst ha
              refine wpOp_plain rfl rfl ?_
              simp only [Act.put, List.setIfInBounds_toArray, List.set_cons_zero, List.set_cons_succ, List.getD_cons_succ, List.getD_cons_zero] at hK
              go_simp
              exact hK.out _ _ rfl (sepEmp hS) hst
            · refine all23 fun z0 z1 z2 z3 z4 z5 z6 z7 z8 z9 z10 z11 z12 z13 z14 z15 z16 z17 z18 z19 z20 z21 z22 W L hv hS hst a ha K hK => ?_
              obtain ⟨v4, _⟩ := hv
              obtain rfl : z4 = _ := v4
              have c0 := (show W.cell? ⟨bb, 2, none⟩ = some (i64 c2) from cell_of_blk (Sep.get (L := _) (hS)) 2)
              simp only [dagPut, Act.put, List.setIfInBounds_toArray, List.set_cons_zero, List.set_cons_succ] at ha
              subst ha
              refine wpOp_plain rfl rfl ?_
              simp only [Act.put, List.setIfInBounds_toArray, List.set_cons_zero, List.set_cons_succ, List.getD_cons_succ, List.getD_cons_zero] at hK
              go_simp
              exact hK.out _ _ rfl (sepEmp hS) hst
            · refine all23 fun z0 z1 z2 z3 z4 z5 z6 z7 z8 z9 z10 z11 z12 z13 z14 z15 z16 z17 z18 z19 z20 z21 z22 W L hv hS hst a ha K hK => ?_
              obtain ⟨v1, v3, v5, _⟩ := hv
              obtain rfl : z1 = _ := v1
              obtain rfl : z3 = _ := v3
              obtain rfl : z5 = _ := v5
              simp only [dagPut, Act.put, List.setIfInBounds_toArray, List.set_cons_zero, List.set_cons_succ] at ha
              subst ha
              refine wpOp_plain rfl rfl ?_
              simp only [Act.put, List.setIfInBounds_toArray, List.set_cons_zero, List.set_cons_succ, List.getD_cons_succ, List.getD_cons_zero] at hK
              go_simp
              refine (HCL.out.1 W).mono ?_
              rintro e w3 ⟨rfl, rfl⟩
              exact hK.out _ _ rfl (sepEmp hS) hst
            · refine all23 fun z0 z1 z2 z3 z4 z5 z6 z7 z8 z9 z10 z11 z12 z13 z14 z15 z16 z17 z18 z19 z20 z21 z22 W L hv hS hst a ha K hK => ?_
              simp only [dagPut, Act.put, List.setIfInBounds_toArray, List.set_cons_zero, List.set_cons_succ] at ha
              subst ha
              refine wpOp_plain rfl rfl ?_
              simp only [Act.put, List.setIfInBounds_toArray, List.set_cons_zero, List.set_cons_succ, List.getD_cons_succ, List.getD_cons_zero] at hK
              go_simp
              exact hK.out _ _ rfl (sepEmp hS) hst
            · refine all23 fun z0 z1 z2 z3 z4 z5 z6 z7 z8 z9 z10 z11 z12 z13 z14 z15 z16 z17 z18 z19 z20 z21 z22 W L hv hS hst a ha K hK => ?_
              obtain ⟨v7, _⟩ := hv
              obtain rfl : z7 = _ := v7
              have c0 := (show W.cell? ⟨bp, 0, none⟩ = some (i64 px) from cell_of_blk (Sep.get (L := _) (Sep.pick 1 hS)) 0)
              simp only [dagPut, Act.put, List.setIfInBounds_toArray, List.set_cons_zero, List.set_cons_succ] at ha
              subst ha
              refine wpOp_plain rfl rfl ?_
              simp only [Act.put, List.setIfInBounds_toArray, List.set_cons_zero, List.set_cons_succ, List.getD_cons_succ, List.getD_cons_zero] at hK
              go_simp
              exact hK.out _ _ rfl (sepEmp hS) hst
            · refine all23 fun z0 z1 z2 z3 z4 z5 z6 z7 z8 z9 z10 z11 z12 z13 z14 z15 z16 z17 z18 z19 z20 z21 z22 W L hv hS hst a ha K hK => ?_
              obtain ⟨v6, v8, _⟩ := hv
              obtain rfl : z6 = _ := v6
              obtain rfl : z8 = _ := v8
              simp only [dagPut, Act.put, List.setIfInBounds_toArray, List.set_cons_zero, List.set_cons_succ] at ha
              subst ha
              refine wpOp_plain rfl rfl ?_
              simp only [Act.put, List.setIfInBounds_toArray, List.set_cons_zero, List.set_cons_succ, List.getD_cons_succ, List.getD_cons_zero] at hK
              go_simp
              exact hK.out _ _ rfl (sepEmp hS) hst
            · refine all23 fun z0 z1 z2 z3 z4 z5 z6 z7 z8 z9 z10 z11 z12 z13 z14 z15 z16 z17 z18 z19 z20 z21 z22 W L hv hS hst a ha K hK => ?_
              obtain ⟨v9, _⟩ := hv
              obtain rfl : z9 = _ := v9
              simp only [dagPut, Act.put, List.setIfInBounds_toArray, List.set_cons_zero, List.set_cons_succ] at ha
              subst ha
              refine wpOp_plain rfl rfl ?_
              simp only [Act.put, List.setIfInBounds_toArray, List.set_cons_zero, List.set_cons_succ, List.getD_cons_succ, List.getD_cons_zero] at hK
              go_simp
              exact hK.out _ _ rfl (sepEmp hS) hst
            · refine all23 fun z0 z1 z2 z3 z4 z5 z6 z7 z8 z9 z10 z11 z12 z13 z14 z15 z16 z17 z18 z19 z20 z21 z22 W L hv hS hst a ha K hK => ?_
              obtain ⟨v10, _⟩ := hv
              obtain rfl : z10 = _ := v10
              simp only [dagPut, Act.put, List.setIfInBounds_toArray, List.set_cons_zero, List.set_cons_succ] at ha
              subst ha
              refine wpOp_on rfl rfl ?_
              simp only [Act.put, List.setIfInBounds_toArray, List.set_cons_zero, List.set_cons_succ, List.getD_cons_succ, List.getD_cons_zero] at hK
              go_simp
              exact hK.out _ _ rfl (sepEmp hS) hst
            · refine all23 fun z0 z1 z2 z3 z4 z5 z6 z7 z8 z9 z10 z11 z12 z13 z14 z15 z16 z17 z18 z19 z20 z21 z22 W L hv hS hst a ha K hK => ?_
              obtain ⟨v11, v10, _⟩ := hv
              obtain rfl : z11 = _ := v11
              obtain rfl : z10 = _ := v10
              have c0 := (show W.cell? ⟨bp, 1, none⟩ = some (i64 py) from cell_of_blk (Sep.get (L := _) (Sep.pick 1 hS)) 1)
              simp only [dagPut, Act.put, List.setIfInBounds_toArray, List.set_cons_zero, List.set_cons_succ] at ha
              subst ha
              refine wpOp_on rfl rfl ?_
              simp only [Act.put, List.setIfInBounds_toArray, List.set_cons_zero, List.set_cons_succ, List.getD_cons_succ, List.getD_cons_zero] at hK
              go_simp
              exact hK.out _ _ rfl (sepEmp hS) hst
            · refine all23 fun z0 z1 z2 z3 z4 z5 z6 z7 z8 z9 z10 z11 z12 z13 z14 z15 z16 z17 z18 z19 z20 z21 z22 W L hv hS hst a ha K hK => ?_
              obtain ⟨v10, _⟩ := hv
              obtain rfl : z10 = _ := v10
              simp only [dagPut, Act.put, List.setIfInBounds_toArray, List.set_cons_zero, List.set_cons_succ] at ha
              subst ha
              refine wpOp_on rfl rfl ?_
              simp only [Act.put, List.setIfInBounds_toArray, List.set_cons_zero, List.set_cons_succ, List.getD_cons_succ, List.getD_cons_zero] at hK
              go_simp
              exact hK.out _ _ rfl (sepEmp hS) hst
            · refine all23 fun z0 z1 z2 z3 z4 z5 z6 z7 z8 z9 z10 z11 z12 z13 z14 z15 z16 z17 z18 z19 z20 z21 z22 W L hv hS hst a ha K hK => ?_
              obtain ⟨v13, v10, _⟩ := hv
              obtain rfl : z13 = _ := v13
              obtain rfl : z10 = _ := v10
              have c0 := (show W.cell? ⟨bb, 1, none⟩ = some (i64 c1) from cell_of_blk (Sep.get (L := _) (hS)) 1)
              simp only [dagPut, Act.put, List.setIfInBounds_toArray, List.set_cons_zero, List.set_cons_succ] at ha
              subst ha
              refine wpOp_on rfl rfl ?_
              simp only [Act.put, List.setIfInBounds_toArray, List.set_cons_zero, List.set_cons_succ, List.getD_cons_succ, List.getD_cons_zero] at hK
              go_simp
              exact hK.out _ _ rfl (sepEmp hS) hst
            · refine all23 fun z0 z1 z2 z3 z4 z5 z6 z7 z8 z9 z10 z11 z12 z13 z14 z15 z16 z17 z18 z19 z20 z21 z22 W L hv hS hst a ha K hK => ?_
              obtain ⟨v10, _⟩ := hv
              obtain rfl : z10 = _ := v10
              simp only [dagPut, Act.put, List.setIfInBounds_toArray, List.set_cons_zero, List.set_cons_succ] at ha
              subst ha
              refine wpOp_on rfl rfl ?_
              simp only [Act.put, List.setIfInBounds_toArray, List.set_cons_zero, List.set_cons_succ, List.getD_cons_succ, List.getD_cons_zero] at hK
              go_simp
              exact hK.out _ _ rfl (sepEmp hS) hst
            · refine all23 fun z0 z1 z2 z3 z4 z5 z6 z7 z8 z9 z10 z11 z12 z13 z14 z15 z16 z17 z18 z19 z20 z21 z22 W L hv hS hst a ha K hK => ?_
              obtain ⟨v15, v10, _⟩ := hv
              obtain rfl : z15 = _ := v15
              obtain rfl : z10 = _ := v10
              have c0 := (show W.cell? ⟨bb, 3, none⟩ = some (i64 c3) from cell_of_blk (Sep.get (L := _) (hS)) 3)
              simp only [dagPut, Act.put, List.setIfInBounds_toArray, List.set_cons_zero, List.set_cons_succ] at ha
              subst ha
              refine wpOp_on rfl rfl ?_
              simp only [Act.put, List.setIfInBounds_toArray, List.set_cons_zero, List.set_cons_succ, List.getD_cons_succ, List.getD_cons_zero] at hK
              go_simp
              exact hK.out _ _ rfl (sepEmp hS) hst
            · refine all23 fun z0 z1 z2 z3 z4 z5 z6 z7 z8 z9 z10 z11 z12 z13 z14 z15 z16 z17 z18 z19 z20 z21 z22 W L hv hS hst a ha K hK => ?_
              obtain ⟨v12, v14, v16, v10, _⟩ := hv
              obtain rfl : z12 = _ := v12
              obtain rfl : z14 = _ := v14
              obtain rfl : z16 = _ := v16
              obtain rfl : z10 = _ := v10
              simp only [dagPut, Act.put, List.setIfInBounds_toArray, List.set_cons_zero, List.set_cons_succ] at ha
              subst ha
              refine wpOp_on rfl rfl ?_
              simp only [Act.put, List.setIfInBounds_toArray, List.set_cons_zero, List.set_cons_succ, List.getD_cons_succ, List.getD_cons_zero] at hK
              go_simp
              refine (HCL.out.2 W).mono ?_
              rintro e w3 ⟨rfl, rfl⟩
              exact hK.out _ _ rfl (sepEmp hS) hst
            · refine all23 fun z0 z1 z2 z3 z4 z5 z6 z7 z8 z9 z10 z11 z12 z13 z14 z15 z16 z17 z18 z19 z20 z21 z22 W L hv hS hst a ha K hK => ?_
              obtain ⟨v10, _⟩ := hv
              obtain rfl : z10 = _ := v10
              simp only [dagPut, Act.put, List.setIfInBounds_toArray, List.set_cons_zero, List.set_cons_succ] at ha
              subst ha
              refine wpOp_on rfl rfl ?_
              simp only [Act.put, List.setIfInBounds_toArray, List.set_cons_zero, List.set_cons_succ, List.getD_cons_succ, List.getD_cons_zero] at hK
              go_simp
              exact hK.out _ _ rfl (sepEmp hS) hst
            · refine all23 fun z0 z1 z2 z3 z4 z5 z6 z7 z8 z9 z10 z11 z12 z13 z14 z15 z16 z17 z18 z19 z20 z21 z22 W L hv hS hst a ha K hK => ?_
              obtain ⟨v18, v10, _⟩ := hv
              obtain rfl : z18 = _ := v18
              obtain rfl : z10 = _ := v10
              have c0 := (show W.cell? ⟨bp, 1, none⟩ = some (i64 py) from cell_of_blk (Sep.get (L := _) (Sep.pick 1 hS)) 1)
              simp only [dagPut, Act.put, List.setIfInBounds_toArray, List.set_cons_zero, List.set_cons_succ] at ha
              subst ha
              refine wpOp_on rfl rfl ?_
              simp only [Act.put, List.setIfInBounds_toArray, List.set_cons_zero, List.set_cons_succ, List.getD_cons_succ, List.getD_cons_zero] at hK
              go_simp
              exact hK.out _ _ rfl (sepEmp hS) hst
            · refine all23 fun z0 z1 z2 z3 z4 z5 z6 z7 z8 z9 z10 z11 z12 z13 z14 z15 z16 z17 z18 z19 z20 z21 z22 W L hv hS hst a ha K hK => ?_
              obtain ⟨v17, v19, v10, _⟩ := hv
              obtain rfl : z17 = _ := v17
              obtain rfl : z19 = _ := v19
              obtain rfl : z10 = _ := v10
              simp only [dagPut, Act.put, List.setIfInBounds_toArray, List.set_cons_zero, List.set_cons_succ] at ha
              subst ha
              refine wpOp_on rfl rfl ?_
              simp only [Act.put, List.setIfInBounds_toArray, List.set_cons_zero, List.set_cons_succ, List.getD_cons_succ, List.getD_cons_zero] at hK
              go_simp
              exact hK.out _ _ rfl (sepEmp hS) hst
            · refine all23 fun z0 z1 z2 z3 z4 z5 z6 z7 z8 z9 z10 z11 z12 z13 z14 z15 z16 z17 z18 z19 z20 z21 z22 W L hv hS hst a ha K hK => ?_
              obtain ⟨v10, v20, _⟩ := hv
              obtain rfl : z10 = _ := v10
              obtain rfl : z20 = _ := v20
              simp only [dagPut, Act.put, List.setIfInBounds_toArray, List.set_cons_zero, List.set_cons_succ] at ha
              subst ha
              refine wpOp_plain rfl rfl ?_
              simp only [Act.put, List.setIfInBounds_toArray, List.set_cons_zero, List.set_cons_succ, List.getD_cons_succ, List.getD_cons_zero] at hK
              go_simp
              exact hK.out _ _ rfl (sepEmp hS) hst
            · refine all23 fun z0 z1 z2 z3 z4 z5 z6 z7 z8 z9 z10 z11 z12 z13 z14 z15 z16 z17 z18 z19 z20 z21 z22 W L hv hS hst a ha K hK => ?_
              obtain ⟨v21, _⟩ := hv
              obtain rfl : z21 = _ := v21
              simp only [dagPut, Act.put, List.setIfInBounds_toArray, List.set_cons_zero, List.set_cons_succ] at ha
              subst ha
              refine wpOp_plain rfl rfl ?_
              simp only [Act.put, List.setIfInBounds_toArray, List.set_cons_zero, List.set_cons_succ, List.getD_cons_succ, List.getD_cons_zero] at hK
              go_simp
              exact hK.out _ _ rfl (sepEmp hS) hst
            · refine all23 fun z0 z1 z2 z3 z4 z5 z6 z7 z8 z9 z10 z11 z12 z13 z14 z15 z16 z17 z18 z19 z20 z21 z22 W hv hS hst a ha => ?_
              obtain ⟨⟨⟨⟨⟨⟨⟨⟨⟨⟨⟨⟨⟨⟨⟨⟨⟨⟨⟨⟨⟨⟨⟨_, v0⟩, v1⟩, v2⟩, v3⟩, v4⟩, v5⟩, v6⟩, v7⟩, v8⟩, v9⟩, v10⟩, v11⟩, v12⟩, v13⟩, v14⟩, v15⟩, v16⟩, v17⟩, v18⟩, v19⟩, v20⟩, v21⟩, v22⟩ := hv
              obtain rfl : z0 = _ := v0
              obtain rfl : z1 = _ := v1
              obtain rfl : z2 = _ := v2
              obtain rfl : z3 = _ := v3
              obtain rfl : z4 = _ := v4
              obtain rfl : z5 = _ := v5
              obtain rfl : z6 = _ := v6
              obtain rfl : z7 = _ := v7
              obtain rfl : z8 = _ := v8
              obtain rfl : z9 = _ := v9
              obtain rfl : z10 = _ := v10
              obtain rfl : z11 = _ := v11
              obtain rfl : z12 = _ := v12
              obtain rfl : z13 = _ := v13
              obtain rfl : z14 = _ := v14
              obtain rfl : z15 = _ := v15
              obtain rfl : z16 = _ := v16
              obtain rfl : z17 = _ := v17
              obtain rfl : z18 = _ := v18
              obtain rfl : z19 = _ := v19
              obtain rfl : z20 = _ := v20
              obtain rfl : z21 = _ := v21
              obtain rfl : z22 = _ := v22
              simp only [dagPut, Act.put, List.setIfInBounds_toArray, List.set_cons_zero, List.set_cons_succ] at ha; subst ha
              go_wp2_with fail
              go_meet
              exact ⟨by rw [HIN.out], hS, hst⟩
          · have hin : inB (c0, c1, c2, c3) px py = false := by cases hb : inB (c0, c1, c2, c3) px py with | false => rfl | true => (simp [inB] at hb; exact absurd (hiy.2 (by omega)) hY)
            have HIN := Lib.hid hin
            have gx1 : (cx == px) = true := by rw [beq_iff_eq]; exact hX
            have gy1 : (cy == py) = false := by rw [beq_eq_false_iff_ne]; exact hY
            have HXY := Lib.hid (And.intro hX (And.intro hY (And.intro hix hiy)))
            clear hin hX hY hix hiy
            refine wp_region_dag (w0 := w1) 23 [some 46, some 47, some 48, some 49, some 50, some 51, some 52, some 53, some 54, some 55, some 56, some 57, some 58, some 59, some 60, some 61, some 62, some 63, some 64, some 65, some 66, some 67, some 14] [.det [] (.pointer (some ⟨bp, 0, none⟩)), .det [0] (i64 px), .det [] (.pointer (some ⟨bb, 0, none⟩)), .det [2] (i64 c0), .det [] (.pointer (some ⟨bb, 2, none⟩)), .det [4] (i64 c2), .det [1, 3, 5] (i64 cx), .det [] (.pointer (some ⟨bp, 0, none⟩)), .det [7] (i64 px), .det [6, 8] (.bool true), .det [9] (.bool true), .det [10] (.pointer (some ⟨bp, 1, none⟩)), .det [11, 10] (i64 py), .det [10] (.pointer (some ⟨bb, 1, none⟩)), .det [13, 10] (i64 c1), .det [10] (.pointer (some ⟨bb, 3, none⟩)), .det [15, 10] (i64 c3), .det [12, 14, 16, 10] (i64 cy), .det [10] (.pointer (some ⟨bp, 1, none⟩)), .det [18, 10] (i64 py), .det [17, 19, 10] (.bool false), .det [10, 20] (.bool false), .det [21] (.bool false)] [pts bb (.cells #[i64 c0, i64 c1, i64 c2, i64 c3] 25), pts bp (.cells #[i64 px, i64 py] 29), pts bs (.cells #[i64 players, .slice ba bodies.length bc, i64 x0, i64 y0, i64 x1, i64 y1, .slice (some ⟨b, off, none⟩) rooms.length rc, .slice da doors.length dc, i64 fog, i64 gx, i64 gy, i64 push, i64 drag, i64 rest, i64 rounds, i64 fuel] 31), old w1] [] rfl (by kernel_rfl) (by kernel_rfl) (by kernel_rfl) (by kernel_rfl) (H7.out.1) (H7.out.2) ⟨⟨⟨⟨⟨⟨⟨⟨⟨⟨⟨⟨⟨⟨⟨⟨⟨⟨⟨⟨⟨⟨⟨trivial, ?_⟩, ?_⟩, ?_⟩, ?_⟩, ?_⟩, ?_⟩, ?_⟩, ?_⟩, ?_⟩, ?_⟩, ?_⟩, ?_⟩, ?_⟩, ?_⟩, ?_⟩, ?_⟩, ?_⟩, ?_⟩, ?_⟩, ?_⟩, ?_⟩, ?_⟩, ?_⟩ ?_
            · refine all23 fun z0 z1 z2 z3 z4 z5 z6 z7 z8 z9 z10 z11 z12 z13 z14 z15 z16 z17 z18 z19 z20 z21 z22 W L hv hS hst a ha K hK => ?_
              simp only [dagPut, Act.put, List.setIfInBounds_toArray, List.set_cons_zero, List.set_cons_succ] at ha
              subst ha
              refine wpOp_plain rfl rfl ?_
              simp only [Act.put, List.setIfInBounds_toArray, List.set_cons_zero, List.set_cons_succ, List.getD_cons_zero] at hK
              go_simp
              exact hK.out _ _ rfl (sepEmp hS) hst
            · refine all23 fun z0 z1 z2 z3 z4 z5 z6 z7 z8 z9 z10 z11 z12 z13 z14 z15 z16 z17 z18 z19 z20 z21 z22 W L hv hS hst a ha K hK => ?_
              obtain ⟨v0, _⟩ := hv
              obtain rfl : z0 = _ := v0
              have c0 := (show W.cell? ⟨bp, 0, none⟩ = some (i64 px) from cell_of_blk (Sep.get (L := _) (Sep.pick 1 hS)) 0)
              simp only [dagPut, Act.put, List.setIfInBounds_toArray, List.set_cons_zero, List.set_cons_succ] at ha
              subst ha
              refine wpOp_plain rfl rfl ?_
              simp only [Act.put, List.setIfInBounds_toArray, List.set_cons_zero, List.set_cons_succ, List.getD_cons_succ, List.getD_cons_zero] at hK
              go_simp
              exact hK.out _ _ rfl (sepEmp hS) hst
            · refine all23 fun z0 z1 z2 z3 z4 z5 z6 z7 z8 z9 z10 z11 z12 z13 z14 z15 z16 z17 z18 z19 z20 z21 z22 W L hv hS hst a ha K hK => ?_
              simp only [dagPut, Act.put, List.setIfInBounds_toArray, List.set_cons_zero, List.set_cons_succ] at ha
              subst ha
              refine wpOp_plain rfl rfl ?_
              simp only [Act.put, List.setIfInBounds_toArray, List.set_cons_zero, List.set_cons_succ, List.getD_cons_succ, List.getD_cons_zero] at hK
              go_simp
              exact hK.out _ _ rfl (sepEmp hS) hst
            · refine all23 fun z0 z1 z2 z3 z4 z5 z6 z7 z8 z9 z10 z11 z12 z13 z14 z15 z16 z17 z18 z19 z20 z21 z22 W L hv hS hst a ha K hK => ?_
              obtain ⟨v2, _⟩ := hv
              obtain rfl : z2 = _ := v2
              have c0 := (show W.cell? ⟨bb, 0, none⟩ = some (i64 c0) from cell_of_blk (Sep.get (L := _) (hS)) 0)
              simp only [dagPut, Act.put, List.setIfInBounds_toArray, List.set_cons_zero, List.set_cons_succ] at ha
              subst ha
              refine wpOp_plain rfl rfl ?_
              simp only [Act.put, List.setIfInBounds_toArray, List.set_cons_zero, List.set_cons_succ, List.getD_cons_succ, List.getD_cons_zero] at hK
              go_simp
              exact hK.out _ _ rfl (sepEmp hS) hst
            · refine all23 fun z0 z1 z2 z3 z4 z5 z6 z7 z8 z9 z10 z11 z12 z13 z14 z15 z16 z17 z18 z19 z20 z21 z22 W L hv hS hst a ha K hK => ?_
              simp only [dagPut, Act.put, List.setIfInBounds_toArray, List.set_cons_zero, List.set_cons_succ] at ha
              subst ha
              refine wpOp_plain rfl rfl ?_
              simp only [Act.put, List.setIfInBounds_toArray, List.set_cons_zero, List.set_cons_succ, List.getD_cons_succ, List.getD_cons_zero] at hK
              go_simp
              exact hK.out _ _ rfl (sepEmp hS) hst
            · refine all23 fun z0 z1 z2 z3 z4 z5 z6 z7 z8 z9 z10 z11 z12 z13 z14 z15 z16 z17 z18 z19 z20 z21 z22 W L hv hS hst a ha K hK => ?_
              obtain ⟨v4, _⟩ := hv
              obtain rfl : z4 = _ := v4
              have c0 := (show W.cell? ⟨bb, 2, none⟩ = some (i64 c2) from cell_of_blk (Sep.get (L := _) (hS)) 2)
              simp only [dagPut, Act.put, List.setIfInBounds_toArray, List.set_cons_zero, List.set_cons_succ] at ha
              subst ha
              refine wpOp_plain rfl rfl ?_
              simp only [Act.put, List.setIfInBounds_toArray, List.set_cons_zero, List.set_cons_succ, List.getD_cons_succ, List.getD_cons_zero] at hK
              go_simp
              exact hK.out _ _ rfl (sepEmp hS) hst
            · refine all23 fun z0 z1 z2 z3 z4 z5 z6 z7 z8 z9 z10 z11 z12 z13 z14 z15 z16 z17 z18 z19 z20 z21 z22 W L hv hS hst a ha K hK => ?_
              obtain ⟨v1, v3, v5, _⟩ := hv
              obtain rfl : z1 = _ := v1
              obtain rfl : z3 = _ := v3
              obtain rfl : z5 = _ := v5
              simp only [dagPut, Act.put, List.setIfInBounds_toArray, List.set_cons_zero, List.set_cons_succ] at ha
              subst ha
              refine wpOp_plain rfl rfl ?_
              simp only [Act.put, List.setIfInBounds_toArray, List.set_cons_zero, List.set_cons_succ, List.getD_cons_succ, List.getD_cons_zero] at hK
              go_simp
              refine (HCL.out.1 W).mono ?_
              rintro e w3 ⟨rfl, rfl⟩
              exact hK.out _ _ rfl (sepEmp hS) hst
            · refine all23 fun z0 z1 z2 z3 z4 z5 z6 z7 z8 z9 z10 z11 z12 z13 z14 z15 z16 z17 z18 z19 z20 z21 z22 W L hv hS hst a ha K hK => ?_
              simp only [dagPut, Act.put, List.setIfInBounds_toArray, List.set_cons_zero, List.set_cons_succ] at ha
              subst ha
              refine wpOp_plain rfl rfl ?_
              simp only [Act.put, List.setIfInBounds_toArray, List.set_cons_zero, List.set_cons_succ, List.getD_cons_succ, List.getD_cons_zero] at hK
              go_simp
              exact hK.out _ _ rfl (sepEmp hS) hst
            · refine all23 fun z0 z1 z2 z3 z4 z5 z6 z7 z8 z9 z10 z11 z12 z13 z14 z15 z16 z17 z18 z19 z20 z21 z22 W L hv hS hst a ha K hK => ?_
              obtain ⟨v7, _⟩ := hv
              obtain rfl : z7 = _ := v7
              have c0 := (show W.cell? ⟨bp, 0, none⟩ = some (i64 px) from cell_of_blk (Sep.get (L := _) (Sep.pick 1 hS)) 0)
              simp only [dagPut, Act.put, List.setIfInBounds_toArray, List.set_cons_zero, List.set_cons_succ] at ha
              subst ha
              refine wpOp_plain rfl rfl ?_
              simp only [Act.put, List.setIfInBounds_toArray, List.set_cons_zero, List.set_cons_succ, List.getD_cons_succ, List.getD_cons_zero] at hK
              go_simp
              exact hK.out _ _ rfl (sepEmp hS) hst
            · refine all23 fun z0 z1 z2 z3 z4 z5 z6 z7 z8 z9 z10 z11 z12 z13 z14 z15 z16 z17 z18 z19 z20 z21 z22 W L hv hS hst a ha K hK => ?_
              obtain ⟨v6, v8, _⟩ := hv
              obtain rfl : z6 = _ := v6
              obtain rfl : z8 = _ := v8
              simp only [dagPut, Act.put, List.setIfInBounds_toArray, List.set_cons_zero, List.set_cons_succ] at ha
              subst ha
              refine wpOp_plain rfl rfl ?_
              simp only [Act.put, List.setIfInBounds_toArray, List.set_cons_zero, List.set_cons_succ, List.getD_cons_succ, List.getD_cons_zero] at hK
              go_simp
              exact hK.out _ _ rfl (sepEmp hS) hst
            · refine all23 fun z0 z1 z2 z3 z4 z5 z6 z7 z8 z9 z10 z11 z12 z13 z14 z15 z16 z17 z18 z19 z20 z21 z22 W L hv hS hst a ha K hK => ?_
              obtain ⟨v9, _⟩ := hv
              obtain rfl : z9 = _ := v9
              simp only [dagPut, Act.put, List.setIfInBounds_toArray, List.set_cons_zero, List.set_cons_succ] at ha
              subst ha
              refine wpOp_plain rfl rfl ?_
              simp only [Act.put, List.setIfInBounds_toArray, List.set_cons_zero, List.set_cons_succ, List.getD_cons_succ, List.getD_cons_zero] at hK
              go_simp
              exact hK.out _ _ rfl (sepEmp hS) hst
            · refine all23 fun z0 z1 z2 z3 z4 z5 z6 z7 z8 z9 z10 z11 z12 z13 z14 z15 z16 z17 z18 z19 z20 z21 z22 W L hv hS hst a ha K hK => ?_
              obtain ⟨v10, _⟩ := hv
              obtain rfl : z10 = _ := v10
              simp only [dagPut, Act.put, List.setIfInBounds_toArray, List.set_cons_zero, List.set_cons_succ] at ha
              subst ha
              refine wpOp_on rfl rfl ?_
              simp only [Act.put, List.setIfInBounds_toArray, List.set_cons_zero, List.set_cons_succ, List.getD_cons_succ, List.getD_cons_zero] at hK
              go_simp
              exact hK.out _ _ rfl (sepEmp hS) hst
            · refine all23 fun z0 z1 z2 z3 z4 z5 z6 z7 z8 z9 z10 z11 z12 z13 z14 z15 z16 z17 z18 z19 z20 z21 z22 W L hv hS hst a ha K hK => ?_
              obtain ⟨v11, v10, _⟩ := hv
              obtain rfl : z11 = _ := v11
              obtain rfl : z10 = _ := v10
              have c0 := (show W.cell? ⟨bp, 1, none⟩ = some (i64 py) from cell_of_blk (Sep.get (L := _) (Sep.pick 1 hS)) 1)
              simp only [dagPut, Act.put, List.setIfInBounds_toArray, List.set_cons_zero, List.set_cons_succ] at ha
              subst ha
              refine wpOp_on rfl rfl ?_
              simp only [Act.put, List.setIfInBounds_toArray, List.set_cons_zero, List.set_cons_succ, List.getD_cons_succ, List.getD_cons_zero] at hK
              go_simp
              exact hK.out _ _ rfl (sepEmp hS) hst
            · refine all23 fun z0 z1 z2 z3 z4 z5 z6 z7 z8 z9 z10 z11 z12 z13 z14 z15 z16 z17 z18 z19 z20 z21 z22 W L hv hS hst a ha K hK => ?_
              obtain ⟨v10, _⟩ := hv
              obtain rfl : z10 = _ := v10
              simp only [dagPut, Act.put, List.setIfInBounds_toArray, List.set_cons_zero, List.set_cons_succ] at ha
              subst ha
              refine wpOp_on rfl rfl ?_
              simp only [Act.put, List.setIfInBounds_toArray, List.set_cons_zero, List.set_cons_succ, List.getD_cons_succ, List.getD_cons_zero] at hK
              go_simp
              exact hK.out _ _ rfl (sepEmp hS) hst
            · refine all23 fun z0 z1 z2 z3 z4 z5 z6 z7 z8 z9 z10 z11 z12 z13 z14 z15 z16 z17 z18 z19 z20 z21 z22 W L hv hS hst a ha K hK => ?_
              obtain ⟨v13, v10, _⟩ := hv
              obtain rfl : z13 = _ := v13
              obtain rfl : z10 = _ := v10
              have c0 := (show W.cell? ⟨bb, 1, none⟩ = some (i64 c1) from cell_of_blk (Sep.get (L := _) (hS)) 1)
              simp only [dagPut, Act.put, List.setIfInBounds_toArray, List.set_cons_zero, List.set_cons_succ] at ha
              subst ha
              refine wpOp_on rfl rfl ?_
              simp only [Act.put, List.setIfInBounds_toArray, List.set_cons_zero, List.set_cons_succ, List.getD_cons_succ, List.getD_cons_zero] at hK
              go_simp
              exact hK.out _ _ rfl (sepEmp hS) hst
            · refine all23 fun z0 z1 z2 z3 z4 z5 z6 z7 z8 z9 z10 z11 z12 z13 z14 z15 z16 z17 z18 z19 z20 z21 z22 W L hv hS hst a ha K hK => ?_
              obtain ⟨v10, _⟩ := hv
              obtain rfl : z10 = _ := v10
              simp only [dagPut, Act.put, List.setIfInBounds_toArray, List.set_cons_zero, List.set_cons_succ] at ha
              subst ha
              refine wpOp_on rfl rfl ?_
              simp only [Act.put, List.setIfInBounds_toArray, List.set_cons_zero, List.set_cons_succ, List.getD_cons_succ, List.getD_cons_zero] at hK
              go_simp
              exact hK.out _ _ rfl (sepEmp hS) hst
            · refine all23 fun z0 z1 z2 z3 z4 z5 z6 z7 z8 z9 z10 z11 z12 z13 z14 z15 z16 z17 z18 z19 z20 z21 z22 W L hv hS hst a ha K hK => ?_
              obtain ⟨v15, v10, _⟩ := hv
              obtain rfl : z15 = _ := v15
              obtain rfl : z10 = _ := v10
              have c0 := (show W.cell? ⟨bb, 3, none⟩ = some (i64 c3) from cell_of_blk (Sep.get (L := _) (hS)) 3)
              simp only [dagPut, Act.put, List.setIfInBounds_toArray, List.set_cons_zero, List.set_cons_succ] at ha
              subst ha
              refine wpOp_on rfl rfl ?_
              simp only [Act.put, List.setIfInBounds_toArray, List.set_cons_zero, List.set_cons_succ, List.getD_cons_succ, List.getD_cons_zero] at hK
              go_simp
              exact hK.out _ _ rfl (sepEmp hS) hst
            · refine all23 fun z0 z1 z2 z3 z4 z5 z6 z7 z8 z9 z10 z11 z12 z13 z14 z15 z16 z17 z18 z19 z20 z21 z22 W L hv hS hst a ha K hK => ?_
              obtain ⟨v12, v14, v16, v10, _⟩ := hv
              obtain rfl : z12 = _ := v12
              obtain rfl : z14 = _ := v14
              obtain rfl : z16 = _ := v16
              obtain rfl : z10 = _ := v10
              simp only [dagPut, Act.put, List.setIfInBounds_toArray, List.set_cons_zero, List.set_cons_succ] at ha
              subst ha
              refine wpOp_on rfl rfl ?_
              simp only [Act.put, List.setIfInBounds_toArray, List.set_cons_zero, List.set_cons_succ, List.getD_cons_succ, List.getD_cons_zero] at hK
              go_simp
              refine (HCL.out.2 W).mono ?_
              rintro e w3 ⟨rfl, rfl⟩
              exact hK.out _ _ rfl (sepEmp hS) hst
            · refine all23 fun z0 z1 z2 z3 z4 z5 z6 z7 z8 z9 z10 z11 z12 z13 z14 z15 z16 z17 z18 z19 z20 z21 z22 W L hv hS hst a ha K hK => ?_
              obtain ⟨v10, _⟩ := hv
              obtain rfl : z10 = _ := v10
              simp only [dagPut, Act.put, List.setIfInBounds_toArray, List.set_cons_zero, List.set_cons_succ] at ha
              subst ha
              refine wpOp_on rfl rfl ?_
              simp only [Act.put, List.setIfInBounds_toArray, List.set_cons_zero, List.set_cons_succ, List.getD_cons_succ, List.getD_cons_zero] at hK
              go_simp
              exact hK.out _ _ rfl (sepEmp hS) hst
            · refine all23 fun z0 z1 z2 z3 z4 z5 z6 z7 z8 z9 z10 z11 z12 z13 z14 z15 z16 z17 z18 z19 z20 z21 z22 W L hv hS hst a ha K hK => ?_
              obtain ⟨v18, v10, _⟩ := hv
              obtain rfl : z18 = _ := v18
              obtain rfl : z10 = _ := v10
              have c0 := (show W.cell? ⟨bp, 1, none⟩ = some (i64 py) from cell_of_blk (Sep.get (L := _) (Sep.pick 1 hS)) 1)
              simp only [dagPut, Act.put, List.setIfInBounds_toArray, List.set_cons_zero, List.set_cons_succ] at ha
              subst ha
              refine wpOp_on rfl rfl ?_
              simp only [Act.put, List.setIfInBounds_toArray, List.set_cons_zero, List.set_cons_succ, List.getD_cons_succ, List.getD_cons_zero] at hK
              go_simp
              exact hK.out _ _ rfl (sepEmp hS) hst
            · refine all23 fun z0 z1 z2 z3 z4 z5 z6 z7 z8 z9 z10 z11 z12 z13 z14 z15 z16 z17 z18 z19 z20 z21 z22 W L hv hS hst a ha K hK => ?_
              obtain ⟨v17, v19, v10, _⟩ := hv
              obtain rfl : z17 = _ := v17
              obtain rfl : z19 = _ := v19
              obtain rfl : z10 = _ := v10
              simp only [dagPut, Act.put, List.setIfInBounds_toArray, List.set_cons_zero, List.set_cons_succ] at ha
              subst ha
              refine wpOp_on rfl rfl ?_
              simp only [Act.put, List.setIfInBounds_toArray, List.set_cons_zero, List.set_cons_succ, List.getD_cons_succ, List.getD_cons_zero] at hK
              go_simp
              exact hK.out _ _ rfl (sepEmp hS) hst
            · refine all23 fun z0 z1 z2 z3 z4 z5 z6 z7 z8 z9 z10 z11 z12 z13 z14 z15 z16 z17 z18 z19 z20 z21 z22 W L hv hS hst a ha K hK => ?_
              obtain ⟨v10, v20, _⟩ := hv
              obtain rfl : z10 = _ := v10
              obtain rfl : z20 = _ := v20
              simp only [dagPut, Act.put, List.setIfInBounds_toArray, List.set_cons_zero, List.set_cons_succ] at ha
              subst ha
              refine wpOp_plain rfl rfl ?_
              simp only [Act.put, List.setIfInBounds_toArray, List.set_cons_zero, List.set_cons_succ, List.getD_cons_succ, List.getD_cons_zero] at hK
              go_simp
              exact hK.out _ _ rfl (sepEmp hS) hst
            · refine all23 fun z0 z1 z2 z3 z4 z5 z6 z7 z8 z9 z10 z11 z12 z13 z14 z15 z16 z17 z18 z19 z20 z21 z22 W L hv hS hst a ha K hK => ?_
              obtain ⟨v21, _⟩ := hv
              obtain rfl : z21 = _ := v21
              simp only [dagPut, Act.put, List.setIfInBounds_toArray, List.set_cons_zero, List.set_cons_succ] at ha
              subst ha
              refine wpOp_plain rfl rfl ?_
              simp only [Act.put, List.setIfInBounds_toArray, List.set_cons_zero, List.set_cons_succ, List.getD_cons_succ, List.getD_cons_zero] at hK
              go_simp
              exact hK.out _ _ rfl (sepEmp hS) hst
            · refine all23 fun z0 z1 z2 z3 z4 z5 z6 z7 z8 z9 z10 z11 z12 z13 z14 z15 z16 z17 z18 z19 z20 z21 z22 W hv hS hst a ha => ?_
              obtain ⟨⟨⟨⟨⟨⟨⟨⟨⟨⟨⟨⟨⟨⟨⟨⟨⟨⟨⟨⟨⟨⟨⟨_, v0⟩, v1⟩, v2⟩, v3⟩, v4⟩, v5⟩, v6⟩, v7⟩, v8⟩, v9⟩, v10⟩, v11⟩, v12⟩, v13⟩, v14⟩, v15⟩, v16⟩, v17⟩, v18⟩, v19⟩, v20⟩, v21⟩, v22⟩ := hv
              obtain rfl : z0 = _ := v0
              obtain rfl : z1 = _ := v1
              obtain rfl : z2 = _ := v2
              obtain rfl : z3 = _ := v3
              obtain rfl : z4 = _ := v4
              obtain rfl : z5 = _ := v5
              obtain rfl : z6 = _ := v6
              obtain rfl : z7 = _ := v7
              obtain rfl : z8 = _ := v8
              obtain rfl : z9 = _ := v9
              obtain rfl : z10 = _ := v10
              obtain rfl : z11 = _ := v11
              obtain rfl : z12 = _ := v12
              obtain rfl : z13 = _ := v13
              obtain rfl : z14 = _ := v14
              obtain rfl : z15 = _ := v15
              obtain rfl : z16 = _ := v16
              obtain rfl : z17 = _ := v17
              obtain rfl : z18 = _ := v18
              obtain rfl : z19 = _ := v19
              obtain rfl : z20 = _ := v20
              obtain rfl : z21 = _ := v21
              obtain rfl : z22 = _ := v22
              simp only [dagPut, Act.put, List.setIfInBounds_toArray, List.set_cons_zero, List.set_cons_succ] at ha; subst ha
              go_wp2_with fail
              go_meet
              exact ⟨by rw [HIN.out], hS, hst⟩
        · have hin : inB (c0, c1, c2, c3) px py = false := by cases hb : inB (c0, c1, c2, c3) px py with | false => rfl | true => (simp [inB] at hb; exact absurd (hix.2 (by omega)) hX)
          have HIN := Lib.hid hin
          have gx1 : (cx == px) = false := by rw [beq_eq_false_iff_ne]; exact hX
          have HXY := Lib.hid (And.intro hX (And.intro hix hiy))
          clear hin hX hix hiy
          refine wp_region_dag (w0 := w1) 23 [some 46, some 47, some 48, some 49, some 50, some 51, some 52, some 53, some 54, some 55, some 56, some 57, some 58, some 59, some 60, some 61, some 62, some 63, some 64, some 65, some 66, some 67, some 14] [.det [] (.pointer (some ⟨bp, 0, none⟩)), .det [0] (i64 px), .det [] (.pointer (some ⟨bb, 0, none⟩)), .det [2] (i64 c0), .det [] (.pointer (some ⟨bb, 2, none⟩)), .det [4] (i64 c2), .det [1, 3, 5] (i64 cx), .det [] (.pointer (some ⟨bp, 0, none⟩)), .det [7] (i64 px), .det [6, 8] (.bool false), .det [9] (.bool false), .any [10], .any [10], .any [10], .any [10], .any [10], .any [10], .any [10], .any [10], .any [10], .any [10], .det [10] (.bool false), .det [21] (.bool false)] [pts bb (.cells #[i64 c0, i64 c1, i64 c2, i64 c3] 25), pts bp (.cells #[i64 px, i64 py] 29), pts bs (.cells #[i64 players, .slice ba bodies.length bc, i64 x0, i64 y0, i64 x1, i64 y1, .slice (some ⟨b, off, none⟩) rooms.length rc, .slice da doors.length dc, i64 fog, i64 gx, i64 gy, i64 push, i64 drag, i64 rest, i64 rounds, i64 fuel] 31), old w1] [] rfl (by kernel_rfl) (by kernel_rfl) (by kernel_rfl) (by kernel_rfl) (H7.out.1) (H7.out.2) ⟨⟨⟨⟨⟨⟨⟨⟨⟨⟨⟨⟨⟨⟨⟨⟨⟨⟨⟨⟨⟨⟨⟨trivial, ?_⟩, ?_⟩, ?_⟩, ?_⟩, ?_⟩, ?_⟩, ?_⟩, ?_⟩, ?_⟩, ?_⟩, ?_⟩, ?_⟩, ?_⟩, ?_⟩, ?_⟩, ?_⟩, ?_⟩, ?_⟩, ?_⟩, ?_⟩, ?_⟩, ?_⟩, ?_⟩ ?_
          · refine all23 fun z0 z1 z2 z3 z4 z5 z6 z7 z8 z9 z10 z11 z12 z13 z14 z15 z16 z17 z18 z19 z20 z21 z22 W L hv hS hst a ha K hK => ?_
            simp only [dagPut, Act.put, List.setIfInBounds_toArray, List.set_cons_zero, List.set_cons_succ] at ha
            subst ha
            refine wpOp_plain rfl rfl ?_
            simp only [Act.put, List.setIfInBounds_toArray, List.set_cons_zero, List.set_cons_succ, List.getD_cons_zero] at hK
            go_simp
            exact hK.out _ _ rfl (sepEmp hS) hst
          · refine all23 fun z0 z1 z2 z3 z4 z5 z6 z7 z8 z9 z10 z11 z12 z13 z14 z15 z16 z17 z18 z19 z20 z21 z22 W L hv hS hst a ha K hK => ?_
            obtain ⟨v0, _⟩ := hv
            obtain rfl : z0 = _ := v0
            have c0 := (show W.cell? ⟨bp, 0, none⟩ = some (i64 px) from cell_of_blk (Sep.get (L := _) (Sep.pick 1 hS)) 0)
            simp only [dagPut, Act.put, List.setIfInBounds_toArray, List.set_cons_zero, List.set_cons_succ] at ha
            subst ha
            refine wpOp_plain rfl rfl ?_
            simp only [Act.put, List.setIfInBounds_toArray, List.set_cons_zero, List.set_cons_succ, List.getD_cons_succ, List.getD_cons_zero] at hK
            go_simp
            exact hK.out _ _ rfl (sepEmp hS) hst
          · refine all23 fun z0 z1 z2 z3 z4 z5 z6 z7 z8 z9 z10 z11 z12 z13 z14 z15 z16 z17 z18 z19 z20 z21 z22 W L hv hS hst a ha K hK => ?_
            simp only [dagPut, Act.put, List.setIfInBounds_toArray, List.set_cons_zero, List.set_cons_succ] at ha
            subst ha
            refine wpOp_plain rfl rfl ?_
            simp only [Act.put, List.setIfInBounds_toArray, List.set_cons_zero, List.set_cons_succ, List.getD_cons_succ, List.getD_cons_zero] at hK
            go_simp
            exact hK.out _ _ rfl (sepEmp hS) hst
          · refine all23 fun z0 z1 z2 z3 z4 z5 z6 z7 z8 z9 z10 z11 z12 z13 z14 z15 z16 z17 z18 z19 z20 z21 z22 W L hv hS hst a ha K hK => ?_
            obtain ⟨v2, _⟩ := hv
            obtain rfl : z2 = _ := v2
            have c0 := (show W.cell? ⟨bb, 0, none⟩ = some (i64 c0) from cell_of_blk (Sep.get (L := _) (hS)) 0)
            simp only [dagPut, Act.put, List.setIfInBounds_toArray, List.set_cons_zero, List.set_cons_succ] at ha
            subst ha
            refine wpOp_plain rfl rfl ?_
            simp only [Act.put, List.setIfInBounds_toArray, List.set_cons_zero, List.set_cons_succ, List.getD_cons_succ, List.getD_cons_zero] at hK
            go_simp
            exact hK.out _ _ rfl (sepEmp hS) hst
          · refine all23 fun z0 z1 z2 z3 z4 z5 z6 z7 z8 z9 z10 z11 z12 z13 z14 z15 z16 z17 z18 z19 z20 z21 z22 W L hv hS hst a ha K hK => ?_
            simp only [dagPut, Act.put, List.setIfInBounds_toArray, List.set_cons_zero, List.set_cons_succ] at ha
            subst ha
            refine wpOp_plain rfl rfl ?_
            simp only [Act.put, List.setIfInBounds_toArray, List.set_cons_zero, List.set_cons_succ, List.getD_cons_succ, List.getD_cons_zero] at hK
            go_simp
            exact hK.out _ _ rfl (sepEmp hS) hst
          · refine all23 fun z0 z1 z2 z3 z4 z5 z6 z7 z8 z9 z10 z11 z12 z13 z14 z15 z16 z17 z18 z19 z20 z21 z22 W L hv hS hst a ha K hK => ?_
            obtain ⟨v4, _⟩ := hv
            obtain rfl : z4 = _ := v4
            have c0 := (show W.cell? ⟨bb, 2, none⟩ = some (i64 c2) from cell_of_blk (Sep.get (L := _) (hS)) 2)
            simp only [dagPut, Act.put, List.setIfInBounds_toArray, List.set_cons_zero, List.set_cons_succ] at ha
            subst ha
            refine wpOp_plain rfl rfl ?_
            simp only [Act.put, List.setIfInBounds_toArray, List.set_cons_zero, List.set_cons_succ, List.getD_cons_succ, List.getD_cons_zero] at hK
            go_simp
            exact hK.out _ _ rfl (sepEmp hS) hst
          · refine all23 fun z0 z1 z2 z3 z4 z5 z6 z7 z8 z9 z10 z11 z12 z13 z14 z15 z16 z17 z18 z19 z20 z21 z22 W L hv hS hst a ha K hK => ?_
            obtain ⟨v1, v3, v5, _⟩ := hv
            obtain rfl : z1 = _ := v1
            obtain rfl : z3 = _ := v3
            obtain rfl : z5 = _ := v5
            simp only [dagPut, Act.put, List.setIfInBounds_toArray, List.set_cons_zero, List.set_cons_succ] at ha
            subst ha
            refine wpOp_plain rfl rfl ?_
            simp only [Act.put, List.setIfInBounds_toArray, List.set_cons_zero, List.set_cons_succ, List.getD_cons_succ, List.getD_cons_zero] at hK
            go_simp
            refine (HCL.out.1 W).mono ?_
            rintro e w3 ⟨rfl, rfl⟩
            exact hK.out _ _ rfl (sepEmp hS) hst
          · refine all23 fun z0 z1 z2 z3 z4 z5 z6 z7 z8 z9 z10 z11 z12 z13 z14 z15 z16 z17 z18 z19 z20 z21 z22 W L hv hS hst a ha K hK => ?_
            simp only [dagPut, Act.put, List.setIfInBounds_toArray, List.set_cons_zero, List.set_cons_succ] at ha
            subst ha
            refine wpOp_plain rfl rfl ?_
            simp only [Act.put, List.setIfInBounds_toArray, List.set_cons_zero, List.set_cons_succ, List.getD_cons_succ, List.getD_cons_zero] at hK
            go_simp
            exact hK.out _ _ rfl (sepEmp hS) hst
          · refine all23 fun z0 z1 z2 z3 z4 z5 z6 z7 z8 z9 z10 z11 z12 z13 z14 z15 z16 z17 z18 z19 z20 z21 z22 W L hv hS hst a ha K hK => ?_
            obtain ⟨v7, _⟩ := hv
            obtain rfl : z7 = _ := v7
            have c0 := (show W.cell? ⟨bp, 0, none⟩ = some (i64 px) from cell_of_blk (Sep.get (L := _) (Sep.pick 1 hS)) 0)
            simp only [dagPut, Act.put, List.setIfInBounds_toArray, List.set_cons_zero, List.set_cons_succ] at ha
            subst ha
            refine wpOp_plain rfl rfl ?_
            simp only [Act.put, List.setIfInBounds_toArray, List.set_cons_zero, List.set_cons_succ, List.getD_cons_succ, List.getD_cons_zero] at hK
            go_simp
            exact hK.out _ _ rfl (sepEmp hS) hst
          · refine all23 fun z0 z1 z2 z3 z4 z5 z6 z7 z8 z9 z10 z11 z12 z13 z14 z15 z16 z17 z18 z19 z20 z21 z22 W L hv hS hst a ha K hK => ?_
            obtain ⟨v6, v8, _⟩ := hv
            obtain rfl : z6 = _ := v6
            obtain rfl : z8 = _ := v8
            simp only [dagPut, Act.put, List.setIfInBounds_toArray, List.set_cons_zero, List.set_cons_succ] at ha
            subst ha
            refine wpOp_plain rfl rfl ?_
            simp only [Act.put, List.setIfInBounds_toArray, List.set_cons_zero, List.set_cons_succ, List.getD_cons_succ, List.getD_cons_zero] at hK
            go_simp
            exact hK.out _ _ rfl (sepEmp hS) hst
          · refine all23 fun z0 z1 z2 z3 z4 z5 z6 z7 z8 z9 z10 z11 z12 z13 z14 z15 z16 z17 z18 z19 z20 z21 z22 W L hv hS hst a ha K hK => ?_
            obtain ⟨v9, _⟩ := hv
            obtain rfl : z9 = _ := v9
            simp only [dagPut, Act.put, List.setIfInBounds_toArray, List.set_cons_zero, List.set_cons_succ] at ha
            subst ha
            refine wpOp_plain rfl rfl ?_
            simp only [Act.put, List.setIfInBounds_toArray, List.set_cons_zero, List.set_cons_succ, List.getD_cons_succ, List.getD_cons_zero] at hK
            go_simp
            exact hK.out _ _ rfl (sepEmp hS) hst
          · refine all23 fun z0 z1 z2 z3 z4 z5 z6 z7 z8 z9 z10 z11 z12 z13 z14 z15 z16 z17 z18 z19 z20 z21 z22 W L hv hS hst a ha K hK => ?_
            obtain ⟨v10, _⟩ := hv
            obtain rfl : z10 = _ := v10
            simp only [dagPut, Act.put, List.setIfInBounds_toArray, List.set_cons_zero, List.set_cons_succ] at ha
            subst ha
            refine wpOp_off rfl rfl ?_
            simp only [Act.put, List.setIfInBounds_toArray, List.set_cons_zero, List.set_cons_succ, List.getD_cons_succ, List.getD_cons_zero] at hK
            exact hK.out undef _ trivial (sepEmp hS) hst
          · refine all23 fun z0 z1 z2 z3 z4 z5 z6 z7 z8 z9 z10 z11 z12 z13 z14 z15 z16 z17 z18 z19 z20 z21 z22 W L hv hS hst a ha K hK => ?_
            obtain ⟨v10, _⟩ := hv
            obtain rfl : z10 = _ := v10
            simp only [dagPut, Act.put, List.setIfInBounds_toArray, List.set_cons_zero, List.set_cons_succ] at ha
            subst ha
            refine wpOp_off rfl rfl ?_
            simp only [Act.put, List.setIfInBounds_toArray, List.set_cons_zero, List.set_cons_succ, List.getD_cons_succ, List.getD_cons_zero] at hK
            exact hK.out undef _ trivial (sepEmp hS) hst
          · refine all23 fun z0 z1 z2 z3 z4 z5 z6 z7 z8 z9 z10 z11 z12 z13 z14 z15 z16 z17 z18 z19 z20 z21 z22 W L hv hS hst a ha K hK => ?_
            obtain ⟨v10, _⟩ := hv
            obtain rfl : z10 = _ := v10
            simp only [dagPut, Act.put, List.setIfInBounds_toArray, List.set_cons_zero, List.set_cons_succ] at ha
            subst ha
            refine wpOp_off rfl rfl ?_
            simp only [Act.put, List.setIfInBounds_toArray, List.set_cons_zero, List.set_cons_succ, List.getD_cons_succ, List.getD_cons_zero] at hK
            exact hK.out undef _ trivial (sepEmp hS) hst
          · refine all23 fun z0 z1 z2 z3 z4 z5 z6 z7 z8 z9 z10 z11 z12 z13 z14 z15 z16 z17 z18 z19 z20 z21 z22 W L hv hS hst a ha K hK => ?_
            obtain ⟨v10, _⟩ := hv
            obtain rfl : z10 = _ := v10
            simp only [dagPut, Act.put, List.setIfInBounds_toArray, List.set_cons_zero, List.set_cons_succ] at ha
            subst ha
            refine wpOp_off rfl rfl ?_
            simp only [Act.put, List.setIfInBounds_toArray, List.set_cons_zero, List.set_cons_succ, List.getD_cons_succ, List.getD_cons_zero] at hK
            exact hK.out undef _ trivial (sepEmp hS) hst
          · refine all23 fun z0 z1 z2 z3 z4 z5 z6 z7 z8 z9 z10 z11 z12 z13 z14 z15 z16 z17 z18 z19 z20 z21 z22 W L hv hS hst a ha K hK => ?_
            obtain ⟨v10, _⟩ := hv
            obtain rfl : z10 = _ := v10
            simp only [dagPut, Act.put, List.setIfInBounds_toArray, List.set_cons_zero, List.set_cons_succ] at ha
            subst ha
            refine wpOp_off rfl rfl ?_
            simp only [Act.put, List.setIfInBounds_toArray, List.set_cons_zero, List.set_cons_succ, List.getD_cons_succ, List.getD_cons_zero] at hK
            exact hK.out undef _ trivial (sepEmp hS) hst
          · refine all23 fun z0 z1 z2 z3 z4 z5 z6 z7 z8 z9 z10 z11 z12 z13 z14 z15 z16 z17 z18 z19 z20 z21 z22 W L hv hS hst a ha K hK => ?_
            obtain ⟨v10, _⟩ := hv
            obtain rfl : z10 = _ := v10
            simp only [dagPut, Act.put, List.setIfInBounds_toArray, List.set_cons_zero, List.set_cons_succ] at ha
            subst ha
            refine wpOp_off rfl rfl ?_
            simp only [Act.put, List.setIfInBounds_toArray, List.set_cons_zero, List.set_cons_succ, List.getD_cons_succ, List.getD_cons_zero] at hK
            exact hK.out undef _ trivial (sepEmp hS) hst
          · refine all23 fun z0 z1 z2 z3 z4 z5 z6 z7 z8 z9 z10 z11 z12 z13 z14 z15 z16 z17 z18 z19 z20 z21 z22 W L hv hS hst a ha K hK => ?_
            obtain ⟨v10, _⟩ := hv
            obtain rfl : z10 = _ := v10
            simp only [dagPut, Act.put, List.setIfInBounds_toArray, List.set_cons_zero, List.set_cons_succ] at ha
            subst ha
            refine wpOp_off rfl rfl ?_
            simp only [Act.put, List.setIfInBounds_toArray, List.set_cons_zero, List.set_cons_succ, List.getD_cons_succ, List.getD_cons_zero] at hK
            exact hK.out undef _ trivial (sepEmp hS) hst
          · refine all23 fun z0 z1 z2 z3 z4 z5 z6 z7 z8 z9 z10 z11 z12 z13 z14 z15 z16 z17 z18 z19 z20 z21 z22 W L hv hS hst a ha K hK => ?_
            obtain ⟨v10, _⟩ := hv
            obtain rfl : z10 = _ := v10
            simp only [dagPut, Act.put, List.setIfInBounds_toArray, List.set_cons_zero, List.set_cons_succ] at ha
            subst ha
            refine wpOp_off rfl rfl ?_
            simp only [Act.put, List.setIfInBounds_toArray, List.set_cons_zero, List.set_cons_succ, List.getD_cons_succ, List.getD_cons_zero] at hK
            exact hK.out undef _ trivial (sepEmp hS) hst
          · refine all23 fun z0 z1 z2 z3 z4 z5 z6 z7 z8 z9 z10 z11 z12 z13 z14 z15 z16 z17 z18 z19 z20 z21 z22 W L hv hS hst a ha K hK => ?_
            obtain ⟨v10, _⟩ := hv
            obtain rfl : z10 = _ := v10
            simp only [dagPut, Act.put, List.setIfInBounds_toArray, List.set_cons_zero, List.set_cons_succ] at ha
            subst ha
            refine wpOp_off rfl rfl ?_
            simp only [Act.put, List.setIfInBounds_toArray, List.set_cons_zero, List.set_cons_succ, List.getD_cons_succ, List.getD_cons_zero] at hK
            exact hK.out undef _ trivial (sepEmp hS) hst
          · refine all23 fun z0 z1 z2 z3 z4 z5 z6 z7 z8 z9 z10 z11 z12 z13 z14 z15 z16 z17 z18 z19 z20 z21 z22 W L hv hS hst a ha K hK => ?_
            obtain ⟨v10, _⟩ := hv
            obtain rfl : z10 = _ := v10
            simp only [dagPut, Act.put, List.setIfInBounds_toArray, List.set_cons_zero, List.set_cons_succ] at ha
            subst ha
            refine wpOp_off rfl rfl ?_
            simp only [Act.put, List.setIfInBounds_toArray, List.set_cons_zero, List.set_cons_succ, List.getD_cons_succ, List.getD_cons_zero] at hK
            exact hK.out undef _ trivial (sepEmp hS) hst
          · refine all23 fun z0 z1 z2 z3 z4 z5 z6 z7 z8 z9 z10 z11 z12 z13 z14 z15 z16 z17 z18 z19 z20 z21 z22 W L hv hS hst a ha K hK => ?_
            obtain ⟨v10, _⟩ := hv
            obtain rfl : z10 = _ := v10
            simp only [dagPut, Act.put, List.setIfInBounds_toArray, List.set_cons_zero, List.set_cons_succ] at ha
            subst ha
            refine wpOp_plain rfl rfl ?_
            simp only [Act.put, List.setIfInBounds_toArray, List.set_cons_zero, List.set_cons_succ, List.getD_cons_succ, List.getD_cons_zero] at hK
            go_simp
            exact hK.out _ _ rfl (sepEmp hS) hst
          · refine all23 fun z0 z1 z2 z3 z4 z5 z6 z7 z8 z9 z10 z11 z12 z13 z14 z15 z16 z17 z18 z19 z20 z21 z22 W L hv hS hst a ha K hK => ?_
            obtain ⟨v21, _⟩ := hv
            obtain rfl : z21 = _ := v21
            simp only [dagPut, Act.put, List.setIfInBounds_toArray, List.set_cons_zero, List.set_cons_succ] at ha
            subst ha
            refine wpOp_plain rfl rfl ?_
            simp only [Act.put, List.setIfInBounds_toArray, List.set_cons_zero, List.set_cons_succ, List.getD_cons_succ, List.getD_cons_zero] at hK
            go_simp
            exact hK.out _ _ rfl (sepEmp hS) hst
          · refine all23 fun z0 z1 z2 z3 z4 z5 z6 z7 z8 z9 z10 z11 z12 z13 z14 z15 z16 z17 z18 z19 z20 z21 z22 W hv hS hst a ha => ?_
            obtain ⟨⟨⟨⟨⟨⟨⟨⟨⟨⟨⟨⟨⟨⟨⟨⟨⟨⟨⟨⟨⟨⟨⟨_, v0⟩, v1⟩, v2⟩, v3⟩, v4⟩, v5⟩, v6⟩, v7⟩, v8⟩, v9⟩, v10⟩, v11⟩, v12⟩, v13⟩, v14⟩, v15⟩, v16⟩, v17⟩, v18⟩, v19⟩, v20⟩, v21⟩, v22⟩ := hv
            obtain rfl : z0 = _ := v0
            obtain rfl : z1 = _ := v1
            obtain rfl : z2 = _ := v2
            obtain rfl : z3 = _ := v3
            obtain rfl : z4 = _ := v4
            obtain rfl : z5 = _ := v5
            obtain rfl : z6 = _ := v6
            obtain rfl : z7 = _ := v7
            obtain rfl : z8 = _ := v8
            obtain rfl : z9 = _ := v9
            obtain rfl : z10 = _ := v10
            obtain rfl : z21 = _ := v21
            obtain rfl : z22 = _ := v22
            simp only [dagPut, Act.put, List.setIfInBounds_toArray, List.set_cons_zero, List.set_cons_succ] at ha; subst ha
            go_wp2_with fail
            go_meet
            exact ⟨by rw [HIN.out], hS, hst⟩
      case rest =>
        obtain ⟨rfl, hS, hst⟩ := hcut
        have H8 := Lib.hid (And.intro hS.drop hst)
        clear hS hst hix hiy H7
        cases hin : inB (c0, c1, c2, c3) px py with
        | false =>
          have hne : ¬ ((i : Int) = r) := fun e => by have := HBX.out.1 e.symm; rw [hin] at this; cases this
          have g1 : ((i : Int) == r) = false := by rw [beq_eq_false_iff_ne]; exact hne
          have HNE := Lib.hid hne
          clear hne hin
          go_wp2_with fail
          go_roundw
          case rel => exact ⟨i + 1, by omega, by go_num, H8.out.1, H8.out.2⟩
          case measure => simp [intOf]; omega
        | true =>
          have hb := HBX.out.2 hin
          obtain ⟨hb1, hb2⟩ := hb
          clear hin
          have g0 : decide (r < 0) = false := by rw [decide_eq_false_iff_not]; omega
          have g1 : decide ((i : Int) < r) = false := by rw [decide_eq_false_iff_not]; omega
          go_wp2_with fail
          all_goals
            go_roundw
            case rel => exact ⟨i + 1, by omega, by go_num, H8.out.1, H8.out.2⟩
            case measure => simp [intOf]; omega
    · obtain rfl : i = rooms.length := by omega
      clear hlt
      have H8 := Lib.hid (And.intro (HR.out.1.alloc (.cells #[i64 0, .slice none 0 0, i64 0, i64 0, i64 0, i64 0, .slice none 0 0, .slice none 0 0, i64 0, i64 0, i64 0, i64 0, i64 0, i64 0, i64 0, i64 0] 31)) (HR.out.2.alloc (.cells #[i64 0, .slice none 0 0, i64 0, i64 0, i64 0, i64 0, .slice none 0 0, .slice none 0 0, i64 0, i64 0, i64 0, i64 0, i64 0, i64 0, i64 0, i64 0] 31)))
      go_upto_region 14 with (first | (refine wpList_load_g 31 _ rfl _ rfl _ _ _ _ (Sep.get (HR.out.1.pick 1)) Try.underlying31 rfl (by kernel_rfl) (by first | rfl | (go_simp; done) | (go_simp; omega)) ?_) | (refine wpList_store_sep rfl 31 _ _ rfl wr.heap.size #[i64 players, .slice ba bodies.length bc, i64 x0, i64 y0, i64 x1, i64 y1, .slice ra rooms.length rc, .slice da doors.length dc, i64 fog, i64 gx, i64 gy, i64 push, i64 drag, i64 rest, i64 rounds, i64 fuel] rfl rfl H8.out.1 (by kernel_rfl) rfl (by kernel_rfl) ?_; intro w8 hS8 hst8))
      generalize wr.heap.size = bf at *
      have H9 := Lib.hid (And.intro hS8 (H8.out.2.trans hst8))
      clear hS8 hst8 H8 s6
      go_upto_region 15 with (refine wpList_store_cell rfl _ _ _ rfl H9.out.1 7 (.slice none 0 0) rfl rfl rfl (by simp) (by kernel_rfl) ?_; intro w9 hS9 hst9)
      simp only [List.setIfInBounds_toArray, List.set_cons_succ, List.set_cons_zero] at hS9
      obtain ⟨ra', rc', hv, hrc1, hrc2, _⟩ := HC.out.1.rooms.shape
      obtain ⟨rfl, rfl⟩ : ra = ra' ∧ rc = rc' := by simpa using hv
      obtain ⟨K, hK⟩ : ∃ K : Nat, (K : Int) = r + 1 := ⟨(r + 1).toNat, by omega⟩
      have s6 : w9.cell? ⟨bs, 6, none⟩ = some (.slice ra rooms.length rc) := cell_of_blk (hS9.pick 2).get 6
      have H10 := Lib.hid (And.intro hS9 (H9.out.2.trans hst9))
      have q1 : IntKind.i64.wrap (r + 1) = r + 1 := wr_in (by omega)
      have q2 : (0 : Int) ≤ r + 1 := by omega
      have q3 : r + 1 ≤ (rc : Int) := by dsimp only at hrc1; omega
      have q4 : (r + 1).toNat = K := by omega
      have HK := Lib.hid hK
      clear hv hS9 hst9 hK
      have hrd : readsB w1 (.slice ra (rooms.take K).length rc) (rooms.take K) := readsB_take HC.out.1.rooms (by omega)
      have hRT := HR0.out.2.2.2 K HK.out
      have hKl : (rooms.take K).length = K := by rw [List.length_take]; omega
      have hf2 : St.Fine ⟨players, bodies.length, ba, bc, x0, y0, x1, y1, rooms.take K, ra, rc, [], none, 0, fog, gx, gy, push, drag, rest, rounds, fuel⟩ := ⟨by dsimp only; omega, by simp, by simp⟩
      have hRm2 := fun (W : World) (M : List Asn) (hW : Sep W (old w1 :: M)) => Room_spec (w := W) (s := ⟨players, bodies.length, ba, bc, x0, y0, x1, y1, rooms.take K, ra, rc, [], none, 0, fog, gx, gy, push, drag, rest, rounds, fuel⟩) ⟨hrd.of_heap hW.oldGet, readsD_nil W⟩ hf2 px py
      dsimp only [St.val] at hRm2
      rw [hRT, hKl, List.length_nil] at hRm2
      have HRM2 := Lib.hid hRm2
      clear hrd hRT hKl hf2 hRm2
      have hz : ra = none → rc = 0 := fun e => by have := HC.out.1.rooms.shape; obtain ⟨a', c', hv, _, _, h0⟩ := this; simp at hv; rw [hv.2]; exact (h0 (by rw [← hv.1]; exact e)).2
      have HZ := Lib.hid hz
      clear hz
      have H10b := H10
      clear H10
      rcases HRA.out with rfl | ⟨g0, rfl⟩
      · obtain rfl : rc = 0 := HZ.out rfl
        go_upto_region 16 with (refine wpList_store_cell rfl _ _ _ rfl H10b.out.1 6 (.slice none K 0) rfl rfl rfl (by simp) (by kernel_rfl) ?_; intro w10 hS10 hst10)
        simp only [List.setIfInBounds_toArray, List.set_cons_succ, List.set_cons_zero] at hS10
        have H11 := Lib.hid (And.intro hS10 (H10b.out.2.trans hst10))
        clear hS10 hst10 s6 q1 q2 q3 q4
        go_wp2_with (first | (refine wpList_load_g 31 _ rfl _ rfl _ _ _ _ (Sep.get H11.out.1) Try.underlying31 rfl (by kernel_rfl) (by first | rfl | (go_simp; done) | (go_simp; omega)) ?_) | (refine wpList_load_g 29 _ rfl _ rfl _ _ _ _ (Sep.get (H11.out.1.pick 1)) Try.underlying29 rfl (by kernel_rfl) (by first | rfl | (go_simp; done) | (go_simp; omega)) ?_))
        refine (HRM2.out _ _ (H11.out.1.pick 3)).mono ?_
        rintro e w11 ⟨rfl, hS12, hst12⟩
        have H12 := Lib.hid (And.intro (H11.out.1.mount hS12) (H11.out.2.trans hst12))
        clear hS12 hst12 H11
        go_wp2_with fail
        refine (lives_spec _).mono ?_
        rintro e w12 ⟨rfl, hS13, hst13⟩
        have H13 := Lib.hid (And.intro (H12.out.1.mount hS13) (H12.out.2.trans hst13))
        clear hS13 hst13 H12
        go_wp2_with fail
        go_ret
        exact ⟨rfl, rebase HB.out (Sep.below (H13.out.1.pick 3).one' H13.out.2)⟩
      · skip
        go_upto_region 16 with (refine wpList_store_cell rfl _ _ _ rfl H10b.out.1 6 (.slice (some ⟨g0, 0, none⟩) K rc) rfl rfl rfl (by simp) (by kernel_rfl) ?_; intro w10 hS10 hst10)
        simp only [List.setIfInBounds_toArray, List.set_cons_succ, List.set_cons_zero] at hS10
        have H11 := Lib.hid (And.intro hS10 (H10b.out.2.trans hst10))
        clear hS10 hst10 s6 q1 q2 q3 q4
        go_wp2_with (first | (refine wpList_load_g 31 _ rfl _ rfl _ _ _ _ (Sep.get H11.out.1) Try.underlying31 rfl (by kernel_rfl) (by first | rfl | (go_simp; done) | (go_simp; omega)) ?_) | (refine wpList_load_g 29 _ rfl _ rfl _ _ _ _ (Sep.get (H11.out.1.pick 1)) Try.underlying29 rfl (by kernel_rfl) (by first | rfl | (go_simp; done) | (go_simp; omega)) ?_))
        refine (HRM2.out _ _ (H11.out.1.pick 3)).mono ?_
        rintro e w11 ⟨rfl, hS12, hst12⟩
        have H12 := Lib.hid (And.intro (H11.out.1.mount hS12) (H11.out.2.trans hst12))
        clear hS12 hst12 H11
        go_wp2_with fail
        refine (lives_spec _).mono ?_
        rintro e w12 ⟨rfl, hS13, hst13⟩
        have H13 := Lib.hid (And.intro (H12.out.1.mount hS13) (H12.out.2.trans hst13))
        clear hS13 hst13 H12
        go_wp2_with fail
        go_ret
        exact ⟨rfl, rebase HB.out (Sep.below (H13.out.1.pick 3).one' H13.out.2)⟩

end Go.Proofs.Ytjmlpjaahankcaa
