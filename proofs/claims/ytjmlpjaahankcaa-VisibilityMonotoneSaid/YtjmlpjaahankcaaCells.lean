/- Contracts: the cells with positions made from numbers. -/
import Derived.Test.YtjmlpjaahankcaaInit
import Derived.Test.YtjmlpjaahankcaaPoint
import Derived.Test.YtjmlpjaahankcaaDag
import Derived.Deep.CutRange
namespace Go.Proofs.Ytjmlpjaahankcaa
open Go.RowKit Go.Sl

variable {w : World} {L : List Asn}

/-- All positions lie near. -/
def nearAll (p n : Nat) (cs : List Int) : Prop := cs.length = 48 + 4 * p + 8 * n ∧ ∀ i, i < n → near (cs.getD (48 + 4 * p + 8 * i) 0) ∧ near (cs.getD (48 + 4 * p + 8 * i + 1) 0)
theorem nearAll_set {p n : Nat} {cs : List Int} (h : nearAll p n cs) (k : Nat) {x : Int} (hx : near x) : nearAll p n (cs.set k x) := by
  have one : ∀ j, near (cs.getD j 0) → near ((cs.set k x).getD j 0) := fun j hj => by
    rw [List.getD_eq_getElem?_getD, List.getElem?_set] at *
    split
    · split
      · exact hx
      · unfold near; simp
    · exact hj
  exact ⟨by rw [List.length_set]; exact h.1, fun i hi => ⟨one _ (h.2 i hi).1, one _ (h.2 i hi).2⟩⟩
theorem eights_get : ∀ (l : List Bd) (i : Nat), i < l.length → (eights l).getD (8 * i) 0 = (l.getD i bd0).px ∧ (eights l).getD (8 * i + 1) 0 = (l.getD i bd0).py
  | [], i, h => by simp at h
  | a :: l, 0, _ => by simp [eights]
  | a :: l, i + 1, h => by
    have := eights_get l i (by simpa using h)
    simp only [eights, List.flatMap_cons, List.getD_cons_succ] at *
    rw [show 8 * (i + 1) = 8 * i + 8 by omega]
    exact this
theorem nearAll_init (p : Nat) (l : List Bd) (h : ∀ b ∈ l, near b.px ∧ near b.py) : nearAll p l.length (initL p l) := by
  refine ⟨by simp only [initL, List.length_append, List.length_replicate, eights_length], fun i hi => ?_⟩
  have e : ∀ j, (initL p l).getD (48 + 4 * p + j) 0 = (eights l).getD j 0 := fun j => by
    unfold initL
    rw [List.getD_eq_getElem?_getD, List.getElem?_append_right (by simp), List.getD_eq_getElem?_getD]
    simp
  have g := eights_get l i hi
  have hm : l.getD i bd0 ∈ l := by rw [show l.getD i bd0 = l[i] by simp [List.getD, hi]]; exact List.getElem_mem hi
  rw [e (8 * i), Nat.add_assoc, e (8 * i + 1), g.1, g.2]
  exact h _ hm

set_option maxRecDepth 100000 in
set_option maxHeartbeats 4000000 in
theorem Cells_spec (s : Su) (p : Nat) (hp : s.st.players = p) (hp3 : p ≤ 1000) (hnb : s.st.nb = s.bodies.length) (hn5 : s.bodies.length ≤ 1000) (h : readsBd w s.st.bodiesV s.bodies) (hnear : ∀ b ∈ s.bodies, near b.px ∧ near b.py)
    {v : Value} {l : List Int} (hr : readsI w v l) (hl : ∀ x ∈ l, inI64 x) (hlen : l.length ≤ 9223372036854775807) :
    Calls Try.prog 18 #[s.st.val, v] w fun e w' => ∃ v cs, e = .returned v ∧ nearAll p s.bodies.length cs ∧ Sep w' [rowI v cs, old w] ∧ Stable w w' := by
  have hI := fun (W : World) (hk : ∀ k, k < w.heap.size → W.heap[k]? = w.heap[k]?) => InitialR_spec (w := W) s p hp hp3 hnb hn5 (h.of_heap hk)
  have hBd := fun (k : Nat) (hk : k < s.bodies.length) W => BodyR_spec s.st k (by omega) (by omega) W
  have hat : ∀ k : Nat, k < s.bodies.length → bodyAt s.st k = ((48 + 4 * p + 8 * k : Nat) : Int) := fun k hk => by unfold bodyAt; rw [if_pos (by omega)]; omega
  have hcell : ∀ k, k < l.length → ∃ b off cap, v = .slice (some ⟨b, off, none⟩) l.length cap ∧ w.cell? ⟨b, off + k, none⟩ = some (i64 (l.getD k 0)) ∧ b < w.heap.size := fun k hk => by
    obtain ⟨b, off, cap, hv, _, _, hc⟩ := readsI_at hr (by omega)
    exact ⟨b, off, cap, hv, hc k hk, World.block_lt_of_cell? w _ (hc k hk)⟩
  have hmem : ∀ k, k < l.length → inI64 (l.getD k 0) := fun k hk => hl _ (by rw [show l.getD k 0 = l[k] by simp [List.getD, hk]]; exact List.getElem_mem hk)
  have hni := nearAll_init p s.bodies hnear
  obtain ⟨a, c, rfl⟩ := readsI_len hr
  obtain ⟨s, bodies⟩ := s
  obtain ⟨players, nb, ba, bc, x0, y0, x1, y1, rooms, ra, rc, doors, da, dc, fog, gx, gy, push, drag, rest, rounds, fuel⟩ := s
  dsimp only [St.val, St.doorsV, St.bodiesV] at *
  subst hnb
  obtain rfl : players = (p : Int) := hp
  have HC := Lib.hid (And.intro hI (And.intro hBd (And.intro hat (And.intro hcell hmem))))
  have HN := Lib.hid hni
  clear hI hBd hat h hcell hmem hr hl hni hnear
  have H0 := Lib.hid (And.intro ((Sep.start w).alloc (.cells #[i64 p, .slice ba bodies.length bc, i64 x0, i64 y0, i64 x1, i64 y1, .slice ra rooms.length rc, .slice da doors.length dc, i64 fog, i64 gx, i64 gy, i64 push, i64 drag, i64 rest, i64 rounds, i64 fuel] 31)) ((Stable.refl w).alloc (.cells #[i64 p, .slice ba bodies.length bc, i64 x0, i64 y0, i64 x1, i64 y1, .slice ra rooms.length rc, .slice da doors.length dc, i64 fog, i64 gx, i64 gy, i64 push, i64 drag, i64 rest, i64 rounds, i64 fuel] 31)))
  go_enter Try.func18, Try.ntmps18
  go_wp2_with (refine wpList_load_g 31 _ rfl _ rfl _ _ _ _ (Sep.get H0.out.1) Try.underlying31 rfl (by kernel_rfl) (by first | rfl | (go_simp; done) | (go_simp; omega)) ?_)
  refine (HC.out.1 _ (H0.out.1.pick 1).oldGet).mono ?_
  rintro e w1 ⟨cv, rfl, hS1, hst1⟩
  have hS2 := H0.out.1.mount (hS1.pick 1)
  obtain ⟨N, hN⟩ : ∃ N : Nat, N = (initL p bodies).length := ⟨_, rfl⟩
  have hN2 : N = 48 + 4 * p + 8 * bodies.length := hN.trans HN.out.1
  obtain ⟨g, cap, rfl, hNc, hcm, _⟩ := rowI_at (hS2.pick 0) (by omega)
  rw [← hN] at hS2 hNc ⊢
  have HNN := Lib.hid hN2
  have hN3 : N ≤ 20000 := by omega
  clear hN hN2
  have H1 := Lib.hid (And.intro hS2 (H0.out.2.trans hst1))
  clear hS1 hS2 hst1
  go_wp2_with fail
  go_loopw [6, 7, 8] (fun i u7 u8 wr => ∃ (k : Nat) (cs : List Int), k ≤ bodies.length ∧ i = .int .i64 k ∧ nearAll p bodies.length cs ∧
    Sep wr [rowI (.slice (some ⟨g, 0, none⟩) N cap) cs, pts w.heap.size (.cells #[i64 p, .slice ba bodies.length bc, i64 x0, i64 y0, i64 x1, i64 y1, .slice ra rooms.length rc, .slice da doors.length dc, i64 fog, i64 gx, i64 gy, i64 push, i64 drag, i64 rest, i64 rounds, i64 fuel] 31), old w] ∧ Stable w wr) (fun i _ _ _ => bodies.length - (intOf i).toNat)
  case atStart => exact ⟨0, _, Nat.zero_le _, rfl, HN.out, H1.out.1, H1.out.2⟩
  case round =>
    obtain ⟨k, cs, hk, rfl, hna, hSr, hst⟩ := hrel
    have c1 : wr.cell? ⟨w.heap.size, 1, none⟩ = some (.slice ba bodies.length bc) := cell_of_blk (Sep.get (Sep.pick 1 hSr)) 1
    have HR := Lib.hid (And.intro hna (And.intro hSr hst))
    clear hna hSr hst
    by_cases hlt : k < bodies.length
    · by_cases hl2 : 2 * k + 1 < l.length
      · obtain ⟨b, off, cap2, hv, hc0, hbl⟩ := HC.out.2.2.2.1 (2 * k) (by omega)
        obtain ⟨rfl, rfl⟩ : a = some ⟨b, off, none⟩ ∧ c = cap2 := by simpa using hv
        obtain ⟨b', off', cap', hv', hc1, hbl'⟩ := HC.out.2.2.2.1 (2 * k + 1) hl2
        obtain ⟨⟨rfl, rfl⟩, rfl⟩ : (b = b' ∧ off = off') ∧ c = cap' := by simpa using hv'
        have hPt := Point_fn _ _ (HC.out.2.2.2.2 (2 * k) (by omega)) (HC.out.2.2.2.2 (2 * k + 1) hl2)
        have hnx := near_ptX (l.getD (2 * k) 0)
        have hny := near_ptY (l.getD (2 * k) 0) (l.getD (2 * k + 1) 0)
        have HP := Lib.hid (And.intro hPt (And.intro (nearAll_set (nearAll_set HR.out.1 (48 + 4 * p + 8 * k) hnx) (48 + 4 * p + 8 * k + 1) hny) (And.intro hc0 hc1)))
        have hBk := HC.out.2.1 k hlt
        rw [HC.out.2.2.1 k hlt] at hBk
        have HBK := Lib.hid hBk
        clear hv hv' hPt hnx hny hc0 hc1 hBk
        generalize ptX (l.getD (2 * k) 0) = X at *
        generalize ptY (l.getD (2 * k) 0) (l.getD (2 * k + 1) 0) = Y at *
        generalize l.getD (2 * k) 0 = xa at *
        generalize l.getD (2 * k + 1) 0 = ya at *
        have hb : decide (2 * (k : Int) + 1 < (l.length : Int)) = true := by rw [decide_eq_true_iff]; omega
        go_upto_region 5 with fail
        go_cut [7] from 26 to 37 (fun x7 wx => ∃ b7, x7 = .pointer (some ⟨b7, 0, none⟩) ∧ Sep wx [pts b7 (.cells #[i64 X, i64 Y] 29), rowI (.slice (some ⟨g, 0, none⟩) N cap) cs, pts w.heap.size (.cells #[i64 p, .slice ba bodies.length bc, i64 x0, i64 y0, i64 x1, i64 y1, .slice ra rooms.length rc, .slice da doors.length dc, i64 fog, i64 gx, i64 gy, i64 push, i64 drag, i64 rest, i64 rounds, i64 fuel] 31), old w] ∧ Stable w wx)
        case first =>
          have q1 : IntKind.i64.wrap (2 * (k : Int)) = 2 * (k : Int) := IntWalk.i64_in _ (by omega)
          have q2 : IntKind.i64.wrap (2 * (k : Int) + 1) = 2 * (k : Int) + 1 := IntWalk.i64_in _ (by omega)
          have q3 : (0 : Int) ≤ 2 * (k : Int) := by omega
          have q4 : (0 : Int) ≤ 2 * (k : Int) + 1 := by omega
          have q5 : 2 * (k : Int) < (l.length : Int) := by omega
          have q6 : 2 * (k : Int) + 1 < (l.length : Int) := by omega
          have q7 : (2 * (k : Int)).toNat = 2 * k := by omega
          have q8 : (2 * (k : Int) + 1).toNat = 2 * k + 1 := by omega
          refine wp_region_dag (w0 := w) 14 [some 26, some 27, some 28, some 29, some 30, some 31, some 32, some 33, some 34, some 35, some 36, some 37, some 7, none] [.det [] (.slice (some ⟨b, off, none⟩) l.length c), .det [] (i64 k), .det [1] (i64 (2 * k)), .det [0, 2] (.pointer (some ⟨b, off + 2 * k, none⟩)), .det [3] (i64 xa), .det [] (.slice (some ⟨b, off, none⟩) l.length c), .det [] (i64 k), .det [6] (i64 (2 * k)), .det [7] (i64 (2 * k + 1)), .det [5, 8] (.pointer (some ⟨b, off + (2 * k + 1), none⟩)), .det [9] (i64 ya), .det [4, 10] (.agg #[i64 X, i64 Y]), .new ((.cells #[i64 0, i64 0] 29)), .store 12 [11] ((.cells #[i64 X, i64 Y] 29))] [rowI (.slice (some ⟨g, 0, none⟩) N cap) cs, pts w.heap.size (.cells #[i64 p, .slice ba bodies.length bc, i64 x0, i64 y0, i64 x1, i64 y1, .slice ra rooms.length rc, .slice da doors.length dc, i64 fog, i64 gx, i64 gy, i64 push, i64 drag, i64 rest, i64 rounds, i64 fuel] 31), old w] [13] rfl (by kernel_rfl) (by kernel_rfl) (by kernel_rfl) (by kernel_rfl) (HR.out.2.1) (HR.out.2.2) ⟨⟨⟨⟨⟨⟨⟨⟨⟨⟨⟨⟨⟨⟨trivial, ?_⟩, ?_⟩, ?_⟩, ?_⟩, ?_⟩, ?_⟩, ?_⟩, ?_⟩, ?_⟩, ?_⟩, ?_⟩, ?_⟩, ?_⟩, ?_⟩ ?_
          · refine all14 fun z0 z1 z2 z3 z4 z5 z6 z7 z8 z9 z10 z11 z12 z13 W L hv hS hst a ha K hK => ?_
            simp only [dagPut, Act.put, List.setIfInBounds_toArray, List.set_cons_zero, List.set_cons_succ] at ha
            subst ha
            refine wpOp_plain rfl rfl ?_
            simp only [Act.put, List.setIfInBounds_toArray, List.set_cons_zero, List.set_cons_succ, List.getD_cons_zero] at hK
            go_simp
            exact hK.out _ _ rfl (sepEmp hS) hst
          · refine all14 fun z0 z1 z2 z3 z4 z5 z6 z7 z8 z9 z10 z11 z12 z13 W L hv hS hst a ha K hK => ?_
            simp only [dagPut, Act.put, List.setIfInBounds_toArray, List.set_cons_zero, List.set_cons_succ] at ha
            subst ha
            refine wpOp_plain rfl rfl ?_
            simp only [Act.put, List.setIfInBounds_toArray, List.set_cons_zero, List.set_cons_succ, List.getD_cons_succ, List.getD_cons_zero] at hK
            go_simp
            exact hK.out _ _ rfl (sepEmp hS) hst
          · refine all14 fun z0 z1 z2 z3 z4 z5 z6 z7 z8 z9 z10 z11 z12 z13 W L hv hS hst a ha K hK => ?_
            obtain ⟨v1, _⟩ := hv
            obtain rfl : z1 = _ := v1
            simp only [dagPut, Act.put, List.setIfInBounds_toArray, List.set_cons_zero, List.set_cons_succ] at ha
            subst ha
            refine wpOp_plain rfl rfl ?_
            simp only [Act.put, List.setIfInBounds_toArray, List.set_cons_zero, List.set_cons_succ, List.getD_cons_succ, List.getD_cons_zero] at hK
            go_simp
            exact hK.out _ _ rfl (sepEmp hS) hst
          · refine all14 fun z0 z1 z2 z3 z4 z5 z6 z7 z8 z9 z10 z11 z12 z13 W L hv hS hst a ha K hK => ?_
            obtain ⟨v0, v2, _⟩ := hv
            obtain rfl : z0 = _ := v0
            obtain rfl : z2 = _ := v2
            simp only [dagPut, Act.put, List.setIfInBounds_toArray, List.set_cons_zero, List.set_cons_succ] at ha
            subst ha
            refine wpOp_plain rfl rfl ?_
            simp only [Act.put, List.setIfInBounds_toArray, List.set_cons_zero, List.set_cons_succ, List.getD_cons_succ, List.getD_cons_zero] at hK
            go_simp
            exact hK.out _ _ rfl (sepEmp hS) hst
          · refine all14 fun z0 z1 z2 z3 z4 z5 z6 z7 z8 z9 z10 z11 z12 z13 W L hv hS hst a ha K hK => ?_
            obtain ⟨v3, _⟩ := hv
            obtain rfl : z3 = _ := v3
            simp only [dagPut, Act.put, List.setIfInBounds_toArray, List.set_cons_zero, List.set_cons_succ] at ha
            subst ha
            refine wpOp_plain rfl rfl ?_
            simp only [Act.put, List.setIfInBounds_toArray, List.set_cons_zero, List.set_cons_succ, List.getD_cons_succ, List.getD_cons_zero] at hK
            have c0 : W.cell? ⟨b, off + 2 * k, none⟩ = some (i64 xa) := (World.cell?_of_block (a := ⟨b, off + 2 * k, none⟩) ((hS.pick 2).oldGet b hbl)).trans HP.out.2.2.1
            go_simp
            exact hK.out _ _ rfl (sepEmp hS) hst
          · refine all14 fun z0 z1 z2 z3 z4 z5 z6 z7 z8 z9 z10 z11 z12 z13 W L hv hS hst a ha K hK => ?_
            simp only [dagPut, Act.put, List.setIfInBounds_toArray, List.set_cons_zero, List.set_cons_succ] at ha
            subst ha
            refine wpOp_plain rfl rfl ?_
            simp only [Act.put, List.setIfInBounds_toArray, List.set_cons_zero, List.set_cons_succ, List.getD_cons_succ, List.getD_cons_zero] at hK
            go_simp
            exact hK.out _ _ rfl (sepEmp hS) hst
          · refine all14 fun z0 z1 z2 z3 z4 z5 z6 z7 z8 z9 z10 z11 z12 z13 W L hv hS hst a ha K hK => ?_
            simp only [dagPut, Act.put, List.setIfInBounds_toArray, List.set_cons_zero, List.set_cons_succ] at ha
            subst ha
            refine wpOp_plain rfl rfl ?_
            simp only [Act.put, List.setIfInBounds_toArray, List.set_cons_zero, List.set_cons_succ, List.getD_cons_succ, List.getD_cons_zero] at hK
            go_simp
            exact hK.out _ _ rfl (sepEmp hS) hst
          · refine all14 fun z0 z1 z2 z3 z4 z5 z6 z7 z8 z9 z10 z11 z12 z13 W L hv hS hst a ha K hK => ?_
            obtain ⟨v6, _⟩ := hv
            obtain rfl : z6 = _ := v6
            simp only [dagPut, Act.put, List.setIfInBounds_toArray, List.set_cons_zero, List.set_cons_succ] at ha
            subst ha
            refine wpOp_plain rfl rfl ?_
            simp only [Act.put, List.setIfInBounds_toArray, List.set_cons_zero, List.set_cons_succ, List.getD_cons_succ, List.getD_cons_zero] at hK
            go_simp
            exact hK.out _ _ rfl (sepEmp hS) hst
          · refine all14 fun z0 z1 z2 z3 z4 z5 z6 z7 z8 z9 z10 z11 z12 z13 W L hv hS hst a ha K hK => ?_
            obtain ⟨v7, _⟩ := hv
            obtain rfl : z7 = _ := v7
            simp only [dagPut, Act.put, List.setIfInBounds_toArray, List.set_cons_zero, List.set_cons_succ] at ha
            subst ha
            refine wpOp_plain rfl rfl ?_
            simp only [Act.put, List.setIfInBounds_toArray, List.set_cons_zero, List.set_cons_succ, List.getD_cons_succ, List.getD_cons_zero] at hK
            go_simp
            exact hK.out _ _ rfl (sepEmp hS) hst
          · refine all14 fun z0 z1 z2 z3 z4 z5 z6 z7 z8 z9 z10 z11 z12 z13 W L hv hS hst a ha K hK => ?_
            obtain ⟨v5, v8, _⟩ := hv
            obtain rfl : z5 = _ := v5
            obtain rfl : z8 = _ := v8
            simp only [dagPut, Act.put, List.setIfInBounds_toArray, List.set_cons_zero, List.set_cons_succ] at ha
            subst ha
            refine wpOp_plain rfl rfl ?_
            simp only [Act.put, List.setIfInBounds_toArray, List.set_cons_zero, List.set_cons_succ, List.getD_cons_succ, List.getD_cons_zero] at hK
            go_simp
            exact hK.out _ _ rfl (sepEmp hS) hst
          · refine all14 fun z0 z1 z2 z3 z4 z5 z6 z7 z8 z9 z10 z11 z12 z13 W L hv hS hst a ha K hK => ?_
            obtain ⟨v9, _⟩ := hv
            obtain rfl : z9 = _ := v9
            simp only [dagPut, Act.put, List.setIfInBounds_toArray, List.set_cons_zero, List.set_cons_succ] at ha
            subst ha
            refine wpOp_plain rfl rfl ?_
            simp only [Act.put, List.setIfInBounds_toArray, List.set_cons_zero, List.set_cons_succ, List.getD_cons_succ, List.getD_cons_zero] at hK
            have c0 : W.cell? ⟨b, off + (2 * k + 1), none⟩ = some (i64 ya) := (World.cell?_of_block (a := ⟨b, off + (2 * k + 1), none⟩) ((hS.pick 2).oldGet b hbl)).trans HP.out.2.2.2
            go_simp
            exact hK.out _ _ rfl (sepEmp hS) hst
          · refine all14 fun z0 z1 z2 z3 z4 z5 z6 z7 z8 z9 z10 z11 z12 z13 W L hv hS hst a ha K hK => ?_
            obtain ⟨v4, v10, _⟩ := hv
            obtain rfl : z4 = _ := v4
            obtain rfl : z10 = _ := v10
            simp only [dagPut, Act.put, List.setIfInBounds_toArray, List.set_cons_zero, List.set_cons_succ] at ha
            subst ha
            refine wpOp_plain rfl rfl ?_
            simp only [Act.put, List.setIfInBounds_toArray, List.set_cons_zero, List.set_cons_succ, List.getD_cons_succ, List.getD_cons_zero] at hK
            go_simp
            refine (HP.out.1 W).mono ?_
            rintro e w3 ⟨rfl, hS3, hst3⟩
            exact hK.out _ _ rfl (sepEmp (Sep.mount (M := []) hS hS3)) (hst.trans hst3)
          · refine all14 fun z0 z1 z2 z3 z4 z5 z6 z7 z8 z9 z10 z11 z12 z13 W L hv hS hst a ha K hK => ?_
            simp only [dagPut, Act.put, List.setIfInBounds_toArray, List.set_cons_zero, List.set_cons_succ] at ha
            subst ha
            refine wpOp_plain rfl rfl ?_
            simp only [Act.put, List.setIfInBounds_toArray, List.set_cons_zero, List.set_cons_succ, List.getD_cons_succ, List.getD_cons_zero] at hK
            go_simp
            exact hK.out _ _ ⟨_, rfl⟩ (Sep.alloc hS _).box (hst.alloc _)
          · refine all14 fun z0 z1 z2 z3 z4 z5 z6 z7 z8 z9 z10 z11 z12 z13 W L hv hS hst a ha K hK => ?_
            obtain ⟨v12, v11, _⟩ := hv
            obtain rfl : z11 = _ := v11
            obtain ⟨b, rfl, hS⟩ := Sep.unbox hS
            have c := fun i => cell_of_blk hS.get i
            have fz := frozen_of_blk hS.get
            simp only [dagPut, Act.put, List.setIfInBounds_toArray, List.set_cons_zero, List.set_cons_succ] at ha
            subst ha
            refine wpOp_plain rfl rfl ?_
            simp only [Act.put, List.getD_cons_succ, List.getD_cons_zero] at hK
            go_simp
            exact hK.out undef _ trivial (hS.set2 _ _).box ((hst.setCell _ _).setCell _ _)
          · refine all14 fun z0 z1 z2 z3 z4 z5 z6 z7 z8 z9 z10 z11 z12 z13 W hv hS hst a ha => ?_
            obtain ⟨⟨⟨⟨⟨⟨⟨⟨⟨⟨⟨⟨⟨⟨_, v0⟩, v1⟩, v2⟩, v3⟩, v4⟩, v5⟩, v6⟩, v7⟩, v8⟩, v9⟩, v10⟩, v11⟩, v12⟩, v13⟩ := hv
            obtain rfl : z0 = _ := v0
            obtain rfl : z1 = _ := v1
            obtain rfl : z2 = _ := v2
            obtain rfl : z3 = _ := v3
            obtain rfl : z4 = _ := v4
            obtain rfl : z5 = _ := v5
            obtain rfl : z6 = _ := v6
            obtain rfl : z7 = _ := v7
            obtain rfl : z8 = _ := v8
            obtain rfl : z9 = _ := v9
            obtain rfl : z10 = _ := v10
            obtain rfl : z11 = _ := v11
            obtain ⟨b7, rfl, hS⟩ := Sep.unbox hS
            simp only [dagPut, Act.put, List.setIfInBounds_toArray, List.set_cons_zero, List.set_cons_succ] at ha; subst ha
            go_wp2_with fail
            go_meet
            exact ⟨b7, rfl, hS, hst⟩
        case rest =>
          obtain ⟨b7, rfl, hS, hst⟩ := hcut
          have H4 := Lib.hid (And.intro hS hst)
          clear hS hst hb c1
          go_wp2_with (refine wpList_load_g 31 _ rfl _ rfl _ _ _ _ (Sep.get (Sep.pick 2 H4.out.1)) Try.underlying31 rfl (by kernel_rfl) (by first | rfl | (go_simp; done) | (go_simp; omega)) ?_)
          refine (HBK.out _).mono ?_
          rintro e w3 ⟨rfl, hS3, hst3⟩
          have hS6 := (H4.out.1.mount hS3).pick 1
          have HST := Lib.hid (H4.out.2.trans hst3)
          have hcl : cs.length = 48 + 4 * p + 8 * bodies.length := HR.out.1.1
          have HCL := Lib.hid hcl
          clear hS3 hst3 hcl
          obtain ⟨m, hm⟩ : ∃ m : Nat, m = 48 + 4 * p + 8 * k := ⟨_, rfl⟩
          have hmN : m + 1 < N := by have := HNN.out; omega
          have HM := Lib.hid hm
          rw [← hm]
          clear hm
          have c0 := cell_of_blk (hS6.pick 1).get 0
          simp at c0
          have HS6 := Lib.hid hS6
          clear hS6
          go_upto_region 8 with (refine wpList_store_rowI rfl 3 _ _ rfl HS6.out m X rfl rfl (by have := HCL.out; have := HNN.out; omega) (by kernel_rfl) ?_; intro w6 hS7 hst7)
          have HST2 := Lib.hid (HST.out.trans hst7)
          have c1 := cell_of_blk (hS7.pick 1).get 1
          simp at c1
          have HS7 := Lib.hid hS7
          clear hS7 hst7 c0
          go_wp2_with (refine wpList_store_rowI rfl 3 _ _ rfl HS7.out (m + 1) Y rfl rfl (by rw [List.length_set]; have := HCL.out; have := HNN.out; omega) (by kernel_rfl) ?_; intro w7 hS8 hst8)
          have HST3 := Lib.hid (HST2.out.trans hst8)
          have HS8 := Lib.hid hS8
          clear hS8 hst8 c1
          go_roundw
          case rel => exact ⟨k + 1, _, by omega, by go_num, by have := HP.out.2.1; rw [← HM.out] at this; exact this, (HS8.out.pick 1).drop, HST3.out⟩
          case measure => simp [intOf]; omega
      · go_wp2_with fail
        go_ret
        exact ⟨_, _, rfl, HR.out.1, (HR.out.2.1.pick 1).drop, HR.out.2.2⟩
    · obtain rfl : k = bodies.length := by omega
      clear hlt
      go_wp2_with fail
      go_ret
      exact ⟨_, _, rfl, HR.out.1, (HR.out.2.1.pick 1).drop, HR.out.2.2⟩

end Go.Proofs.Ytjmlpjaahankcaa
