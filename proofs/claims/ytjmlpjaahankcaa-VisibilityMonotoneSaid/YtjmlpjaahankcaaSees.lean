/- Contracts: Sees. -/
import Derived.Test.YtjmlpjaahankcaaPos
import Derived.Test.YtjmlpjaahankcaaDag
import Derived.Test.YtjmlpjaahankcaaRoomsAll
import Derived.Test.YtjmlpjaahankcaaPoint
import Derived.Deep.RegionHeld3
import Derived.Deep.CutRange
namespace Go.Proofs.Ytjmlpjaahankcaa
open Go.RowKit Go.Sl

variable {w : World} {L : List Asn}

/-- What Sees reads, and that its numbers are small. -/
structure Seeing (w : World) (s : St) (cv : Value) (cs : List Int) : Prop where
  reads : s.Reads w
  fine : s.Fine
  cells : readsI w cv cs
  players : 0 ≤ s.players ∧ s.players ≤ 1000
  more : s.players ≤ s.nb
  nb : s.nb ≤ 1000
  len : (cs.length : Int) = 48 + 4 * s.players + 8 * s.nb
  fog : 0 ≤ s.fog ∧ s.fog ≤ 10000000
  near : ∀ i : Int, 0 ≤ i → i < s.nb → near (posX s cs i) ∧ near (posY s cs i)

theorem Seeing.of_heap {w W : World} {s : St} {cv : Value} {cs : List Int} (h : Seeing w s cv cs) (hk : ∀ k, k < w.heap.size → W.heap[k]? = w.heap[k]?) : Seeing W s cv cs :=
  ⟨⟨h.reads.rooms.of_heap hk, h.reads.doors.of_heap hk⟩, h.fine, h.cells.of_heap hk, h.players, h.more, h.nb, h.len, h.fog, h.near⟩

def roomOf (s : St) (cs : List Int) (i : Int) : Int := roomIx s.rooms (posX s cs i) (posY s cs i)
def dist2 (s : St) (cs : List Int) (p i : Int) : Int := (posX s cs i - posX s cs p) * (posX s cs i - posX s cs p) + (posY s cs i - posY s cs p) * (posY s cs i - posY s cs p)
def seesIn (s : St) (cs : List Int) (p i : Int) : Bool := decide (0 ≤ roomOf s cs p) && (decide (0 ≤ roomOf s cs i) && (connB s.doors (roomOf s cs p) (roomOf s cs i) && decide (dist2 s cs p i < (s.fog + 1) * (s.fog + 1))))
def seesB (s : St) (cs : List Int) (p i : Int) : Bool := decide (0 ≤ p ∧ p < s.players ∧ 0 ≤ i ∧ i < s.nb) && (p == i || seesIn s cs p i)

theorem seesB_out {s : St} {cs : List Int} {p i : Int} (h : ¬ (0 ≤ p ∧ p < s.players ∧ 0 ≤ i ∧ i < s.nb)) : seesB s cs p i = false := by
  unfold seesB; rw [decide_eq_false h, Bool.false_and]
theorem seesB_in {s : St} {cs : List Int} {p i : Int} (h : 0 ≤ p ∧ p < s.players ∧ 0 ≤ i ∧ i < s.nb) : seesB s cs p i = (p == i || seesIn s cs p i) := by
  unfold seesB; rw [decide_eq_true h, Bool.true_and]

theorem roomIx_lt (l : List Bx) (x y : Int) : roomIx l x y = -1 ∨ (0 ≤ roomIx l x y ∧ roomIx l x y < l.length) := by
  unfold roomIx
  split
  · rename_i i h
    have := List.mem_of_find?_eq_some h
    rw [List.mem_range] at this
    exact .inr ⟨by omega, by omega⟩
  · exact .inl rfl

theorem len_fog {n r f : Int} (h : IsRoot n r) (hf : 0 ≤ f) : decide (r ≤ f) = decide (n < (f + 1) * (f + 1)) := by
  rw [Bool.eq_iff_iff]
  simp only [decide_eq_true_eq]
  constructor
  · intro hr
    have := h.2.2
    have h2 : (r + 1) * (r + 1) ≤ (f + 1) * (f + 1) := Int.mul_le_mul (by omega) (by omega) (by have := h.1; omega) (by omega)
    omega
  · intro hn
    have := isRoot_lt h (b := f + 1) (by omega) hn
    omega

set_option maxRecDepth 100000 in
set_option maxHeartbeats 4000000 in
theorem Sees_in {s : St} {cv : Value} {cs : List Int} (h : Seeing w s cv cs) (p i : Int) (hp : 0 ≤ p ∧ p < s.players) (hi : 0 ≤ i ∧ i < s.nb) (hne : (p == i) = false) :
    Calls Try.prog 21 #[s.val, cv, i64 p, i64 i] w fun e w' => e = .returned (.bool (seesIn s cs p i)) ∧ Sep w' [old w] ∧ Stable w w' := by
  have hPl : ∀ W : World, Calls Try.prog 41 #[s.val, i64 p] W (fun e w' => e = .returned (i64 (48 + 4 * p)) ∧ Sep w' [old W] ∧ Stable W w') := fun W => by
    have := Player_spec s p h.players W
    rw [show playerAt s p = 48 + 4 * p by unfold playerAt; rw [if_pos hp]] at this
    exact this
  have hBo : ∀ W : World, Calls Try.prog 25 #[s.val, i64 i] W (fun e w' => e = .returned (i64 (48 + 4 * s.players + 8 * i)) ∧ Sep w' [old W] ∧ Stable W w') := fun W => by
    have := Body_spec s i h.players h.nb W
    rw [show bodyAt s i = 48 + 4 * s.players + 8 * i by unfold bodyAt; rw [if_pos hi]] at this
    exact this
  have hPp : ∀ (W : World) (M : List Asn), Sep W (old w :: M) → Calls Try.prog 42 #[s.val, cv, i64 p] W (fun e w' => e = .returned (.agg #[i64 (posX s cs p), i64 (posY s cs p)]) ∧ Sep w' [old W] ∧ Stable W w') := fun W M hS =>
    position_spec (h.of_heap hS.oldGet).cells h.players h.nb h.len ⟨hp.1, by have := h.more; omega⟩
  have hPi : ∀ (W : World) (M : List Asn), Sep W (old w :: M) → Calls Try.prog 42 #[s.val, cv, i64 i] W (fun e w' => e = .returned (.agg #[i64 (posX s cs i), i64 (posY s cs i)]) ∧ Sep w' [old W] ∧ Stable W w') := fun W M hS =>
    position_spec (h.of_heap hS.oldGet).cells h.players h.nb h.len hi
  have hRp : ∀ (W : World) (M : List Asn), Sep W (old w :: M) → Calls Try.prog 12 #[s.val, .agg #[i64 (posX s cs p), i64 (posY s cs p)]] W (fun e w' => e = .returned (i64 (roomOf s cs p)) ∧ Sep w' [old W] ∧ Stable W w') := fun W M hS =>
    Room_spec (h.of_heap hS.oldGet).reads h.fine _ _
  have hRi : ∀ (W : World) (M : List Asn), Sep W (old w :: M) → Calls Try.prog 12 #[s.val, .agg #[i64 (posX s cs i), i64 (posY s cs i)]] W (fun e w' => e = .returned (i64 (roomOf s cs i)) ∧ Sep w' [old W] ∧ Stable W w') := fun W M hS =>
    Room_spec (h.of_heap hS.oldGet).reads h.fine _ _
  obtain ⟨m, hm8, hMk, hMb⟩ : ∃ m : Nat, m < 256 ∧ (∀ (W : World) (M : List Asn), Sep W (old w :: M) → Calls Try.prog 33 #[s.val, i64 (roomOf s cs p)] W (fun e w' => e = .returned (.int .u64 (m : Int)) ∧ Sep w' [old W] ∧ Stable W w')) ∧
      (∀ bn : Nat, roomOf s cs i = bn → m.testBit bn = (decide (0 ≤ roomOf s cs p) && connB s.doors (roomOf s cs p) (roomOf s cs i))) := by
    rcases roomIx_lt s.rooms (posX s cs p) (posY s cs p) with ha | ⟨ha, ha2⟩
    · have ha' : roomOf s cs p = -1 := ha
      refine ⟨0, by omega, fun W M hS => ?_, fun bn _ => ?_⟩
      · exact mask_out _ (.inl (by omega)) W
      · rw [ha']; simp
    · have ha' : 0 ≤ roomOf s cs p := ha
      have ha2' : roomOf s cs p < s.rooms.length := ha2
      obtain ⟨k, hk⟩ : ∃ k : Nat, roomOf s cs p = k := ⟨(roomOf s cs p).toNat, by omega⟩
      have hk2 : k < s.rooms.length := by omega
      refine ⟨maskTo s.doors k s.doors.length, maskTo_lt s.doors k s.rooms.length h.fine.rooms hk2 h.fine.valid _ (Nat.le_refl _), fun W M hS => ?_, fun bn hbn => ?_⟩
      · rw [hk]; exact mask_spec (h.of_heap hS.oldGet).reads h.fine k hk2
      · rw [maskTo_bit s.doors k (fun d hd => ⟨(h.fine.valid d hd).1, (h.fine.valid d hd).2.2.1⟩) bn _ (Nat.le_refl _), List.take_length, hk, hbn, decide_eq_true (by omega : (0 : Int) ≤ (k : Int)), Bool.true_and, connB]
        congr 1
        rw [Bool.eq_iff_iff]; simp; omega
  have hn1 := h.near p hp.1 (by have := h.more; omega)
  have hn2 := h.near i hi.1 hi.2
  obtain ⟨r, hr⟩ := exists_root (n := dist2 s cs p i) (by unfold dist2; have := sq_bd (x := posX s cs i - posX s cs p) (by unfold near at *; omega); have := sq_bd (x := posY s cs i - posY s cs p) (by unfold near at *; omega); omega)
  have hSub := fun W => Sub_spec (posX s cs i) (posY s cs i) (posX s cs p) (posY s cs p) (by unfold mid; unfold near at *; omega) (by unfold mid; unfold near at *; omega) (by unfold mid; unfold near at *; omega) (by unfold mid; unfold near at *; omega) W
  have hLen := fun W => Len_spec (posX s cs i - posX s cs p) (posY s cs i - posY s cs p) r (by unfold near at *; omega) (by unfold near at *; omega) hr W
  have hres : seesIn s cs p i = (decide (0 ≤ roomOf s cs p) && (decide (0 ≤ roomOf s cs i) && (connB s.doors (roomOf s cs p) (roomOf s cs i) && decide (r ≤ s.fog)))) := by
    rw [len_fog hr h.fog.1]; rfl
  have hb8 : roomOf s cs i = -1 ∨ (0 ≤ roomOf s cs i ∧ roomOf s cs i < 8) := by
    rcases roomIx_lt s.rooms (posX s cs i) (posY s cs i) with hb | ⟨hb, hb2⟩
    · exact .inl hb
    · exact .inr ⟨hb, by have := h.fine.rooms; unfold roomOf; omega⟩
  rw [hres]
  have HB := Lib.hid (And.intro hm8 (And.intro hMb hb8))
  have HR := Lib.hid (And.intro hRp (And.intro hRi hMk))
  have HSL := Lib.hid (And.intro hSub hLen)
  clear hRp hRi hMk hm8 hMb hb8 hn1 hn2 hr hSub hLen hres
  have HC := Lib.hid (And.intro hPl (And.intro hBo (And.intro hPp hPi)))
  have b1 := h.players
  have b2 := h.nb
  clear hPl hBo hPp hPi h
  generalize roomOf s cs p = a at *
  generalize roomOf s cs i = b at *
  generalize posX s cs p = px at *
  generalize posY s cs p = py at *
  generalize posX s cs i = qx at *
  generalize posY s cs i = qy at *
  obtain ⟨players, nb, ba, bc, x0, y0, x1, y1, rooms, ra, rc, doors, da, dc, fog, gx, gy, push, drag, rest, rounds, fuel⟩ := s
  dsimp only [St.val, St.doorsV] at *
  have hS0 := (Sep.start w).alloc (.cells #[i64 players, .slice ba nb bc, i64 x0, i64 y0, i64 x1, i64 y1, .slice ra rooms.length rc, .slice da doors.length dc, i64 fog, i64 gx, i64 gy, i64 push, i64 drag, i64 rest, i64 rounds, i64 fuel] 31)
  have hst0 := (Stable.refl w).alloc (.cells #[i64 players, .slice ba nb bc, i64 x0, i64 y0, i64 x1, i64 y1, .slice ra rooms.length rc, .slice da doors.length dc, i64 fog, i64 gx, i64 gy, i64 push, i64 drag, i64 rest, i64 rounds, i64 fuel] 31)
  have H0 := Lib.hid (And.intro hS0 hst0)
  clear hS0 hst0
  go_enter Try.func21, Try.ntmps21
  go_wp2_with (refine wpList_load_g 31 _ rfl _ rfl _ _ _ _ (Sep.get H0.out.1) Try.underlying31 rfl (by kernel_rfl) (by first | rfl | (go_simp; done) | (go_simp; omega)) ?_)
  refine (HC.out.1 _).mono ?_
  rintro e w1 ⟨rfl, hS1, hst1⟩
  have hS1' := H0.out.1.mount hS1
  have hst1' := H0.out.2.trans hst1
  clear hS1 hst1
  have H1 := Lib.hid (And.intro hS1' hst1')
  clear hS1' hst1'
  go_wp2_with (refine wpList_load_g 31 _ rfl _ rfl _ _ _ _ (Sep.get H1.out.1) Try.underlying31 rfl (by kernel_rfl) (by first | rfl | (go_simp; done) | (go_simp; omega)) ?_)
  refine (HC.out.2.1 _).mono ?_
  rintro e w2 ⟨rfl, hS2, hst2⟩
  have H2 := Lib.hid (And.intro (H1.out.1.mount hS2) (H1.out.2.trans hst2))
  clear hS2 hst2 H1
  go_upto_region 5 with fail
  go_cut [9, 10] from 25 to 32 (fun x9 x10 wx => ∃ b9 b10, x9 = .pointer (some ⟨b9, 0, none⟩) ∧ x10 = .pointer (some ⟨b10, 0, none⟩) ∧
    Sep wx [pts b9 (.cells #[i64 px, i64 py] 29), pts b10 (.cells #[i64 qx, i64 qy] 29), pts w.heap.size (.cells #[i64 players, .slice ba nb bc, i64 x0, i64 y0, i64 x1, i64 y1, .slice ra rooms.length rc, .slice da doors.length dc, i64 fog, i64 gx, i64 gy, i64 push, i64 drag, i64 rest, i64 rounds, i64 fuel] 31), old w] ∧ Stable w wx)
  case first =>
    refine wp_region_dag (w0 := w) 12 [some 25, some 26, some 27, some 28, some 29, some 30, some 31, some 32, some 9, some 10, none, none] [.det [] (.agg #[i64 players, .slice ba nb bc, i64 x0, i64 y0, i64 x1, i64 y1, .slice ra rooms.length rc, .slice da doors.length dc, i64 fog, i64 gx, i64 gy, i64 push, i64 drag, i64 rest, i64 rounds, i64 fuel]), .det [] (cv), .det [] (i64 p), .det [0, 1, 2] (.agg #[i64 px, i64 py]), .det [] (.agg #[i64 players, .slice ba nb bc, i64 x0, i64 y0, i64 x1, i64 y1, .slice ra rooms.length rc, .slice da doors.length dc, i64 fog, i64 gx, i64 gy, i64 push, i64 drag, i64 rest, i64 rounds, i64 fuel]), .det [] (cv), .det [] (i64 i), .det [4, 5, 6] (.agg #[i64 qx, i64 qy]), .new ((.cells #[i64 0, i64 0] 29)), .new ((.cells #[i64 0, i64 0] 29)), .store 8 [3] ((.cells #[i64 px, i64 py] 29)), .store 9 [7] ((.cells #[i64 qx, i64 qy] 29))] [pts w.heap.size (.cells #[i64 players, .slice ba nb bc, i64 x0, i64 y0, i64 x1, i64 y1, .slice ra rooms.length rc, .slice da doors.length dc, i64 fog, i64 gx, i64 gy, i64 push, i64 drag, i64 rest, i64 rounds, i64 fuel] 31), old w] [10, 11] rfl (by kernel_rfl) (by kernel_rfl) (by kernel_rfl) (by kernel_rfl) (H2.out.1.pick 0) (H2.out.2) ⟨⟨⟨⟨⟨⟨⟨⟨⟨⟨⟨⟨trivial, ?_⟩, ?_⟩, ?_⟩, ?_⟩, ?_⟩, ?_⟩, ?_⟩, ?_⟩, ?_⟩, ?_⟩, ?_⟩, ?_⟩ ?_
    · refine all12 fun z0 z1 z2 z3 z4 z5 z6 z7 z8 z9 z10 z11 W L hv hS hst a ha K hK => ?_
      simp only [dagPut, Act.put, List.setIfInBounds_toArray, List.set_cons_zero, List.set_cons_succ] at ha
      subst ha
      refine wpOp_plain rfl rfl ?_
      simp only [Act.put, List.setIfInBounds_toArray, List.set_cons_zero, List.set_cons_succ, List.getD_cons_zero] at hK
      refine wp_load_row 31 _ rfl _ rfl _ _ _ _ (Sep.get (L := _) (hS)) Try.underlying31 rfl (by kernel_rfl) ?_
      exact hK.out _ _ rfl (sepEmp hS) hst
    · refine all12 fun z0 z1 z2 z3 z4 z5 z6 z7 z8 z9 z10 z11 W L hv hS hst a ha K hK => ?_
      simp only [dagPut, Act.put, List.setIfInBounds_toArray, List.set_cons_zero, List.set_cons_succ] at ha
      subst ha
      refine wpOp_plain rfl rfl ?_
      simp only [Act.put, List.setIfInBounds_toArray, List.set_cons_zero, List.set_cons_succ, List.getD_cons_succ, List.getD_cons_zero] at hK
      go_simp
      exact hK.out _ _ rfl (sepEmp hS) hst
    · refine all12 fun z0 z1 z2 z3 z4 z5 z6 z7 z8 z9 z10 z11 W L hv hS hst a ha K hK => ?_
      simp only [dagPut, Act.put, List.setIfInBounds_toArray, List.set_cons_zero, List.set_cons_succ] at ha
      subst ha
      refine wpOp_plain rfl rfl ?_
      simp only [Act.put, List.setIfInBounds_toArray, List.set_cons_zero, List.set_cons_succ, List.getD_cons_succ, List.getD_cons_zero] at hK
      go_simp
      exact hK.out _ _ rfl (sepEmp hS) hst
    · refine all12 fun z0 z1 z2 z3 z4 z5 z6 z7 z8 z9 z10 z11 W L hv hS hst a ha K hK => ?_
      obtain ⟨v0, v1, v2, _⟩ := hv
      obtain rfl : z0 = _ := v0
      obtain rfl : z1 = _ := v1
      obtain rfl : z2 = _ := v2
      simp only [dagPut, Act.put, List.setIfInBounds_toArray, List.set_cons_zero, List.set_cons_succ] at ha
      subst ha
      refine wpOp_plain rfl rfl ?_
      simp only [Act.put, List.setIfInBounds_toArray, List.set_cons_zero, List.set_cons_succ, List.getD_cons_succ, List.getD_cons_zero] at hK
      go_simp
      refine (HC.out.2.2.1 W _ (Sep.pick 1 hS)).mono ?_
      rintro e w3 ⟨rfl, hS3, hst3⟩
      exact hK.out _ _ rfl (sepEmp (Sep.mount (M := []) hS hS3)) (hst.trans hst3)
    · refine all12 fun z0 z1 z2 z3 z4 z5 z6 z7 z8 z9 z10 z11 W L hv hS hst a ha K hK => ?_
      simp only [dagPut, Act.put, List.setIfInBounds_toArray, List.set_cons_zero, List.set_cons_succ] at ha
      subst ha
      refine wpOp_plain rfl rfl ?_
      simp only [Act.put, List.setIfInBounds_toArray, List.set_cons_zero, List.set_cons_succ, List.getD_cons_succ, List.getD_cons_zero] at hK
      refine wp_load_row 31 _ rfl _ rfl _ _ _ _ (Sep.get (L := _) (hS)) Try.underlying31 rfl (by kernel_rfl) ?_
      exact hK.out _ _ rfl (sepEmp hS) hst
    · refine all12 fun z0 z1 z2 z3 z4 z5 z6 z7 z8 z9 z10 z11 W L hv hS hst a ha K hK => ?_
      simp only [dagPut, Act.put, List.setIfInBounds_toArray, List.set_cons_zero, List.set_cons_succ] at ha
      subst ha
      refine wpOp_plain rfl rfl ?_
      simp only [Act.put, List.setIfInBounds_toArray, List.set_cons_zero, List.set_cons_succ, List.getD_cons_succ, List.getD_cons_zero] at hK
      go_simp
      exact hK.out _ _ rfl (sepEmp hS) hst
    · refine all12 fun z0 z1 z2 z3 z4 z5 z6 z7 z8 z9 z10 z11 W L hv hS hst a ha K hK => ?_
      simp only [dagPut, Act.put, List.setIfInBounds_toArray, List.set_cons_zero, List.set_cons_succ] at ha
      subst ha
      refine wpOp_plain rfl rfl ?_
      simp only [Act.put, List.setIfInBounds_toArray, List.set_cons_zero, List.set_cons_succ, List.getD_cons_succ, List.getD_cons_zero] at hK
      go_simp
      exact hK.out _ _ rfl (sepEmp hS) hst
    · refine all12 fun z0 z1 z2 z3 z4 z5 z6 z7 z8 z9 z10 z11 W L hv hS hst a ha K hK => ?_
      obtain ⟨v4, v5, v6, _⟩ := hv
      obtain rfl : z4 = _ := v4
      obtain rfl : z5 = _ := v5
      obtain rfl : z6 = _ := v6
      simp only [dagPut, Act.put, List.setIfInBounds_toArray, List.set_cons_zero, List.set_cons_succ] at ha
      subst ha
      refine wpOp_plain rfl rfl ?_
      simp only [Act.put, List.setIfInBounds_toArray, List.set_cons_zero, List.set_cons_succ, List.getD_cons_succ, List.getD_cons_zero] at hK
      go_simp
      refine (HC.out.2.2.2 W _ (Sep.pick 1 hS)).mono ?_
      rintro e w3 ⟨rfl, hS3, hst3⟩
      exact hK.out _ _ rfl (sepEmp (Sep.mount (M := []) hS hS3)) (hst.trans hst3)
    · refine all12 fun z0 z1 z2 z3 z4 z5 z6 z7 z8 z9 z10 z11 W L hv hS hst a ha K hK => ?_
      simp only [dagPut, Act.put, List.setIfInBounds_toArray, List.set_cons_zero, List.set_cons_succ] at ha
      subst ha
      refine wpOp_plain rfl rfl ?_
      simp only [Act.put, List.setIfInBounds_toArray, List.set_cons_zero, List.set_cons_succ, List.getD_cons_succ, List.getD_cons_zero] at hK
      go_simp
      exact hK.out _ _ ⟨_, rfl⟩ (Sep.alloc hS _).box (hst.alloc _)
    · refine all12 fun z0 z1 z2 z3 z4 z5 z6 z7 z8 z9 z10 z11 W L hv hS hst a ha K hK => ?_
      simp only [dagPut, Act.put, List.setIfInBounds_toArray, List.set_cons_zero, List.set_cons_succ] at ha
      subst ha
      refine wpOp_plain rfl rfl ?_
      simp only [Act.put, List.setIfInBounds_toArray, List.set_cons_zero, List.set_cons_succ, List.getD_cons_succ, List.getD_cons_zero] at hK
      go_simp
      exact hK.out _ _ ⟨_, rfl⟩ (Sep.alloc hS _).box (hst.alloc _)
    · refine all12 fun z0 z1 z2 z3 z4 z5 z6 z7 z8 z9 z10 z11 W L hv hS hst a ha K hK => ?_
      obtain ⟨v8, v3, _⟩ := hv
      obtain rfl : z3 = _ := v3
      obtain ⟨b, rfl, hS⟩ := Sep.unbox hS
      have c := fun i => cell_of_blk hS.get i
      have fz := frozen_of_blk hS.get
      simp only [dagPut, Act.put, List.setIfInBounds_toArray, List.set_cons_zero, List.set_cons_succ] at ha
      subst ha
      refine wpOp_plain rfl rfl ?_
      simp only [Act.put, List.getD_cons_succ, List.getD_cons_zero] at hK
      go_simp
      exact hK.out undef _ trivial (hS.set2 _ _).box ((hst.setCell _ _).setCell _ _)
    · refine all12 fun z0 z1 z2 z3 z4 z5 z6 z7 z8 z9 z10 z11 W L hv hS hst a ha K hK => ?_
      obtain ⟨v9, v7, _⟩ := hv
      obtain rfl : z7 = _ := v7
      obtain ⟨b, rfl, hS⟩ := Sep.unbox hS
      have c := fun i => cell_of_blk hS.get i
      have fz := frozen_of_blk hS.get
      simp only [dagPut, Act.put, List.setIfInBounds_toArray, List.set_cons_zero, List.set_cons_succ] at ha
      subst ha
      refine wpOp_plain rfl rfl ?_
      simp only [Act.put, List.getD_cons_succ, List.getD_cons_zero] at hK
      go_simp
      exact hK.out undef _ trivial (hS.set2 _ _).box ((hst.setCell _ _).setCell _ _)
    · refine all12 fun z0 z1 z2 z3 z4 z5 z6 z7 z8 z9 z10 z11 W hv hS hst a ha => ?_
      obtain ⟨⟨⟨⟨⟨⟨⟨⟨⟨⟨⟨⟨_, v0⟩, v1⟩, v2⟩, v3⟩, v4⟩, v5⟩, v6⟩, v7⟩, v8⟩, v9⟩, v10⟩, v11⟩ := hv
      obtain rfl : z0 = _ := v0
      obtain rfl : z1 = _ := v1
      obtain rfl : z2 = _ := v2
      obtain rfl : z3 = _ := v3
      obtain rfl : z4 = _ := v4
      obtain rfl : z5 = _ := v5
      obtain rfl : z6 = _ := v6
      obtain rfl : z7 = _ := v7
      obtain ⟨b9, rfl, hS⟩ := Sep.unbox hS
      obtain ⟨b10, rfl, hS⟩ := Sep.unbox (Sep.pick 1 hS)
      simp only [dagPut, Act.put, List.setIfInBounds_toArray, List.set_cons_zero, List.set_cons_succ] at ha; subst ha
      go_wp2_with fail
      go_meet
      exact ⟨b9, b10, rfl, rfl, hS.pick 1, hst⟩
  case rest =>
    obtain ⟨b9, b10, rfl, rfl, hS, hst⟩ := hcut
    clear H2
    have H5 := Lib.hid (And.intro hS hst)
    clear hS hst
    go_wp2_with (first | (refine wpList_load_g 31 _ rfl _ rfl _ _ _ _ (Sep.get (Sep.pick 2 H5.out.1)) Try.underlying31 rfl (by kernel_rfl) (by first | rfl | (go_simp; done) | (go_simp; omega)) ?_) | (refine wpList_load_g 29 _ rfl _ rfl _ _ _ _ (Sep.get (Sep.pick 1 H5.out.1)) Try.underlying29 rfl (by kernel_rfl) (by first | rfl | (go_simp; done) | (go_simp; omega)) ?_))
    refine (HR.out.2.1 _ _ (Sep.pick 3 H5.out.1)).mono ?_
    rintro e w5 ⟨rfl, hS6, hst6⟩
    have H6 := Lib.hid (And.intro (H5.out.1.mount hS6) (H5.out.2.trans hst6))
    clear hS6 hst6 H5
    go_wp2_with fail
    by_cases hb : b < 0
    · have he : (decide (0 ≤ a) && (decide (0 ≤ b) && (connB doors a b && decide (r ≤ fog)))) = false := by rw [decide_eq_false (by omega : ¬ 0 ≤ b)]; simp
      have HE := Lib.hid he
      clear he
      have hb' : decide (0 ≤ b) = false := decide_eq_false (by omega)
      refine wp_region_dag (w0 := w) 23 [some 36, some 37, some 38, some 39, some 40, some 41, some 42, some 43, some 44, some 45, some 46, some 47, some 48, some 49, some 50, some 51, some 52, some 53, some 54, some 55, some 56, some 57, some 8] [.det [] (i64 b), .det [0] (.bool false), .det [1] (.bool false), .any [2], .any [2], .any [2], .any [2], .any [2], .any [2], .any [2], .any [2], .any [2], .det [2, 11] (.bool false), .det [12] (.bool false), .any [13], .any [13], .any [13], .any [13], .any [13], .any [13], .any [13], .det [13, 20] (.bool false), .det [21] (.bool false)] [pts b9 (.cells #[i64 px, i64 py] 29), pts b10 (.cells #[i64 qx, i64 qy] 29), pts w.heap.size (.cells #[i64 players, .slice ba nb bc, i64 x0, i64 y0, i64 x1, i64 y1, .slice ra rooms.length rc, .slice da doors.length dc, i64 fog, i64 gx, i64 gy, i64 push, i64 drag, i64 rest, i64 rounds, i64 fuel] 31), old w] [] rfl (by kernel_rfl) (by kernel_rfl) (by kernel_rfl) (by kernel_rfl) (H6.out.1) (H6.out.2) ⟨⟨⟨⟨⟨⟨⟨⟨⟨⟨⟨⟨⟨⟨⟨⟨⟨⟨⟨⟨⟨⟨⟨trivial, ?_⟩, ?_⟩, ?_⟩, ?_⟩, ?_⟩, ?_⟩, ?_⟩, ?_⟩, ?_⟩, ?_⟩, ?_⟩, ?_⟩, ?_⟩, ?_⟩, ?_⟩, ?_⟩, ?_⟩, ?_⟩, ?_⟩, ?_⟩, ?_⟩, ?_⟩, ?_⟩ ?_
      · refine all23 fun z0 z1 z2 z3 z4 z5 z6 z7 z8 z9 z10 z11 z12 z13 z14 z15 z16 z17 z18 z19 z20 z21 z22 W L hv hS hst a ha K hK => ?_
        simp only [dagPut, Act.put, List.setIfInBounds_toArray, List.set_cons_zero, List.set_cons_succ] at ha
        subst ha
        refine wpOp_plain rfl rfl ?_
        simp only [Act.put, List.setIfInBounds_toArray, List.set_cons_zero, List.set_cons_succ, List.getD_cons_zero] at hK
        go_simp
        exact hK.out _ _ rfl (sepEmp hS) hst
      · refine all23 fun z0 z1 z2 z3 z4 z5 z6 z7 z8 z9 z10 z11 z12 z13 z14 z15 z16 z17 z18 z19 z20 z21 z22 W L hv hS hst a ha K hK => ?_
        obtain ⟨v0, _⟩ := hv
        obtain rfl : z0 = _ := v0
        simp only [dagPut, Act.put, List.setIfInBounds_toArray, List.set_cons_zero, List.set_cons_succ] at ha
        subst ha
        refine wpOp_plain rfl rfl ?_
        simp only [Act.put, List.setIfInBounds_toArray, List.set_cons_zero, List.set_cons_succ, List.getD_cons_succ, List.getD_cons_zero] at hK
        go_simp
        exact hK.out _ _ rfl (sepEmp hS) hst
      · refine all23 fun z0 z1 z2 z3 z4 z5 z6 z7 z8 z9 z10 z11 z12 z13 z14 z15 z16 z17 z18 z19 z20 z21 z22 W L hv hS hst a ha K hK => ?_
        obtain ⟨v1, _⟩ := hv
        obtain rfl : z1 = _ := v1
        simp only [dagPut, Act.put, List.setIfInBounds_toArray, List.set_cons_zero, List.set_cons_succ] at ha
        subst ha
        refine wpOp_plain rfl rfl ?_
        simp only [Act.put, List.setIfInBounds_toArray, List.set_cons_zero, List.set_cons_succ, List.getD_cons_succ, List.getD_cons_zero] at hK
        go_simp
        exact hK.out _ _ rfl (sepEmp hS) hst
      · refine all23 fun z0 z1 z2 z3 z4 z5 z6 z7 z8 z9 z10 z11 z12 z13 z14 z15 z16 z17 z18 z19 z20 z21 z22 W L hv hS hst a ha K hK => ?_
        obtain ⟨v2, _⟩ := hv
        obtain rfl : z2 = _ := v2
        simp only [dagPut, Act.put, List.setIfInBounds_toArray, List.set_cons_zero, List.set_cons_succ] at ha
        subst ha
        refine wpOp_off rfl rfl ?_
        simp only [Act.put, List.setIfInBounds_toArray, List.set_cons_zero, List.set_cons_succ, List.getD_cons_succ, List.getD_cons_zero] at hK
        exact hK.out undef _ trivial (sepEmp hS) hst
      · refine all23 fun z0 z1 z2 z3 z4 z5 z6 z7 z8 z9 z10 z11 z12 z13 z14 z15 z16 z17 z18 z19 z20 z21 z22 W L hv hS hst a ha K hK => ?_
        obtain ⟨v2, _⟩ := hv
        obtain rfl : z2 = _ := v2
        simp only [dagPut, Act.put, List.setIfInBounds_toArray, List.set_cons_zero, List.set_cons_succ] at ha
        subst ha
        refine wpOp_off rfl rfl ?_
        simp only [Act.put, List.setIfInBounds_toArray, List.set_cons_zero, List.set_cons_succ, List.getD_cons_succ, List.getD_cons_zero] at hK
        exact hK.out undef _ trivial (sepEmp hS) hst
      · refine all23 fun z0 z1 z2 z3 z4 z5 z6 z7 z8 z9 z10 z11 z12 z13 z14 z15 z16 z17 z18 z19 z20 z21 z22 W L hv hS hst a ha K hK => ?_
        obtain ⟨v2, _⟩ := hv
        obtain rfl : z2 = _ := v2
        simp only [dagPut, Act.put, List.setIfInBounds_toArray, List.set_cons_zero, List.set_cons_succ] at ha
        subst ha
        refine wpOp_off rfl rfl ?_
        simp only [Act.put, List.setIfInBounds_toArray, List.set_cons_zero, List.set_cons_succ, List.getD_cons_succ, List.getD_cons_zero] at hK
        exact hK.out undef _ trivial (sepEmp hS) hst
      · refine all23 fun z0 z1 z2 z3 z4 z5 z6 z7 z8 z9 z10 z11 z12 z13 z14 z15 z16 z17 z18 z19 z20 z21 z22 W L hv hS hst a ha K hK => ?_
        obtain ⟨v2, _⟩ := hv
        obtain rfl : z2 = _ := v2
        simp only [dagPut, Act.put, List.setIfInBounds_toArray, List.set_cons_zero, List.set_cons_succ] at ha
        subst ha
        refine wpOp_off rfl rfl ?_
        simp only [Act.put, List.setIfInBounds_toArray, List.set_cons_zero, List.set_cons_succ, List.getD_cons_succ, List.getD_cons_zero] at hK
        exact hK.out undef _ trivial (sepEmp hS) hst
      · refine all23 fun z0 z1 z2 z3 z4 z5 z6 z7 z8 z9 z10 z11 z12 z13 z14 z15 z16 z17 z18 z19 z20 z21 z22 W L hv hS hst a ha K hK => ?_
        obtain ⟨v2, _⟩ := hv
        obtain rfl : z2 = _ := v2
        simp only [dagPut, Act.put, List.setIfInBounds_toArray, List.set_cons_zero, List.set_cons_succ] at ha
        subst ha
        refine wpOp_off rfl rfl ?_
        simp only [Act.put, List.setIfInBounds_toArray, List.set_cons_zero, List.set_cons_succ, List.getD_cons_succ, List.getD_cons_zero] at hK
        exact hK.out undef _ trivial (sepEmp hS) hst
      · refine all23 fun z0 z1 z2 z3 z4 z5 z6 z7 z8 z9 z10 z11 z12 z13 z14 z15 z16 z17 z18 z19 z20 z21 z22 W L hv hS hst a ha K hK => ?_
        obtain ⟨v2, _⟩ := hv
        obtain rfl : z2 = _ := v2
        simp only [dagPut, Act.put, List.setIfInBounds_toArray, List.set_cons_zero, List.set_cons_succ] at ha
        subst ha
        refine wpOp_off rfl rfl ?_
        simp only [Act.put, List.setIfInBounds_toArray, List.set_cons_zero, List.set_cons_succ, List.getD_cons_succ, List.getD_cons_zero] at hK
        exact hK.out undef _ trivial (sepEmp hS) hst
      · refine all23 fun z0 z1 z2 z3 z4 z5 z6 z7 z8 z9 z10 z11 z12 z13 z14 z15 z16 z17 z18 z19 z20 z21 z22 W L hv hS hst a ha K hK => ?_
        obtain ⟨v2, _⟩ := hv
        obtain rfl : z2 = _ := v2
        simp only [dagPut, Act.put, List.setIfInBounds_toArray, List.set_cons_zero, List.set_cons_succ] at ha
        subst ha
        refine wpOp_off rfl rfl ?_
        simp only [Act.put, List.setIfInBounds_toArray, List.set_cons_zero, List.set_cons_succ, List.getD_cons_succ, List.getD_cons_zero] at hK
        exact hK.out undef _ trivial (sepEmp hS) hst
      · refine all23 fun z0 z1 z2 z3 z4 z5 z6 z7 z8 z9 z10 z11 z12 z13 z14 z15 z16 z17 z18 z19 z20 z21 z22 W L hv hS hst a ha K hK => ?_
        obtain ⟨v2, _⟩ := hv
        obtain rfl : z2 = _ := v2
        simp only [dagPut, Act.put, List.setIfInBounds_toArray, List.set_cons_zero, List.set_cons_succ] at ha
        subst ha
        refine wpOp_off rfl rfl ?_
        simp only [Act.put, List.setIfInBounds_toArray, List.set_cons_zero, List.set_cons_succ, List.getD_cons_succ, List.getD_cons_zero] at hK
        exact hK.out undef _ trivial (sepEmp hS) hst
      · refine all23 fun z0 z1 z2 z3 z4 z5 z6 z7 z8 z9 z10 z11 z12 z13 z14 z15 z16 z17 z18 z19 z20 z21 z22 W L hv hS hst a ha K hK => ?_
        obtain ⟨v2, _⟩ := hv
        obtain rfl : z2 = _ := v2
        simp only [dagPut, Act.put, List.setIfInBounds_toArray, List.set_cons_zero, List.set_cons_succ] at ha
        subst ha
        refine wpOp_off rfl rfl ?_
        simp only [Act.put, List.setIfInBounds_toArray, List.set_cons_zero, List.set_cons_succ, List.getD_cons_succ, List.getD_cons_zero] at hK
        exact hK.out undef _ trivial (sepEmp hS) hst
      · refine all23 fun z0 z1 z2 z3 z4 z5 z6 z7 z8 z9 z10 z11 z12 z13 z14 z15 z16 z17 z18 z19 z20 z21 z22 W L hv hS hst a ha K hK => ?_
        obtain ⟨v2, v11, _⟩ := hv
        obtain rfl : z2 = _ := v2
        simp only [dagPut, Act.put, List.setIfInBounds_toArray, List.set_cons_zero, List.set_cons_succ] at ha
        subst ha
        refine wpOp_plain rfl rfl ?_
        simp only [Act.put, List.setIfInBounds_toArray, List.set_cons_zero, List.set_cons_succ, List.getD_cons_succ, List.getD_cons_zero] at hK
        go_simp
        exact hK.out _ _ rfl (sepEmp hS) hst
      · refine all23 fun z0 z1 z2 z3 z4 z5 z6 z7 z8 z9 z10 z11 z12 z13 z14 z15 z16 z17 z18 z19 z20 z21 z22 W L hv hS hst a ha K hK => ?_
        obtain ⟨v12, _⟩ := hv
        obtain rfl : z12 = _ := v12
        simp only [dagPut, Act.put, List.setIfInBounds_toArray, List.set_cons_zero, List.set_cons_succ] at ha
        subst ha
        refine wpOp_plain rfl rfl ?_
        simp only [Act.put, List.setIfInBounds_toArray, List.set_cons_zero, List.set_cons_succ, List.getD_cons_succ, List.getD_cons_zero] at hK
        go_simp
        exact hK.out _ _ rfl (sepEmp hS) hst
      · refine all23 fun z0 z1 z2 z3 z4 z5 z6 z7 z8 z9 z10 z11 z12 z13 z14 z15 z16 z17 z18 z19 z20 z21 z22 W L hv hS hst a ha K hK => ?_
        obtain ⟨v13, _⟩ := hv
        obtain rfl : z13 = _ := v13
        simp only [dagPut, Act.put, List.setIfInBounds_toArray, List.set_cons_zero, List.set_cons_succ] at ha
        subst ha
        refine wpOp_off rfl rfl ?_
        simp only [Act.put, List.setIfInBounds_toArray, List.set_cons_zero, List.set_cons_succ, List.getD_cons_succ, List.getD_cons_zero] at hK
        exact hK.out undef _ trivial (sepEmp hS) hst
      · refine all23 fun z0 z1 z2 z3 z4 z5 z6 z7 z8 z9 z10 z11 z12 z13 z14 z15 z16 z17 z18 z19 z20 z21 z22 W L hv hS hst a ha K hK => ?_
        obtain ⟨v13, _⟩ := hv
        obtain rfl : z13 = _ := v13
        simp only [dagPut, Act.put, List.setIfInBounds_toArray, List.set_cons_zero, List.set_cons_succ] at ha
        subst ha
        refine wpOp_off rfl rfl ?_
        simp only [Act.put, List.setIfInBounds_toArray, List.set_cons_zero, List.set_cons_succ, List.getD_cons_succ, List.getD_cons_zero] at hK
        exact hK.out undef _ trivial (sepEmp hS) hst
      · refine all23 fun z0 z1 z2 z3 z4 z5 z6 z7 z8 z9 z10 z11 z12 z13 z14 z15 z16 z17 z18 z19 z20 z21 z22 W L hv hS hst a ha K hK => ?_
        obtain ⟨v13, _⟩ := hv
        obtain rfl : z13 = _ := v13
        simp only [dagPut, Act.put, List.setIfInBounds_toArray, List.set_cons_zero, List.set_cons_succ] at ha
        subst ha
        refine wpOp_off rfl rfl ?_
        simp only [Act.put, List.setIfInBounds_toArray, List.set_cons_zero, List.set_cons_succ, List.getD_cons_succ, List.getD_cons_zero] at hK
        exact hK.out undef _ trivial (sepEmp hS) hst
      · refine all23 fun z0 z1 z2 z3 z4 z5 z6 z7 z8 z9 z10 z11 z12 z13 z14 z15 z16 z17 z18 z19 z20 z21 z22 W L hv hS hst a ha K hK => ?_
        obtain ⟨v13, _⟩ := hv
        obtain rfl : z13 = _ := v13
        simp only [dagPut, Act.put, List.setIfInBounds_toArray, List.set_cons_zero, List.set_cons_succ] at ha
        subst ha
        refine wpOp_off rfl rfl ?_
        simp only [Act.put, List.setIfInBounds_toArray, List.set_cons_zero, List.set_cons_succ, List.getD_cons_succ, List.getD_cons_zero] at hK
        exact hK.out undef _ trivial (sepEmp hS) hst
      · refine all23 fun z0 z1 z2 z3 z4 z5 z6 z7 z8 z9 z10 z11 z12 z13 z14 z15 z16 z17 z18 z19 z20 z21 z22 W L hv hS hst a ha K hK => ?_
        obtain ⟨v13, _⟩ := hv
        obtain rfl : z13 = _ := v13
        simp only [dagPut, Act.put, List.setIfInBounds_toArray, List.set_cons_zero, List.set_cons_succ] at ha
        subst ha
        refine wpOp_off rfl rfl ?_
        simp only [Act.put, List.setIfInBounds_toArray, List.set_cons_zero, List.set_cons_succ, List.getD_cons_succ, List.getD_cons_zero] at hK
        exact hK.out undef _ trivial (sepEmp hS) hst
      · refine all23 fun z0 z1 z2 z3 z4 z5 z6 z7 z8 z9 z10 z11 z12 z13 z14 z15 z16 z17 z18 z19 z20 z21 z22 W L hv hS hst a ha K hK => ?_
        obtain ⟨v13, _⟩ := hv
        obtain rfl : z13 = _ := v13
        simp only [dagPut, Act.put, List.setIfInBounds_toArray, List.set_cons_zero, List.set_cons_succ] at ha
        subst ha
        refine wpOp_off rfl rfl ?_
        simp only [Act.put, List.setIfInBounds_toArray, List.set_cons_zero, List.set_cons_succ, List.getD_cons_succ, List.getD_cons_zero] at hK
        exact hK.out undef _ trivial (sepEmp hS) hst
      · refine all23 fun z0 z1 z2 z3 z4 z5 z6 z7 z8 z9 z10 z11 z12 z13 z14 z15 z16 z17 z18 z19 z20 z21 z22 W L hv hS hst a ha K hK => ?_
        obtain ⟨v13, _⟩ := hv
        obtain rfl : z13 = _ := v13
        simp only [dagPut, Act.put, List.setIfInBounds_toArray, List.set_cons_zero, List.set_cons_succ] at ha
        subst ha
        refine wpOp_off rfl rfl ?_
        simp only [Act.put, List.setIfInBounds_toArray, List.set_cons_zero, List.set_cons_succ, List.getD_cons_succ, List.getD_cons_zero] at hK
        exact hK.out undef _ trivial (sepEmp hS) hst
      · refine all23 fun z0 z1 z2 z3 z4 z5 z6 z7 z8 z9 z10 z11 z12 z13 z14 z15 z16 z17 z18 z19 z20 z21 z22 W L hv hS hst a ha K hK => ?_
        obtain ⟨v13, v20, _⟩ := hv
        obtain rfl : z13 = _ := v13
        simp only [dagPut, Act.put, List.setIfInBounds_toArray, List.set_cons_zero, List.set_cons_succ] at ha
        subst ha
        refine wpOp_plain rfl rfl ?_
        simp only [Act.put, List.setIfInBounds_toArray, List.set_cons_zero, List.set_cons_succ, List.getD_cons_succ, List.getD_cons_zero] at hK
        go_simp
        exact hK.out _ _ rfl (sepEmp hS) hst
      · refine all23 fun z0 z1 z2 z3 z4 z5 z6 z7 z8 z9 z10 z11 z12 z13 z14 z15 z16 z17 z18 z19 z20 z21 z22 W L hv hS hst a ha K hK => ?_
        obtain ⟨v21, _⟩ := hv
        obtain rfl : z21 = _ := v21
        simp only [dagPut, Act.put, List.setIfInBounds_toArray, List.set_cons_zero, List.set_cons_succ] at ha
        subst ha
        refine wpOp_plain rfl rfl ?_
        simp only [Act.put, List.setIfInBounds_toArray, List.set_cons_zero, List.set_cons_succ, List.getD_cons_succ, List.getD_cons_zero] at hK
        go_simp
        exact hK.out _ _ rfl (sepEmp hS) hst
      · refine all23 fun z0 z1 z2 z3 z4 z5 z6 z7 z8 z9 z10 z11 z12 z13 z14 z15 z16 z17 z18 z19 z20 z21 z22 W hv hS hst a ha => ?_
        obtain ⟨⟨⟨⟨⟨⟨⟨⟨⟨⟨⟨⟨⟨⟨⟨⟨⟨⟨⟨⟨⟨⟨⟨_, v0⟩, v1⟩, v2⟩, v3⟩, v4⟩, v5⟩, v6⟩, v7⟩, v8⟩, v9⟩, v10⟩, v11⟩, v12⟩, v13⟩, v14⟩, v15⟩, v16⟩, v17⟩, v18⟩, v19⟩, v20⟩, v21⟩, v22⟩ := hv
        obtain rfl : z0 = _ := v0
        obtain rfl : z1 = _ := v1
        obtain rfl : z2 = _ := v2
        obtain rfl : z12 = _ := v12
        obtain rfl : z13 = _ := v13
        obtain rfl : z21 = _ := v21
        obtain rfl : z22 = _ := v22
        simp only [dagPut, Act.put, List.setIfInBounds_toArray, List.set_cons_zero, List.set_cons_succ] at ha; subst ha
        go_wp2_with fail
        go_ret
        first | exact ⟨congrArg (fun b => Ending.returned (.bool b)) (HE).out.symm, hS.drop.drop.drop, hst⟩ | exact ⟨rfl, hS.drop.drop.drop, hst⟩
    · obtain ⟨bn, rfl⟩ : ∃ bn : Nat, b = bn := ⟨b.toNat, by omega⟩
      have hbn : bn < 8 := by have := HB.out.2.2; omega
      have hbit := bit_law (m := m) (i := bn) HB.out.1
      have hmb := HB.out.2.1 bn rfl
      cases hx : m.testBit bn with
      | false =>
        rw [hx] at hbit hmb
        have he : (decide (0 ≤ a) && (decide (0 ≤ (bn : Int)) && (connB doors a bn && decide (r ≤ fog)))) = false := by
          rw [decide_eq_true (by omega : (0 : Int) ≤ (bn : Int)), Bool.true_and, ← Bool.and_assoc, ← hmb, Bool.false_and]
        have HE := Lib.hid he
        clear he hmb hx hb
        refine wp_region_dag (w0 := w) 23 [some 36, some 37, some 38, some 39, some 40, some 41, some 42, some 43, some 44, some 45, some 46, some 47, some 48, some 49, some 50, some 51, some 52, some 53, some 54, some 55, some 56, some 57, some 8] [.det [] (i64 bn), .det [0] (.bool true), .det [1] (.bool true), .det [2] (.agg #[i64 players, .slice ba nb bc, i64 x0, i64 y0, i64 x1, i64 y1, .slice ra rooms.length rc, .slice da doors.length dc, i64 fog, i64 gx, i64 gy, i64 push, i64 drag, i64 rest, i64 rounds, i64 fuel]), .det [2] (.agg #[i64 players, .slice ba nb bc, i64 x0, i64 y0, i64 x1, i64 y1, .slice ra rooms.length rc, .slice da doors.length dc, i64 fog, i64 gx, i64 gy, i64 push, i64 drag, i64 rest, i64 rounds, i64 fuel]), .det [2] (.agg #[i64 px, i64 py]), .det [4, 5, 2] (i64 a), .det [3, 6, 2] (.int .u64 (m : Int)), .det [2] (i64 bn), .det [7, 8, 2] (.int .u64 ((m : Int) / 2 ^ bn)), .det [9, 2] (.int .u64 (bits BinOp.and IntKind.u64 ((m : Int) / 2 ^ bn) 1)), .det [10, 2] (.bool false), .det [2, 11] (.bool false), .det [12] (.bool false), .any [13], .any [13], .any [13], .any [13], .any [13], .any [13], .any [13], .det [13, 20] (.bool false), .det [21] (.bool false)] [pts b9 (.cells #[i64 px, i64 py] 29), pts b10 (.cells #[i64 qx, i64 qy] 29), pts w.heap.size (.cells #[i64 players, .slice ba nb bc, i64 x0, i64 y0, i64 x1, i64 y1, .slice ra rooms.length rc, .slice da doors.length dc, i64 fog, i64 gx, i64 gy, i64 push, i64 drag, i64 rest, i64 rounds, i64 fuel] 31), old w] [] rfl (by kernel_rfl) (by kernel_rfl) (by kernel_rfl) (by kernel_rfl) (H6.out.1) (H6.out.2) ⟨⟨⟨⟨⟨⟨⟨⟨⟨⟨⟨⟨⟨⟨⟨⟨⟨⟨⟨⟨⟨⟨⟨trivial, ?_⟩, ?_⟩, ?_⟩, ?_⟩, ?_⟩, ?_⟩, ?_⟩, ?_⟩, ?_⟩, ?_⟩, ?_⟩, ?_⟩, ?_⟩, ?_⟩, ?_⟩, ?_⟩, ?_⟩, ?_⟩, ?_⟩, ?_⟩, ?_⟩, ?_⟩, ?_⟩ ?_
        · refine all23 fun z0 z1 z2 z3 z4 z5 z6 z7 z8 z9 z10 z11 z12 z13 z14 z15 z16 z17 z18 z19 z20 z21 z22 W L hv hS hst a ha K hK => ?_
          simp only [dagPut, Act.put, List.setIfInBounds_toArray, List.set_cons_zero, List.set_cons_succ] at ha
          subst ha
          refine wpOp_plain rfl rfl ?_
          simp only [Act.put, List.setIfInBounds_toArray, List.set_cons_zero, List.set_cons_succ, List.getD_cons_zero] at hK
          go_simp
          exact hK.out _ _ rfl (sepEmp hS) hst
        · refine all23 fun z0 z1 z2 z3 z4 z5 z6 z7 z8 z9 z10 z11 z12 z13 z14 z15 z16 z17 z18 z19 z20 z21 z22 W L hv hS hst a ha K hK => ?_
          obtain ⟨v0, _⟩ := hv
          obtain rfl : z0 = _ := v0
          simp only [dagPut, Act.put, List.setIfInBounds_toArray, List.set_cons_zero, List.set_cons_succ] at ha
          subst ha
          refine wpOp_plain rfl rfl ?_
          simp only [Act.put, List.setIfInBounds_toArray, List.set_cons_zero, List.set_cons_succ, List.getD_cons_succ, List.getD_cons_zero] at hK
          go_simp
          exact hK.out _ _ rfl (sepEmp hS) hst
        · refine all23 fun z0 z1 z2 z3 z4 z5 z6 z7 z8 z9 z10 z11 z12 z13 z14 z15 z16 z17 z18 z19 z20 z21 z22 W L hv hS hst a ha K hK => ?_
          obtain ⟨v1, _⟩ := hv
          obtain rfl : z1 = _ := v1
          simp only [dagPut, Act.put, List.setIfInBounds_toArray, List.set_cons_zero, List.set_cons_succ] at ha
          subst ha
          refine wpOp_plain rfl rfl ?_
          simp only [Act.put, List.setIfInBounds_toArray, List.set_cons_zero, List.set_cons_succ, List.getD_cons_succ, List.getD_cons_zero] at hK
          go_simp
          exact hK.out _ _ rfl (sepEmp hS) hst
        · refine all23 fun z0 z1 z2 z3 z4 z5 z6 z7 z8 z9 z10 z11 z12 z13 z14 z15 z16 z17 z18 z19 z20 z21 z22 W L hv hS hst a ha K hK => ?_
          obtain ⟨v2, _⟩ := hv
          obtain rfl : z2 = _ := v2
          simp only [dagPut, Act.put, List.setIfInBounds_toArray, List.set_cons_zero, List.set_cons_succ] at ha
          subst ha
          refine wpOp_on rfl rfl ?_
          simp only [Act.put, List.setIfInBounds_toArray, List.set_cons_zero, List.set_cons_succ, List.getD_cons_succ, List.getD_cons_zero] at hK
          refine wp_load_row 31 _ rfl _ rfl _ _ _ _ (Sep.get (L := _) (Sep.pick 2 hS)) Try.underlying31 rfl (by kernel_rfl) ?_
          exact hK.out _ _ rfl (sepEmp hS) hst
        · refine all23 fun z0 z1 z2 z3 z4 z5 z6 z7 z8 z9 z10 z11 z12 z13 z14 z15 z16 z17 z18 z19 z20 z21 z22 W L hv hS hst a ha K hK => ?_
          obtain ⟨v2, _⟩ := hv
          obtain rfl : z2 = _ := v2
          simp only [dagPut, Act.put, List.setIfInBounds_toArray, List.set_cons_zero, List.set_cons_succ] at ha
          subst ha
          refine wpOp_on rfl rfl ?_
          simp only [Act.put, List.setIfInBounds_toArray, List.set_cons_zero, List.set_cons_succ, List.getD_cons_succ, List.getD_cons_zero] at hK
          refine wp_load_row 31 _ rfl _ rfl _ _ _ _ (Sep.get (L := _) (Sep.pick 2 hS)) Try.underlying31 rfl (by kernel_rfl) ?_
          exact hK.out _ _ rfl (sepEmp hS) hst
        · refine all23 fun z0 z1 z2 z3 z4 z5 z6 z7 z8 z9 z10 z11 z12 z13 z14 z15 z16 z17 z18 z19 z20 z21 z22 W L hv hS hst a ha K hK => ?_
          obtain ⟨v2, _⟩ := hv
          obtain rfl : z2 = _ := v2
          simp only [dagPut, Act.put, List.setIfInBounds_toArray, List.set_cons_zero, List.set_cons_succ] at ha
          subst ha
          refine wpOp_on rfl rfl ?_
          simp only [Act.put, List.setIfInBounds_toArray, List.set_cons_zero, List.set_cons_succ, List.getD_cons_succ, List.getD_cons_zero] at hK
          refine wp_load_row 29 _ rfl _ rfl _ _ _ _ (Sep.get (L := _) (hS)) Try.underlying29 rfl (by kernel_rfl) ?_
          exact hK.out _ _ rfl (sepEmp hS) hst
        · refine all23 fun z0 z1 z2 z3 z4 z5 z6 z7 z8 z9 z10 z11 z12 z13 z14 z15 z16 z17 z18 z19 z20 z21 z22 W L hv hS hst a ha K hK => ?_
          obtain ⟨v4, v5, v2, _⟩ := hv
          obtain rfl : z4 = _ := v4
          obtain rfl : z5 = _ := v5
          obtain rfl : z2 = _ := v2
          simp only [dagPut, Act.put, List.setIfInBounds_toArray, List.set_cons_zero, List.set_cons_succ] at ha
          subst ha
          refine wpOp_on rfl rfl ?_
          simp only [Act.put, List.setIfInBounds_toArray, List.set_cons_zero, List.set_cons_succ, List.getD_cons_succ, List.getD_cons_zero] at hK
          go_simp
          refine (HR.out.1 W _ (Sep.pick 3 hS)).mono ?_
          rintro e w3 ⟨rfl, hS3, hst3⟩
          exact hK.out _ _ rfl (sepEmp (Sep.mount (M := []) hS hS3)) (hst.trans hst3)
        · refine all23 fun z0 z1 z2 z3 z4 z5 z6 z7 z8 z9 z10 z11 z12 z13 z14 z15 z16 z17 z18 z19 z20 z21 z22 W L hv hS hst a ha K hK => ?_
          obtain ⟨v3, v6, v2, _⟩ := hv
          obtain rfl : z3 = _ := v3
          obtain rfl : z6 = _ := v6
          obtain rfl : z2 = _ := v2
          simp only [dagPut, Act.put, List.setIfInBounds_toArray, List.set_cons_zero, List.set_cons_succ] at ha
          subst ha
          refine wpOp_on rfl rfl ?_
          simp only [Act.put, List.setIfInBounds_toArray, List.set_cons_zero, List.set_cons_succ, List.getD_cons_succ, List.getD_cons_zero] at hK
          go_simp
          refine (HR.out.2.2 W _ (Sep.pick 3 hS)).mono ?_
          rintro e w3 ⟨rfl, hS3, hst3⟩
          exact hK.out _ _ rfl (sepEmp (Sep.mount (M := []) hS hS3)) (hst.trans hst3)
        · refine all23 fun z0 z1 z2 z3 z4 z5 z6 z7 z8 z9 z10 z11 z12 z13 z14 z15 z16 z17 z18 z19 z20 z21 z22 W L hv hS hst a ha K hK => ?_
          obtain ⟨v2, _⟩ := hv
          obtain rfl : z2 = _ := v2
          simp only [dagPut, Act.put, List.setIfInBounds_toArray, List.set_cons_zero, List.set_cons_succ] at ha
          subst ha
          refine wpOp_on rfl rfl ?_
          simp only [Act.put, List.setIfInBounds_toArray, List.set_cons_zero, List.set_cons_succ, List.getD_cons_succ, List.getD_cons_zero] at hK
          go_simp
          exact hK.out _ _ rfl (sepEmp hS) hst
        · refine all23 fun z0 z1 z2 z3 z4 z5 z6 z7 z8 z9 z10 z11 z12 z13 z14 z15 z16 z17 z18 z19 z20 z21 z22 W L hv hS hst a ha K hK => ?_
          obtain ⟨v7, v8, v2, _⟩ := hv
          obtain rfl : z7 = _ := v7
          obtain rfl : z8 = _ := v8
          obtain rfl : z2 = _ := v2
          simp only [dagPut, Act.put, List.setIfInBounds_toArray, List.set_cons_zero, List.set_cons_succ] at ha
          subst ha
          refine wpOp_on rfl rfl ?_
          simp only [Act.put, List.setIfInBounds_toArray, List.set_cons_zero, List.set_cons_succ, List.getD_cons_succ, List.getD_cons_zero] at hK
          go_simp
          exact hK.out _ _ rfl (sepEmp hS) hst
        · refine all23 fun z0 z1 z2 z3 z4 z5 z6 z7 z8 z9 z10 z11 z12 z13 z14 z15 z16 z17 z18 z19 z20 z21 z22 W L hv hS hst a ha K hK => ?_
          obtain ⟨v9, v2, _⟩ := hv
          obtain rfl : z9 = _ := v9
          obtain rfl : z2 = _ := v2
          simp only [dagPut, Act.put, List.setIfInBounds_toArray, List.set_cons_zero, List.set_cons_succ] at ha
          subst ha
          refine wpOp_on rfl rfl ?_
          simp only [Act.put, List.setIfInBounds_toArray, List.set_cons_zero, List.set_cons_succ, List.getD_cons_succ, List.getD_cons_zero] at hK
          go_simp
          exact hK.out _ _ rfl (sepEmp hS) hst
        · refine all23 fun z0 z1 z2 z3 z4 z5 z6 z7 z8 z9 z10 z11 z12 z13 z14 z15 z16 z17 z18 z19 z20 z21 z22 W L hv hS hst a ha K hK => ?_
          obtain ⟨v10, v2, _⟩ := hv
          obtain rfl : z10 = _ := v10
          obtain rfl : z2 = _ := v2
          simp only [dagPut, Act.put, List.setIfInBounds_toArray, List.set_cons_zero, List.set_cons_succ] at ha
          subst ha
          refine wpOp_on rfl rfl ?_
          simp only [Act.put, List.setIfInBounds_toArray, List.set_cons_zero, List.set_cons_succ, List.getD_cons_succ, List.getD_cons_zero] at hK
          go_simp
          exact hK.out _ _ rfl (sepEmp hS) hst
        · refine all23 fun z0 z1 z2 z3 z4 z5 z6 z7 z8 z9 z10 z11 z12 z13 z14 z15 z16 z17 z18 z19 z20 z21 z22 W L hv hS hst a ha K hK => ?_
          obtain ⟨v2, v11, _⟩ := hv
          obtain rfl : z2 = _ := v2
          obtain rfl : z11 = _ := v11
          simp only [dagPut, Act.put, List.setIfInBounds_toArray, List.set_cons_zero, List.set_cons_succ] at ha
          subst ha
          refine wpOp_plain rfl rfl ?_
          simp only [Act.put, List.setIfInBounds_toArray, List.set_cons_zero, List.set_cons_succ, List.getD_cons_succ, List.getD_cons_zero] at hK
          go_simp
          exact hK.out _ _ rfl (sepEmp hS) hst
        · refine all23 fun z0 z1 z2 z3 z4 z5 z6 z7 z8 z9 z10 z11 z12 z13 z14 z15 z16 z17 z18 z19 z20 z21 z22 W L hv hS hst a ha K hK => ?_
          obtain ⟨v12, _⟩ := hv
          obtain rfl : z12 = _ := v12
          simp only [dagPut, Act.put, List.setIfInBounds_toArray, List.set_cons_zero, List.set_cons_succ] at ha
          subst ha
          refine wpOp_plain rfl rfl ?_
          simp only [Act.put, List.setIfInBounds_toArray, List.set_cons_zero, List.set_cons_succ, List.getD_cons_succ, List.getD_cons_zero] at hK
          go_simp
          exact hK.out _ _ rfl (sepEmp hS) hst
        · refine all23 fun z0 z1 z2 z3 z4 z5 z6 z7 z8 z9 z10 z11 z12 z13 z14 z15 z16 z17 z18 z19 z20 z21 z22 W L hv hS hst a ha K hK => ?_
          obtain ⟨v13, _⟩ := hv
          obtain rfl : z13 = _ := v13
          simp only [dagPut, Act.put, List.setIfInBounds_toArray, List.set_cons_zero, List.set_cons_succ] at ha
          subst ha
          refine wpOp_off rfl rfl ?_
          simp only [Act.put, List.setIfInBounds_toArray, List.set_cons_zero, List.set_cons_succ, List.getD_cons_succ, List.getD_cons_zero] at hK
          exact hK.out undef _ trivial (sepEmp hS) hst
        · refine all23 fun z0 z1 z2 z3 z4 z5 z6 z7 z8 z9 z10 z11 z12 z13 z14 z15 z16 z17 z18 z19 z20 z21 z22 W L hv hS hst a ha K hK => ?_
          obtain ⟨v13, _⟩ := hv
          obtain rfl : z13 = _ := v13
          simp only [dagPut, Act.put, List.setIfInBounds_toArray, List.set_cons_zero, List.set_cons_succ] at ha
          subst ha
          refine wpOp_off rfl rfl ?_
          simp only [Act.put, List.setIfInBounds_toArray, List.set_cons_zero, List.set_cons_succ, List.getD_cons_succ, List.getD_cons_zero] at hK
          exact hK.out undef _ trivial (sepEmp hS) hst
        · refine all23 fun z0 z1 z2 z3 z4 z5 z6 z7 z8 z9 z10 z11 z12 z13 z14 z15 z16 z17 z18 z19 z20 z21 z22 W L hv hS hst a ha K hK => ?_
          obtain ⟨v13, _⟩ := hv
          obtain rfl : z13 = _ := v13
          simp only [dagPut, Act.put, List.setIfInBounds_toArray, List.set_cons_zero, List.set_cons_succ] at ha
          subst ha
          refine wpOp_off rfl rfl ?_
          simp only [Act.put, List.setIfInBounds_toArray, List.set_cons_zero, List.set_cons_succ, List.getD_cons_succ, List.getD_cons_zero] at hK
          exact hK.out undef _ trivial (sepEmp hS) hst
        · refine all23 fun z0 z1 z2 z3 z4 z5 z6 z7 z8 z9 z10 z11 z12 z13 z14 z15 z16 z17 z18 z19 z20 z21 z22 W L hv hS hst a ha K hK => ?_
          obtain ⟨v13, _⟩ := hv
          obtain rfl : z13 = _ := v13
          simp only [dagPut, Act.put, List.setIfInBounds_toArray, List.set_cons_zero, List.set_cons_succ] at ha
          subst ha
          refine wpOp_off rfl rfl ?_
          simp only [Act.put, List.setIfInBounds_toArray, List.set_cons_zero, List.set_cons_succ, List.getD_cons_succ, List.getD_cons_zero] at hK
          exact hK.out undef _ trivial (sepEmp hS) hst
        · refine all23 fun z0 z1 z2 z3 z4 z5 z6 z7 z8 z9 z10 z11 z12 z13 z14 z15 z16 z17 z18 z19 z20 z21 z22 W L hv hS hst a ha K hK => ?_
          obtain ⟨v13, _⟩ := hv
          obtain rfl : z13 = _ := v13
          simp only [dagPut, Act.put, List.setIfInBounds_toArray, List.set_cons_zero, List.set_cons_succ] at ha
          subst ha
          refine wpOp_off rfl rfl ?_
          simp only [Act.put, List.setIfInBounds_toArray, List.set_cons_zero, List.set_cons_succ, List.getD_cons_succ, List.getD_cons_zero] at hK
          exact hK.out undef _ trivial (sepEmp hS) hst
        · refine all23 fun z0 z1 z2 z3 z4 z5 z6 z7 z8 z9 z10 z11 z12 z13 z14 z15 z16 z17 z18 z19 z20 z21 z22 W L hv hS hst a ha K hK => ?_
          obtain ⟨v13, _⟩ := hv
          obtain rfl : z13 = _ := v13
          simp only [dagPut, Act.put, List.setIfInBounds_toArray, List.set_cons_zero, List.set_cons_succ] at ha
          subst ha
          refine wpOp_off rfl rfl ?_
          simp only [Act.put, List.setIfInBounds_toArray, List.set_cons_zero, List.set_cons_succ, List.getD_cons_succ, List.getD_cons_zero] at hK
          exact hK.out undef _ trivial (sepEmp hS) hst
        · refine all23 fun z0 z1 z2 z3 z4 z5 z6 z7 z8 z9 z10 z11 z12 z13 z14 z15 z16 z17 z18 z19 z20 z21 z22 W L hv hS hst a ha K hK => ?_
          obtain ⟨v13, _⟩ := hv
          obtain rfl : z13 = _ := v13
          simp only [dagPut, Act.put, List.setIfInBounds_toArray, List.set_cons_zero, List.set_cons_succ] at ha
          subst ha
          refine wpOp_off rfl rfl ?_
          simp only [Act.put, List.setIfInBounds_toArray, List.set_cons_zero, List.set_cons_succ, List.getD_cons_succ, List.getD_cons_zero] at hK
          exact hK.out undef _ trivial (sepEmp hS) hst
        · refine all23 fun z0 z1 z2 z3 z4 z5 z6 z7 z8 z9 z10 z11 z12 z13 z14 z15 z16 z17 z18 z19 z20 z21 z22 W L hv hS hst a ha K hK => ?_
          obtain ⟨v13, v20, _⟩ := hv
          obtain rfl : z13 = _ := v13
          simp only [dagPut, Act.put, List.setIfInBounds_toArray, List.set_cons_zero, List.set_cons_succ] at ha
          subst ha
          refine wpOp_plain rfl rfl ?_
          simp only [Act.put, List.setIfInBounds_toArray, List.set_cons_zero, List.set_cons_succ, List.getD_cons_succ, List.getD_cons_zero] at hK
          go_simp
          exact hK.out _ _ rfl (sepEmp hS) hst
        · refine all23 fun z0 z1 z2 z3 z4 z5 z6 z7 z8 z9 z10 z11 z12 z13 z14 z15 z16 z17 z18 z19 z20 z21 z22 W L hv hS hst a ha K hK => ?_
          obtain ⟨v21, _⟩ := hv
          obtain rfl : z21 = _ := v21
          simp only [dagPut, Act.put, List.setIfInBounds_toArray, List.set_cons_zero, List.set_cons_succ] at ha
          subst ha
          refine wpOp_plain rfl rfl ?_
          simp only [Act.put, List.setIfInBounds_toArray, List.set_cons_zero, List.set_cons_succ, List.getD_cons_succ, List.getD_cons_zero] at hK
          go_simp
          exact hK.out _ _ rfl (sepEmp hS) hst
        · refine all23 fun z0 z1 z2 z3 z4 z5 z6 z7 z8 z9 z10 z11 z12 z13 z14 z15 z16 z17 z18 z19 z20 z21 z22 W hv hS hst a ha => ?_
          obtain ⟨⟨⟨⟨⟨⟨⟨⟨⟨⟨⟨⟨⟨⟨⟨⟨⟨⟨⟨⟨⟨⟨⟨_, v0⟩, v1⟩, v2⟩, v3⟩, v4⟩, v5⟩, v6⟩, v7⟩, v8⟩, v9⟩, v10⟩, v11⟩, v12⟩, v13⟩, v14⟩, v15⟩, v16⟩, v17⟩, v18⟩, v19⟩, v20⟩, v21⟩, v22⟩ := hv
          obtain rfl : z0 = _ := v0
          obtain rfl : z1 = _ := v1
          obtain rfl : z2 = _ := v2
          obtain rfl : z3 = _ := v3
          obtain rfl : z4 = _ := v4
          obtain rfl : z5 = _ := v5
          obtain rfl : z6 = _ := v6
          obtain rfl : z7 = _ := v7
          obtain rfl : z8 = _ := v8
          obtain rfl : z9 = _ := v9
          obtain rfl : z10 = _ := v10
          obtain rfl : z11 = _ := v11
          obtain rfl : z12 = _ := v12
          obtain rfl : z13 = _ := v13
          obtain rfl : z21 = _ := v21
          obtain rfl : z22 = _ := v22
          simp only [dagPut, Act.put, List.setIfInBounds_toArray, List.set_cons_zero, List.set_cons_succ] at ha; subst ha
          go_wp2_with fail
          go_ret
          first | exact ⟨congrArg (fun b => Ending.returned (.bool b)) (HE).out.symm, hS.drop.drop.drop, hst⟩ | exact ⟨rfl, hS.drop.drop.drop, hst⟩
      | true =>
        rw [hx] at hbit hmb
        have he : (decide (0 ≤ a) && (decide (0 ≤ (bn : Int)) && (connB doors a bn && decide (r ≤ fog)))) = decide (r ≤ fog) := by
          rw [decide_eq_true (by omega : (0 : Int) ≤ (bn : Int)), Bool.true_and, ← Bool.and_assoc, ← hmb, Bool.true_and]
        have HE := Lib.hid he
        clear he hmb hx hb
        refine wp_region_dag (w0 := w) 23 [some 36, some 37, some 38, some 39, some 40, some 41, some 42, some 43, some 44, some 45, some 46, some 47, some 48, some 49, some 50, some 51, some 52, some 53, some 54, some 55, some 56, some 57, some 8] [.det [] (i64 bn), .det [0] (.bool true), .det [1] (.bool true), .det [2] (.agg #[i64 players, .slice ba nb bc, i64 x0, i64 y0, i64 x1, i64 y1, .slice ra rooms.length rc, .slice da doors.length dc, i64 fog, i64 gx, i64 gy, i64 push, i64 drag, i64 rest, i64 rounds, i64 fuel]), .det [2] (.agg #[i64 players, .slice ba nb bc, i64 x0, i64 y0, i64 x1, i64 y1, .slice ra rooms.length rc, .slice da doors.length dc, i64 fog, i64 gx, i64 gy, i64 push, i64 drag, i64 rest, i64 rounds, i64 fuel]), .det [2] (.agg #[i64 px, i64 py]), .det [4, 5, 2] (i64 a), .det [3, 6, 2] (.int .u64 (m : Int)), .det [2] (i64 bn), .det [7, 8, 2] (.int .u64 ((m : Int) / 2 ^ bn)), .det [9, 2] (.int .u64 (bits BinOp.and IntKind.u64 ((m : Int) / 2 ^ bn) 1)), .det [10, 2] (.bool true), .det [2, 11] (.bool true), .det [12] (.bool true), .det [13] (.agg #[i64 qx, i64 qy]), .det [13] (.agg #[i64 px, i64 py]), .det [14, 15, 13] (.agg #[i64 (qx - px), i64 (qy - py)]), .det [16, 13] (i64 r), .det [13] (.pointer (some ⟨w.heap.size, 8, none⟩)), .det [18, 13] (i64 fog), .det [17, 19, 13] (.bool (decide (r ≤ fog))), .det [13, 20] (.bool (decide (r ≤ fog))), .det [21] (.bool (decide (r ≤ fog)))] [pts b9 (.cells #[i64 px, i64 py] 29), pts b10 (.cells #[i64 qx, i64 qy] 29), pts w.heap.size (.cells #[i64 players, .slice ba nb bc, i64 x0, i64 y0, i64 x1, i64 y1, .slice ra rooms.length rc, .slice da doors.length dc, i64 fog, i64 gx, i64 gy, i64 push, i64 drag, i64 rest, i64 rounds, i64 fuel] 31), old w] [] rfl (by kernel_rfl) (by kernel_rfl) (by kernel_rfl) (by kernel_rfl) (H6.out.1) (H6.out.2) ⟨⟨⟨⟨⟨⟨⟨⟨⟨⟨⟨⟨⟨⟨⟨⟨⟨⟨⟨⟨⟨⟨⟨trivial, ?_⟩, ?_⟩, ?_⟩, ?_⟩, ?_⟩, ?_⟩, ?_⟩, ?_⟩, ?_⟩, ?_⟩, ?_⟩, ?_⟩, ?_⟩, ?_⟩, ?_⟩, ?_⟩, ?_⟩, ?_⟩, ?_⟩, ?_⟩, ?_⟩, ?_⟩, ?_⟩ ?_
        · refine all23 fun z0 z1 z2 z3 z4 z5 z6 z7 z8 z9 z10 z11 z12 z13 z14 z15 z16 z17 z18 z19 z20 z21 z22 W L hv hS hst a ha K hK => ?_
          simp only [dagPut, Act.put, List.setIfInBounds_toArray, List.set_cons_zero, List.set_cons_succ] at ha
          subst ha
          refine wpOp_plain rfl rfl ?_
          simp only [Act.put, List.setIfInBounds_toArray, List.set_cons_zero, List.set_cons_succ, List.getD_cons_zero] at hK
          go_simp
          exact hK.out _ _ rfl (sepEmp hS) hst
        · refine all23 fun z0 z1 z2 z3 z4 z5 z6 z7 z8 z9 z10 z11 z12 z13 z14 z15 z16 z17 z18 z19 z20 z21 z22 W L hv hS hst a ha K hK => ?_
          obtain ⟨v0, _⟩ := hv
          obtain rfl : z0 = _ := v0
          simp only [dagPut, Act.put, List.setIfInBounds_toArray, List.set_cons_zero, List.set_cons_succ] at ha
          subst ha
          refine wpOp_plain rfl rfl ?_
          simp only [Act.put, List.setIfInBounds_toArray, List.set_cons_zero, List.set_cons_succ, List.getD_cons_succ, List.getD_cons_zero] at hK
          go_simp
          exact hK.out _ _ rfl (sepEmp hS) hst
        · refine all23 fun z0 z1 z2 z3 z4 z5 z6 z7 z8 z9 z10 z11 z12 z13 z14 z15 z16 z17 z18 z19 z20 z21 z22 W L hv hS hst a ha K hK => ?_
          obtain ⟨v1, _⟩ := hv
          obtain rfl : z1 = _ := v1
          simp only [dagPut, Act.put, List.setIfInBounds_toArray, List.set_cons_zero, List.set_cons_succ] at ha
          subst ha
          refine wpOp_plain rfl rfl ?_
          simp only [Act.put, List.setIfInBounds_toArray, List.set_cons_zero, List.set_cons_succ, List.getD_cons_succ, List.getD_cons_zero] at hK
          go_simp
          exact hK.out _ _ rfl (sepEmp hS) hst
        · refine all23 fun z0 z1 z2 z3 z4 z5 z6 z7 z8 z9 z10 z11 z12 z13 z14 z15 z16 z17 z18 z19 z20 z21 z22 W L hv hS hst a ha K hK => ?_
          obtain ⟨v2, _⟩ := hv
          obtain rfl : z2 = _ := v2
          simp only [dagPut, Act.put, List.setIfInBounds_toArray, List.set_cons_zero, List.set_cons_succ] at ha
          subst ha
          refine wpOp_on rfl rfl ?_
          simp only [Act.put, List.setIfInBounds_toArray, List.set_cons_zero, List.set_cons_succ, List.getD_cons_succ, List.getD_cons_zero] at hK
          refine wp_load_row 31 _ rfl _ rfl _ _ _ _ (Sep.get (L := _) (Sep.pick 2 hS)) Try.underlying31 rfl (by kernel_rfl) ?_
          exact hK.out _ _ rfl (sepEmp hS) hst
        · refine all23 fun z0 z1 z2 z3 z4 z5 z6 z7 z8 z9 z10 z11 z12 z13 z14 z15 z16 z17 z18 z19 z20 z21 z22 W L hv hS hst a ha K hK => ?_
          obtain ⟨v2, _⟩ := hv
          obtain rfl : z2 = _ := v2
          simp only [dagPut, Act.put, List.setIfInBounds_toArray, List.set_cons_zero, List.set_cons_succ] at ha
          subst ha
          refine wpOp_on rfl rfl ?_
          simp only [Act.put, List.setIfInBounds_toArray, List.set_cons_zero, List.set_cons_succ, List.getD_cons_succ, List.getD_cons_zero] at hK
          refine wp_load_row 31 _ rfl _ rfl _ _ _ _ (Sep.get (L := _) (Sep.pick 2 hS)) Try.underlying31 rfl (by kernel_rfl) ?_
          exact hK.out _ _ rfl (sepEmp hS) hst
        · refine all23 fun z0 z1 z2 z3 z4 z5 z6 z7 z8 z9 z10 z11 z12 z13 z14 z15 z16 z17 z18 z19 z20 z21 z22 W L hv hS hst a ha K hK => ?_
          obtain ⟨v2, _⟩ := hv
          obtain rfl : z2 = _ := v2
          simp only [dagPut, Act.put, List.setIfInBounds_toArray, List.set_cons_zero, List.set_cons_succ] at ha
          subst ha
          refine wpOp_on rfl rfl ?_
          simp only [Act.put, List.setIfInBounds_toArray, List.set_cons_zero, List.set_cons_succ, List.getD_cons_succ, List.getD_cons_zero] at hK
          refine wp_load_row 29 _ rfl _ rfl _ _ _ _ (Sep.get (L := _) (hS)) Try.underlying29 rfl (by kernel_rfl) ?_
          exact hK.out _ _ rfl (sepEmp hS) hst
        · refine all23 fun z0 z1 z2 z3 z4 z5 z6 z7 z8 z9 z10 z11 z12 z13 z14 z15 z16 z17 z18 z19 z20 z21 z22 W L hv hS hst a ha K hK => ?_
          obtain ⟨v4, v5, v2, _⟩ := hv
          obtain rfl : z4 = _ := v4
          obtain rfl : z5 = _ := v5
          obtain rfl : z2 = _ := v2
          simp only [dagPut, Act.put, List.setIfInBounds_toArray, List.set_cons_zero, List.set_cons_succ] at ha
          subst ha
          refine wpOp_on rfl rfl ?_
          simp only [Act.put, List.setIfInBounds_toArray, List.set_cons_zero, List.set_cons_succ, List.getD_cons_succ, List.getD_cons_zero] at hK
          go_simp
          refine (HR.out.1 W _ (Sep.pick 3 hS)).mono ?_
          rintro e w3 ⟨rfl, hS3, hst3⟩
          exact hK.out _ _ rfl (sepEmp (Sep.mount (M := []) hS hS3)) (hst.trans hst3)
        · refine all23 fun z0 z1 z2 z3 z4 z5 z6 z7 z8 z9 z10 z11 z12 z13 z14 z15 z16 z17 z18 z19 z20 z21 z22 W L hv hS hst a ha K hK => ?_
          obtain ⟨v3, v6, v2, _⟩ := hv
          obtain rfl : z3 = _ := v3
          obtain rfl : z6 = _ := v6
          obtain rfl : z2 = _ := v2
          simp only [dagPut, Act.put, List.setIfInBounds_toArray, List.set_cons_zero, List.set_cons_succ] at ha
          subst ha
          refine wpOp_on rfl rfl ?_
          simp only [Act.put, List.setIfInBounds_toArray, List.set_cons_zero, List.set_cons_succ, List.getD_cons_succ, List.getD_cons_zero] at hK
          go_simp
          refine (HR.out.2.2 W _ (Sep.pick 3 hS)).mono ?_
          rintro e w3 ⟨rfl, hS3, hst3⟩
          exact hK.out _ _ rfl (sepEmp (Sep.mount (M := []) hS hS3)) (hst.trans hst3)
        · refine all23 fun z0 z1 z2 z3 z4 z5 z6 z7 z8 z9 z10 z11 z12 z13 z14 z15 z16 z17 z18 z19 z20 z21 z22 W L hv hS hst a ha K hK => ?_
          obtain ⟨v2, _⟩ := hv
          obtain rfl : z2 = _ := v2
          simp only [dagPut, Act.put, List.setIfInBounds_toArray, List.set_cons_zero, List.set_cons_succ] at ha
          subst ha
          refine wpOp_on rfl rfl ?_
          simp only [Act.put, List.setIfInBounds_toArray, List.set_cons_zero, List.set_cons_succ, List.getD_cons_succ, List.getD_cons_zero] at hK
          go_simp
          exact hK.out _ _ rfl (sepEmp hS) hst
        · refine all23 fun z0 z1 z2 z3 z4 z5 z6 z7 z8 z9 z10 z11 z12 z13 z14 z15 z16 z17 z18 z19 z20 z21 z22 W L hv hS hst a ha K hK => ?_
          obtain ⟨v7, v8, v2, _⟩ := hv
          obtain rfl : z7 = _ := v7
          obtain rfl : z8 = _ := v8
          obtain rfl : z2 = _ := v2
          simp only [dagPut, Act.put, List.setIfInBounds_toArray, List.set_cons_zero, List.set_cons_succ] at ha
          subst ha
          refine wpOp_on rfl rfl ?_
          simp only [Act.put, List.setIfInBounds_toArray, List.set_cons_zero, List.set_cons_succ, List.getD_cons_succ, List.getD_cons_zero] at hK
          go_simp
          exact hK.out _ _ rfl (sepEmp hS) hst
        · refine all23 fun z0 z1 z2 z3 z4 z5 z6 z7 z8 z9 z10 z11 z12 z13 z14 z15 z16 z17 z18 z19 z20 z21 z22 W L hv hS hst a ha K hK => ?_
          obtain ⟨v9, v2, _⟩ := hv
          obtain rfl : z9 = _ := v9
          obtain rfl : z2 = _ := v2
          simp only [dagPut, Act.put, List.setIfInBounds_toArray, List.set_cons_zero, List.set_cons_succ] at ha
          subst ha
          refine wpOp_on rfl rfl ?_
          simp only [Act.put, List.setIfInBounds_toArray, List.set_cons_zero, List.set_cons_succ, List.getD_cons_succ, List.getD_cons_zero] at hK
          go_simp
          exact hK.out _ _ rfl (sepEmp hS) hst
        · refine all23 fun z0 z1 z2 z3 z4 z5 z6 z7 z8 z9 z10 z11 z12 z13 z14 z15 z16 z17 z18 z19 z20 z21 z22 W L hv hS hst a ha K hK => ?_
          obtain ⟨v10, v2, _⟩ := hv
          obtain rfl : z10 = _ := v10
          obtain rfl : z2 = _ := v2
          simp only [dagPut, Act.put, List.setIfInBounds_toArray, List.set_cons_zero, List.set_cons_succ] at ha
          subst ha
          refine wpOp_on rfl rfl ?_
          simp only [Act.put, List.setIfInBounds_toArray, List.set_cons_zero, List.set_cons_succ, List.getD_cons_succ, List.getD_cons_zero] at hK
          go_simp
          exact hK.out _ _ rfl (sepEmp hS) hst
        · refine all23 fun z0 z1 z2 z3 z4 z5 z6 z7 z8 z9 z10 z11 z12 z13 z14 z15 z16 z17 z18 z19 z20 z21 z22 W L hv hS hst a ha K hK => ?_
          obtain ⟨v2, v11, _⟩ := hv
          obtain rfl : z2 = _ := v2
          obtain rfl : z11 = _ := v11
          simp only [dagPut, Act.put, List.setIfInBounds_toArray, List.set_cons_zero, List.set_cons_succ] at ha
          subst ha
          refine wpOp_plain rfl rfl ?_
          simp only [Act.put, List.setIfInBounds_toArray, List.set_cons_zero, List.set_cons_succ, List.getD_cons_succ, List.getD_cons_zero] at hK
          go_simp
          exact hK.out _ _ rfl (sepEmp hS) hst
        · refine all23 fun z0 z1 z2 z3 z4 z5 z6 z7 z8 z9 z10 z11 z12 z13 z14 z15 z16 z17 z18 z19 z20 z21 z22 W L hv hS hst a ha K hK => ?_
          obtain ⟨v12, _⟩ := hv
          obtain rfl : z12 = _ := v12
          simp only [dagPut, Act.put, List.setIfInBounds_toArray, List.set_cons_zero, List.set_cons_succ] at ha
          subst ha
          refine wpOp_plain rfl rfl ?_
          simp only [Act.put, List.setIfInBounds_toArray, List.set_cons_zero, List.set_cons_succ, List.getD_cons_succ, List.getD_cons_zero] at hK
          go_simp
          exact hK.out _ _ rfl (sepEmp hS) hst
        · refine all23 fun z0 z1 z2 z3 z4 z5 z6 z7 z8 z9 z10 z11 z12 z13 z14 z15 z16 z17 z18 z19 z20 z21 z22 W L hv hS hst a ha K hK => ?_
          obtain ⟨v13, _⟩ := hv
          obtain rfl : z13 = _ := v13
          simp only [dagPut, Act.put, List.setIfInBounds_toArray, List.set_cons_zero, List.set_cons_succ] at ha
          subst ha
          refine wpOp_on rfl rfl ?_
          simp only [Act.put, List.setIfInBounds_toArray, List.set_cons_zero, List.set_cons_succ, List.getD_cons_succ, List.getD_cons_zero] at hK
          refine wp_load_row 29 _ rfl _ rfl _ _ _ _ (Sep.get (L := _) (Sep.pick 1 hS)) Try.underlying29 rfl (by kernel_rfl) ?_
          exact hK.out _ _ rfl (sepEmp hS) hst
        · refine all23 fun z0 z1 z2 z3 z4 z5 z6 z7 z8 z9 z10 z11 z12 z13 z14 z15 z16 z17 z18 z19 z20 z21 z22 W L hv hS hst a ha K hK => ?_
          obtain ⟨v13, _⟩ := hv
          obtain rfl : z13 = _ := v13
          simp only [dagPut, Act.put, List.setIfInBounds_toArray, List.set_cons_zero, List.set_cons_succ] at ha
          subst ha
          refine wpOp_on rfl rfl ?_
          simp only [Act.put, List.setIfInBounds_toArray, List.set_cons_zero, List.set_cons_succ, List.getD_cons_succ, List.getD_cons_zero] at hK
          refine wp_load_row 29 _ rfl _ rfl _ _ _ _ (Sep.get (L := _) (hS)) Try.underlying29 rfl (by kernel_rfl) ?_
          exact hK.out _ _ rfl (sepEmp hS) hst
        · refine all23 fun z0 z1 z2 z3 z4 z5 z6 z7 z8 z9 z10 z11 z12 z13 z14 z15 z16 z17 z18 z19 z20 z21 z22 W L hv hS hst a ha K hK => ?_
          obtain ⟨v14, v15, v13, _⟩ := hv
          obtain rfl : z14 = _ := v14
          obtain rfl : z15 = _ := v15
          obtain rfl : z13 = _ := v13
          simp only [dagPut, Act.put, List.setIfInBounds_toArray, List.set_cons_zero, List.set_cons_succ] at ha
          subst ha
          refine wpOp_on rfl rfl ?_
          simp only [Act.put, List.setIfInBounds_toArray, List.set_cons_zero, List.set_cons_succ, List.getD_cons_succ, List.getD_cons_zero] at hK
          go_simp
          refine (HSL.out.1 W).mono ?_
          rintro e w3 ⟨rfl, hS3, hst3⟩
          exact hK.out _ _ rfl (sepEmp (Sep.mount (M := []) hS hS3)) (hst.trans hst3)
        · refine all23 fun z0 z1 z2 z3 z4 z5 z6 z7 z8 z9 z10 z11 z12 z13 z14 z15 z16 z17 z18 z19 z20 z21 z22 W L hv hS hst a ha K hK => ?_
          obtain ⟨v16, v13, _⟩ := hv
          obtain rfl : z16 = _ := v16
          obtain rfl : z13 = _ := v13
          simp only [dagPut, Act.put, List.setIfInBounds_toArray, List.set_cons_zero, List.set_cons_succ] at ha
          subst ha
          refine wpOp_on rfl rfl ?_
          simp only [Act.put, List.setIfInBounds_toArray, List.set_cons_zero, List.set_cons_succ, List.getD_cons_succ, List.getD_cons_zero] at hK
          go_simp
          refine (HSL.out.2 W).mono ?_
          rintro e w3 ⟨rfl, hS3, hst3⟩
          exact hK.out _ _ rfl (sepEmp (Sep.mount (M := []) hS hS3)) (hst.trans hst3)
        · refine all23 fun z0 z1 z2 z3 z4 z5 z6 z7 z8 z9 z10 z11 z12 z13 z14 z15 z16 z17 z18 z19 z20 z21 z22 W L hv hS hst a ha K hK => ?_
          obtain ⟨v13, _⟩ := hv
          obtain rfl : z13 = _ := v13
          simp only [dagPut, Act.put, List.setIfInBounds_toArray, List.set_cons_zero, List.set_cons_succ] at ha
          subst ha
          refine wpOp_on rfl rfl ?_
          simp only [Act.put, List.setIfInBounds_toArray, List.set_cons_zero, List.set_cons_succ, List.getD_cons_succ, List.getD_cons_zero] at hK
          go_simp
          exact hK.out _ _ rfl (sepEmp hS) hst
        · refine all23 fun z0 z1 z2 z3 z4 z5 z6 z7 z8 z9 z10 z11 z12 z13 z14 z15 z16 z17 z18 z19 z20 z21 z22 W L hv hS hst a ha K hK => ?_
          obtain ⟨v18, v13, _⟩ := hv
          obtain rfl : z18 = _ := v18
          obtain rfl : z13 = _ := v13
          simp only [dagPut, Act.put, List.setIfInBounds_toArray, List.set_cons_zero, List.set_cons_succ] at ha
          subst ha
          refine wpOp_on rfl rfl ?_
          simp only [Act.put, List.setIfInBounds_toArray, List.set_cons_zero, List.set_cons_succ, List.getD_cons_succ, List.getD_cons_zero] at hK
          have c8 : W.cell? ⟨w.heap.size, 8, none⟩ = some (i64 fog) := cell_of_blk (Sep.get (L := _) (Sep.pick 2 hS)) 8
          go_simp
          exact hK.out _ _ rfl (sepEmp hS) hst
        · refine all23 fun z0 z1 z2 z3 z4 z5 z6 z7 z8 z9 z10 z11 z12 z13 z14 z15 z16 z17 z18 z19 z20 z21 z22 W L hv hS hst a ha K hK => ?_
          obtain ⟨v17, v19, v13, _⟩ := hv
          obtain rfl : z17 = _ := v17
          obtain rfl : z19 = _ := v19
          obtain rfl : z13 = _ := v13
          simp only [dagPut, Act.put, List.setIfInBounds_toArray, List.set_cons_zero, List.set_cons_succ] at ha
          subst ha
          refine wpOp_on rfl rfl ?_
          simp only [Act.put, List.setIfInBounds_toArray, List.set_cons_zero, List.set_cons_succ, List.getD_cons_succ, List.getD_cons_zero] at hK
          go_simp
          exact hK.out _ _ rfl (sepEmp hS) hst
        · refine all23 fun z0 z1 z2 z3 z4 z5 z6 z7 z8 z9 z10 z11 z12 z13 z14 z15 z16 z17 z18 z19 z20 z21 z22 W L hv hS hst a ha K hK => ?_
          obtain ⟨v13, v20, _⟩ := hv
          obtain rfl : z13 = _ := v13
          obtain rfl : z20 = _ := v20
          simp only [dagPut, Act.put, List.setIfInBounds_toArray, List.set_cons_zero, List.set_cons_succ] at ha
          subst ha
          refine wpOp_plain rfl rfl ?_
          simp only [Act.put, List.setIfInBounds_toArray, List.set_cons_zero, List.set_cons_succ, List.getD_cons_succ, List.getD_cons_zero] at hK
          go_simp
          exact hK.out _ _ rfl (sepEmp hS) hst
        · refine all23 fun z0 z1 z2 z3 z4 z5 z6 z7 z8 z9 z10 z11 z12 z13 z14 z15 z16 z17 z18 z19 z20 z21 z22 W L hv hS hst a ha K hK => ?_
          obtain ⟨v21, _⟩ := hv
          obtain rfl : z21 = _ := v21
          simp only [dagPut, Act.put, List.setIfInBounds_toArray, List.set_cons_zero, List.set_cons_succ] at ha
          subst ha
          refine wpOp_plain rfl rfl ?_
          simp only [Act.put, List.setIfInBounds_toArray, List.set_cons_zero, List.set_cons_succ, List.getD_cons_succ, List.getD_cons_zero] at hK
          go_simp
          exact hK.out _ _ rfl (sepEmp hS) hst
        · refine all23 fun z0 z1 z2 z3 z4 z5 z6 z7 z8 z9 z10 z11 z12 z13 z14 z15 z16 z17 z18 z19 z20 z21 z22 W hv hS hst a ha => ?_
          obtain ⟨⟨⟨⟨⟨⟨⟨⟨⟨⟨⟨⟨⟨⟨⟨⟨⟨⟨⟨⟨⟨⟨⟨_, v0⟩, v1⟩, v2⟩, v3⟩, v4⟩, v5⟩, v6⟩, v7⟩, v8⟩, v9⟩, v10⟩, v11⟩, v12⟩, v13⟩, v14⟩, v15⟩, v16⟩, v17⟩, v18⟩, v19⟩, v20⟩, v21⟩, v22⟩ := hv
          obtain rfl : z0 = _ := v0
          obtain rfl : z1 = _ := v1
          obtain rfl : z2 = _ := v2
          obtain rfl : z3 = _ := v3
          obtain rfl : z4 = _ := v4
          obtain rfl : z5 = _ := v5
          obtain rfl : z6 = _ := v6
          obtain rfl : z7 = _ := v7
          obtain rfl : z8 = _ := v8
          obtain rfl : z9 = _ := v9
          obtain rfl : z10 = _ := v10
          obtain rfl : z11 = _ := v11
          obtain rfl : z12 = _ := v12
          obtain rfl : z13 = _ := v13
          obtain rfl : z14 = _ := v14
          obtain rfl : z15 = _ := v15
          obtain rfl : z16 = _ := v16
          obtain rfl : z17 = _ := v17
          obtain rfl : z18 = _ := v18
          obtain rfl : z19 = _ := v19
          obtain rfl : z20 = _ := v20
          obtain rfl : z21 = _ := v21
          obtain rfl : z22 = _ := v22
          simp only [dagPut, Act.put, List.setIfInBounds_toArray, List.set_cons_zero, List.set_cons_succ] at ha; subst ha
          go_wp2_with fail
          go_ret
          first | exact ⟨congrArg (fun b => Ending.returned (.bool b)) (HE).out.symm, hS.drop.drop.drop, hst⟩ | exact ⟨rfl, hS.drop.drop.drop, hst⟩

end Go.Proofs.Ytjmlpjaahankcaa
