/- Contracts: the initial cells. -/
import Derived.Test.YtkalpgngoijdmaaSmall
import Derived.Test.YtkalpgngoijdmaaMore
import Derived.Test.YtkalpgngoijdmaaSetup
import Derived.Test.YtkalpgngoijdmaaPos
namespace Go.Proofs.Ytkalpgngoijdmaa
open Go.RowKit Go.Sl

variable {w : World} {L : List Asn}

def shp0 : Shp := ⟨0, [], none, 0⟩
def bd0 : Bd := ⟨shp0, 0, 0, 0, 0, 0, 0, 0⟩
theorem bdcells_get : ∀ (l : List Bd) (i : Nat), i < l.length → ∀ j, j < 9 → (bdcells l)[i * 9 + j]? = (l.getD i bd0).cells[j]?
  | [], i, h, _, _ => by simp at h
  | a :: l, 0, _, j, hj => by
    simp only [bdcells, List.flatMap_cons, Nat.zero_mul, Nat.zero_add, List.getD_cons_zero]
    exact List.getElem?_append_left (by simpa [Bd.cells] using hj)
  | a :: l, i + 1, h, j, hj => by
    have := bdcells_get l i (by simpa using h) j hj
    simp only [bdcells, List.flatMap_cons, List.getD_cons_succ] at *
    rw [List.getElem?_append_right (by simp [Bd.cells]; omega), ← this]
    congr 1
    simp [Bd.cells]; omega
abbrev readsBd (w : World) (v : Value) (l : List Bd) : Prop := readsAs w 9 v l.length (bdcells l)
theorem readsBd_at {v : Value} {l : List Bd} (h : readsBd w v l) (hl : 0 < l.length) : ∃ b off cap, v = .slice (some ⟨b, off, none⟩) l.length cap ∧ b < w.heap.size ∧ ∀ i, i < l.length →
    ∀ j u, (l.getD i bd0).cells[j]? = some u → w.cell? ⟨b, off + i * 9 + j, none⟩ = some u := by
  obtain ⟨b0, off0, cap0, hv0, hlt⟩ := readsAs_lt h (by rw [bdcells_length]; omega)
  rcases h.2 with ⟨hn, _⟩ | ⟨b, off, cap, rfl, h1, h2, h3⟩
  · omega
  · obtain rfl : b = b0 := by have := congrArg (fun v => match v with | Value.slice (some a) _ _ => a.block | _ => 0) hv0; simpa using this
    refine ⟨b, off, cap, rfl, hlt, fun i hi j u hu => ?_⟩
    have hj : j < 9 := by
      have := (List.getElem?_eq_some_iff.1 hu).1
      simpa [Bd.cells] using this
    have e := bdcells_get l i hi j hj
    rw [Nat.add_assoc]
    exact (h3 (i * 9 + j) (by rw [bdcells_length]; omega)).trans (e.trans hu)

/-- The cells of a body. -/
@[reducible] def Bd.eight (b : Bd) : List Int := [b.px, b.py, b.vx, b.vy, b.a, b.b, 0, 0]
def eights (l : List Bd) : List Int := l.flatMap Bd.eight
theorem eights_length (l : List Bd) : (eights l).length = 8 * l.length := by
  induction l with
  | nil => rfl
  | cons a l ih => simp only [eights, List.flatMap_cons, List.length_append, List.length_cons, List.length_nil, Bd.eight] at *; omega
/-- The initial cells, when the first k bodies are laid. -/
def initTo (p : Nat) (l : List Bd) (k : Nat) : List Int := List.replicate (48 + 4 * p) 0 ++ eights (l.take k) ++ List.replicate (8 * (l.length - k)) 0
def initL (p : Nat) (l : List Bd) : List Int := List.replicate (48 + 4 * p) 0 ++ eights l
theorem initTo_length (p : Nat) (l : List Bd) (k : Nat) (hk : k ≤ l.length) : (initTo p l k).length = 48 + 4 * p + 8 * l.length := by
  simp only [initTo, List.length_append, List.length_replicate, eights_length, List.length_take]; omega
theorem initTo_zero (p : Nat) (l : List Bd) : initTo p l 0 = List.replicate (48 + 4 * p + 8 * l.length) 0 := by
  simp [initTo, eights]
theorem initTo_all (p : Nat) (l : List Bd) : initTo p l l.length = initL p l := by simp [initTo, initL]
theorem set8 (A R : List Int) (n : Nat) (hn : A.length = n) (x0 x1 x2 x3 x4 x5 : Int) :
    ((((((A ++ (0 :: 0 :: 0 :: 0 :: 0 :: 0 :: 0 :: 0 :: R)).set n x0).set (n + 1) x1).set (n + 2) x2).set (n + 3) x3).set (n + 4) x4).set (n + 5) x5 = A ++ (x0 :: x1 :: x2 :: x3 :: x4 :: x5 :: 0 :: 0 :: R) := by
  subst hn
  simp
theorem initTo_succ (p : Nat) (l : List Bd) (k : Nat) (hk : k < l.length) (n : Nat) (hn : n = 48 + 4 * p + 8 * k) :
    ((((((initTo p l k).set n (l.getD k bd0).px).set (n + 1) (l.getD k bd0).py).set (n + 2) (l.getD k bd0).vx).set (n + 3) (l.getD k bd0).vy).set (n + 4) (l.getD k bd0).a).set (n + 5) (l.getD k bd0).b = initTo p l (k + 1) := by
  have e : List.replicate (8 * (l.length - k)) (0 : Int) = 0 :: 0 :: 0 :: 0 :: 0 :: 0 :: 0 :: 0 :: List.replicate (8 * (l.length - (k + 1))) 0 := by
    rw [show 8 * (l.length - k) = 8 * (l.length - (k + 1)) + 8 by omega]
    simp [List.replicate_succ]
  have e2 : eights (l.take (k + 1)) = eights (l.take k) ++ (l.getD k bd0).eight := by
    rw [List.take_succ_eq_append_getElem hk, eights, List.flatMap_append, show l.getD k bd0 = l[k] by simp [List.getD, hk]]; simp [eights]
  unfold initTo
  rw [e, set8 _ _ n (by rw [List.length_append, List.length_replicate, eights_length, List.length_take]; omega), e2]
  simp

set_option maxRecDepth 100000 in
set_option maxHeartbeats 4000000 in
theorem InitialR_spec (s : Su) (p : Nat) (hp : s.st.players = p) (hp3 : p ≤ 1000) (hnb : s.st.nb = s.bodies.length) (hn5 : s.bodies.length ≤ 1000) (h : readsBd w s.st.bodiesV s.bodies) :
    Calls Try.prog 27 #[s.st.val] w fun e w' => ∃ v, e = .returned v ∧ Sep w' [rowI v (initL p s.bodies), old w] ∧ Stable w w' := by
  obtain ⟨iI, hiI, hI0, hI1, hI2⟩ := info_parts infoI
  have hSz := fun W => SizeR_spec s.st (by omega) (by omega) W
  have hBd := fun (k : Nat) (hk : k < s.bodies.length) W => BodyR_spec s.st k (by omega) (by omega) W
  have hat : ∀ k : Nat, k < s.bodies.length → bodyAt s.st k = ((48 + 4 * p + 8 * k : Nat) : Int) := fun k hk => by unfold bodyAt; rw [if_pos (by omega)]; omega
  rw [show (48 : Int) + 4 * s.st.players + 8 * s.st.nb = ((48 + 4 * p + 8 * s.bodies.length : Nat) : Int) by omega] at hSz
  obtain ⟨s, bodies⟩ := s
  obtain ⟨players, nb, ba, bc, x0, y0, x1, y1, rooms, ra, rc, doors, da, dc, fog, gx, gy, push, drag, rest, rounds, fuel⟩ := s
  dsimp only [St.val, St.doorsV, St.bodiesV] at *
  subst hnb
  obtain rfl : players = (p : Int) := hp
  have H0 := Lib.hid (And.intro ((Sep.start w).alloc (.cells #[i64 p, .slice ba bodies.length bc, i64 x0, i64 y0, i64 x1, i64 y1, .slice ra rooms.length rc, .slice da doors.length dc, i64 fog, i64 gx, i64 gy, i64 push, i64 drag, i64 rest, i64 rounds, i64 fuel] 31)) ((Stable.refl w).alloc (.cells #[i64 p, .slice ba bodies.length bc, i64 x0, i64 y0, i64 x1, i64 y1, .slice ra rooms.length rc, .slice da doors.length dc, i64 fog, i64 gx, i64 gy, i64 push, i64 drag, i64 rest, i64 rounds, i64 fuel] 31)))
  have HC := Lib.hid (And.intro hSz (And.intro hBd hat))
  have HB := Lib.hid (show readsBd w (.slice ba bodies.length bc) bodies from h)
  clear hSz hBd hat h
  obtain ⟨N, hN⟩ : ∃ N : Nat, N = 48 + 4 * p + 8 * bodies.length := ⟨_, rfl⟩
  rw [← hN] at HC
  have hN2 : N ≤ 20000 := by omega
  have HN := Lib.hid hN
  clear hN
  go_enter Try.func27, Try.ntmps27
  go_wp2_with (refine wpList_load_g 31 _ rfl _ rfl _ _ _ _ (Sep.get H0.out.1) Try.underlying31 rfl (by kernel_rfl) (by first | rfl | (go_simp; done) | (go_simp; omega)) ?_)
  refine (HC.out.1 _).mono ?_
  rintro e w1 ⟨rfl, hS1, hst1⟩
  have H1 := Lib.hid (And.intro (H0.out.1.mount hS1) (H0.out.2.trans hst1))
  clear hS1 hst1
  go_wp2_with (at_make; refine wpList_make_sep rfl _ _ _ rfl 3 iI _ 8 Try.underlying22 hiI hI0 hI1 hI2 rfl N rfl rfl (by omega) (by unfold maxLen; omega) H1.out.1 ?_; rintro v2 w2 ⟨g, rfl⟩ hS2 hst2)
  have hr2 : Sep w2 (rowI (.slice (some ⟨g, 0, none⟩) N N) (initTo p bodies 0) :: [pts w.heap.size (.cells #[i64 p, .slice ba bodies.length bc, i64 x0, i64 y0, i64 x1, i64 y1, .slice ra rooms.length rc, .slice da doors.length dc, i64 fog, i64 gx, i64 gy, i64 push, i64 drag, i64 rest, i64 rounds, i64 fuel] 31), old w]) := by
    show Sep w2 (row 3 1 _ (initTo p bodies 0).length (ints (initTo p bodies 0)) :: _)
    rw [initTo_length _ _ _ (Nat.zero_le _), initTo_zero, ← HN.out, ints, List.map_replicate]
    exact hS2
  have H2 := Lib.hid (And.intro hr2 (H1.out.2.trans hst2))
  clear hr2 hst2 hS2 H1
  go_wp2_with fail
  go_loopw [4] (fun i wr => ∃ k : Nat, k ≤ bodies.length ∧ i = .int .i64 k ∧ Sep wr [rowI (.slice (some ⟨g, 0, none⟩) N N) (initTo p bodies k), pts w.heap.size (.cells #[i64 p, .slice ba bodies.length bc, i64 x0, i64 y0, i64 x1, i64 y1, .slice ra rooms.length rc, .slice da doors.length dc, i64 fog, i64 gx, i64 gy, i64 push, i64 drag, i64 rest, i64 rounds, i64 fuel] 31), old w] ∧ Stable w wr) (fun i _ => bodies.length - (intOf i).toNat)
  case atStart => exact ⟨0, Nat.zero_le _, rfl, H2.out.1, H2.out.2⟩
  case round =>
    obtain ⟨k, hk, rfl, hSr, hst⟩ := hrel
    have c1 : wr.cell? ⟨w.heap.size, 1, none⟩ = some (.slice ba bodies.length bc) := cell_of_blk (Sep.get (Sep.pick 1 hSr)) 1
    have HR := Lib.hid (And.intro hSr hst)
    clear hSr hst
    by_cases hlt : k < bodies.length
    · obtain ⟨b, off, cap, hv, hbl, hcb⟩ := readsBd_at HB.out (by omega)
      obtain ⟨rfl, rfl⟩ : ba = some ⟨b, off, none⟩ ∧ bc = cap := by simpa using hv
      have hld : ∀ (W : World) (M : List Asn), Sep W (old w :: M) → ∀ j u, (bodies.getD k bd0).cells.toArray.toList[j]? = some u → W.cell? ⟨b, off + k * 9 + j, none⟩ = some u := fun W M hW j u hu =>
        (World.cell?_of_block (a := ⟨b, off + k * 9 + j, none⟩) (hW.oldGet b hbl)).trans (hcb k hlt j u hu)
      have hsu := initTo_succ p bodies k hlt (48 + 4 * p + 8 * k) rfl
      have hlen := initTo_length p bodies k hk
      have HL := Lib.hid (And.intro hld (And.intro hsu hlen))
      have hBk := HC.out.2.1 k hlt
      rw [HC.out.2.2 k hlt] at hBk
      have HBK := Lib.hid hBk
      clear hv hcb hld hsu hlen hBk
      obtain ⟨m, hm⟩ : ∃ m : Nat, m = 48 + 4 * p + 8 * k := ⟨_, rfl⟩
      rw [← hm] at HBK HL
      have hmN : m + 8 ≤ N := by have := HN.out; omega
      clear hm
      generalize bodies.getD k bd0 = bd at *
      obtain ⟨⟨rad, pl, pa, pc⟩, px, py, vx, vy, im, A, B⟩ := bd
      go_wp2_with (refine wpList_load_g 31 _ rfl _ rfl _ _ _ _ (Sep.get (HR.out.1.pick 1)) Try.underlying31 rfl (by kernel_rfl) (by first | rfl | (go_simp; done) | (go_simp; omega)) ?_)
      refine (HBK.out _).mono ?_
      rintro e w3 ⟨rfl, hS3, hst3⟩
      have H3 := Lib.hid (And.intro (HR.out.1.mount hS3) (HR.out.2.trans hst3))
      clear hS3 hst3 c1
      have c1 : w3.cell? ⟨w.heap.size, 1, none⟩ = some (.slice (some ⟨b, off, none⟩) bodies.length bc) := cell_of_blk (Sep.get (Sep.pick 1 H3.out.1)) 1
      have H4 := Lib.hid (And.intro (H3.out.1.alloc (.cells #[i64 0, .slice none 0 0, i64 0, i64 0, i64 0, i64 0, i64 0, i64 0, i64 0] 52)) (H3.out.2.alloc (.cells #[i64 0, .slice none 0 0, i64 0, i64 0, i64 0, i64 0, i64 0, i64 0, i64 0] 52)))
      go_upto_region 7 with (first | (refine wpList_load_at 52 _ rfl b (off + k * 9) rfl #[i64 rad, .slice pa pl.length pc, i64 px, i64 py, i64 vx, i64 vy, i64 im, i64 A, i64 B] _ (HL.out.1 _ _ (H3.out.1.pick 2)) Try.underlying52 rfl (by kernel_rfl) (by first | rfl | (go_simp; done) | (go_simp; omega)) ?_) | (refine wpList_store_sep rfl 52 _ _ rfl w3.heap.size #[i64 rad, .slice pa pl.length pc, i64 px, i64 py, i64 vx, i64 vy, i64 im, i64 A, i64 B] rfl rfl H4.out.1 (by kernel_rfl) rfl (by kernel_rfl) ?_; intro w5 hS5 hst5; obtain ⟨g2, cap2, hgv, hg1, hg2, hgc, hgf, hgl⟩ := rowI_at (hS5.pick 1) (by have := HL.out.2.2; have := HN.out; omega); obtain ⟨rfl, rfl⟩ : g = g2 ∧ N = cap2 := (by have := hgv; simp at this; exact ⟨this.1, this.2.2⟩); have hne := Sep.ne_row hS5; have c2 := cell_of_blk hS5.get 2; have c3 := cell_of_blk hS5.get 3; have c4 := cell_of_blk hS5.get 4; have c5 := cell_of_blk hS5.get 5; have c7 := cell_of_blk hS5.get 7; have c8 := cell_of_blk hS5.get 8; simp at c2 c3 c4 c5 c7 c8; have H5 := Lib.hid (And.intro hS5 (H4.out.2.trans hst5)); have d0 := hgc m (by have := HL.out.2.2; have := HN.out; omega); have d1 := hgc (m + 1) (by have := HL.out.2.2; have := HN.out; omega); have d2 := hgc (m + 2) (by have := HL.out.2.2; have := HN.out; omega); have d3 := hgc (m + 3) (by have := HL.out.2.2; have := HN.out; omega); have d4 := hgc (m + 4) (by have := HL.out.2.2; have := HN.out; omega); have d5 := hgc (m + 5) (by have := HL.out.2.2; have := HN.out; omega); clear hS5 hst5 hgv hg1 hg2 hgc; generalize w3.heap.size = b10 at *))
      have hS6 := H5.out.1.pick 1
      have hlm : m + 5 < (initTo p bodies k).length := by have := HL.out.2.2; have := HN.out; omega
      clear d0 d1 d2 d3 d4 d5 hgf hgl hne c2 c3 c4 c5 c7 c8
      have c2 := cell_of_blk (hS6.pick 1).get 2
      simp at c2
      have HS6 := Lib.hid hS6
      clear hS6
      go_upto_region 8 with (refine wpList_store_rowI rfl 3 _ _ rfl HS6.out m px rfl rfl (by first | omega | (simp only [List.length_set]; omega)) (by kernel_rfl) ?_; intro w6 hS7 hst7)
      have HST0 := Lib.hid (H5.out.2.trans hst7)
      have hS6 := hS7
      clear hS7 hst7 c2
      have c3 := cell_of_blk (hS6.pick 1).get 3
      simp at c3
      have HS6 := Lib.hid hS6
      clear hS6
      go_upto_region 9 with (refine wpList_store_rowI rfl 3 _ _ rfl HS6.out (m + 1) py rfl rfl (by first | omega | (simp only [List.length_set]; omega)) (by kernel_rfl) ?_; intro w7 hS7 hst7)
      have HST1 := Lib.hid (HST0.out.trans hst7)
      have hS6 := hS7
      clear hS7 hst7 c3
      have c4 := cell_of_blk (hS6.pick 1).get 4
      simp at c4
      have HS6 := Lib.hid hS6
      clear hS6
      go_upto_region 10 with (refine wpList_store_rowI rfl 3 _ _ rfl HS6.out (m + 2) vx rfl rfl (by first | omega | (simp only [List.length_set]; omega)) (by kernel_rfl) ?_; intro w8 hS7 hst7)
      have HST2 := Lib.hid (HST1.out.trans hst7)
      have hS6 := hS7
      clear hS7 hst7 c4
      have c5 := cell_of_blk (hS6.pick 1).get 5
      simp at c5
      have HS6 := Lib.hid hS6
      clear hS6
      go_upto_region 11 with (refine wpList_store_rowI rfl 3 _ _ rfl HS6.out (m + 3) vy rfl rfl (by first | omega | (simp only [List.length_set]; omega)) (by kernel_rfl) ?_; intro w9 hS7 hst7)
      have HST3 := Lib.hid (HST2.out.trans hst7)
      have hS6 := hS7
      clear hS7 hst7 c5
      have c7 := cell_of_blk (hS6.pick 1).get 7
      simp at c7
      have HS6 := Lib.hid hS6
      clear hS6
      go_upto_region 12 with (refine wpList_store_rowI rfl 3 _ _ rfl HS6.out (m + 4) A rfl rfl (by first | omega | (simp only [List.length_set]; omega)) (by kernel_rfl) ?_; intro w10 hS7 hst7)
      have HST4 := Lib.hid (HST3.out.trans hst7)
      have hS6 := hS7
      clear hS7 hst7 c7
      have c8 := cell_of_blk (hS6.pick 1).get 8
      simp at c8
      have HS6 := Lib.hid hS6
      clear hS6
      go_wp2_with (refine wpList_store_rowI rfl 3 _ _ rfl HS6.out (m + 5) B rfl rfl (by first | omega | (simp only [List.length_set]; omega)) (by kernel_rfl) ?_; intro w11 hS7 hst7)
      have HST5 := Lib.hid (HST4.out.trans hst7)
      have hS6 := hS7
      clear hS7 hst7 c8
      have hsu := HL.out.2.1
      rw [hsu] at hS6
      have HS6 := Lib.hid (And.intro (hS6.pick 1).drop HST5.out)
      clear hS6 hsu hlm
      go_roundw
      case rel => exact ⟨k + 1, by omega, by go_num, HS6.out.1, HS6.out.2⟩
      case measure => simp [intOf]; omega
    · obtain rfl : k = bodies.length := by omega
      clear hlt
      go_wp2_with fail
      go_ret
      exact ⟨_, rfl, by rw [← initTo_all]; exact HR.out.1.pick 1 |>.drop, HR.out.2⟩

end Go.Proofs.Ytkalpgngoijdmaa
