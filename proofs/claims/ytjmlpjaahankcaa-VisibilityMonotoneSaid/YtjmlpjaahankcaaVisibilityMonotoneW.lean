/- The walk of VisibilityMonotone. -/
import Derived.Test.YtjmlpjaahankcaaVisMono
import Derived.Test.YtjmlpjaahankcaaMotion
import Derived.Deep.CutRange
import Derived.StillTailTactics
namespace Go.Proofs.Ytjmlpjaahankcaa
open Go.RowKit Go.Sl

variable {w : World} {L : List Asn}

def minI (a b : Int) : Int := if b < a then b else a

set_option maxRecDepth 100000 in
set_option maxHeartbeats 8000000 in
theorem visibilityMonotone_walk {u v vt : Value} {l rs at_ : List Int} {frm tto fgv : Int} (e0 : readsI w u l) (b0 : l.length ≤ 9223372036854775807) (w0 : ∀ x ∈ l, inI64 x) (e1 : readsI w v rs) (b1 : rs.length ≤ 9223372036854775807) (w1 : ∀ x ∈ rs, inI64 x)
    (e2 : readsI w vt at_) (b2 : at_.length ≤ 9223372036854775807) (w2 : ∀ x ∈ at_, inI64 x) (hp : inI64 frm) (hb : inI64 tto) (hy : inI64 fgv) :
    Calls Try.prog 8 #[u, v, vt, i64 frm, i64 tto, i64 fgv] w fun e w' => e = .returned (.bool true) ∧ Below w.heap.size w w' := by
  obtain ⟨iD, hD, hD0, hD1, hD2⟩ := info_parts infoDr
  have HIN := Lib.hid (And.intro hp (And.intro hb hy))
  clear hp hb hy
  have hSet := Setup27_spec e0 w0 b0 e1 w1 b1
  have HS := Lib.hid (And.intro hSet (And.intro e2 (And.intro b2 w2)))
  clear hSet e0 b0 w0 e1 b1 w1 e2 b2 w2
  go_enter Try.func8, Try.ntmps8
  go_wp2_with fail
  refine HS.out.1.mono ?_
  rintro e w1 ⟨su, rfl, hg, hS1, hst1⟩
  have hB1 : Below w.heap.size w w1 := (Su.oldPart hS1).below hst1
  have hrd := Su.reads hS1
  have hbr := Su.bodiesRead hS1
  have hfine := hg.fine
  have hrt : readsI w1 vt at_ := HS.out.2.1.of_heap (Su.oldPart hS1).oldGet
  obtain ⟨np, hnp, hnp3⟩ := hg.base.players_nat
  have hCe := fun (W : World) (M : List Asn) (hW : Sep W (old w1 :: M)) => Cells_spec (w := W) su np hnp (by omega) hg.base.nb (by have := hg.base.few; omega) (hbr.of_heap hW.oldGet) hg.base.near (hrt.of_heap hW.oldGet) HS.out.2.2.2 HS.out.2.2.1
  have hsee := fun (cv : Value) (cs : List Int) (hna : nearAll np su.bodies.length cs) (W : World) (M : List Asn) (hS : Sep W (rowI cv cs :: old w1 :: M)) => seeing_of hg.base hfine (by have := hg.fog; omega) hrd hnp hna hS
  have HC := Lib.hid (And.intro hCe (And.intro hsee (And.intro hg (And.intro hfine hrd))))
  have HB := Lib.hid hB1
  have HNP := Lib.hid hnp
  have HBR := Lib.hid hbr
  have hpl := hg.base.players
  have hmo := hg.base.more
  have hfew := hg.base.few
  have hro := hg.rooms
  have hnb := hg.base.nb
  clear hS1 hst1 hrd hfine hB1 hg hbr hrt hCe hsee HS hnp
  obtain ⟨s, bodies⟩ := su
  obtain ⟨players, nb, ba, bc, x0, y0, x1, y1, rooms, ra, rc, doors, da, dc, fog, gx, gy, push, drag, rest, rounds, fuel⟩ := s
  dsimp only [St.val, St.doorsV] at *
  subst hnb
  have H1 := Lib.hid (And.intro ((Sep.start w1).alloc (.cells #[i64 0, .slice none 0 0, i64 0, i64 0, i64 0, i64 0, .slice none 0 0, .slice none 0 0, i64 0, i64 0, i64 0, i64 0, i64 0, i64 0, i64 0, i64 0] 31)) ((Stable.refl w1).alloc (.cells #[i64 0, .slice none 0 0, i64 0, i64 0, i64 0, i64 0, .slice none 0 0, .slice none 0 0, i64 0, i64 0, i64 0, i64 0, i64 0, i64 0, i64 0, i64 0] 31)))
  go_upto_region 2 with (refine wpList_store_sep rfl 31 _ _ rfl w1.heap.size #[i64 players, .slice ba bodies.length bc, i64 x0, i64 y0, i64 x1, i64 y1, .slice ra rooms.length rc, .slice da doors.length dc, i64 fog, i64 gx, i64 gy, i64 push, i64 drag, i64 rest, i64 rounds, i64 fuel] rfl rfl H1.out.1 (by kernel_rfl) rfl (by kernel_rfl) ?_; intro w2 hS2 hst2)
  generalize w1.heap.size = bs at *
  have H2 := Lib.hid (And.intro hS2 (H1.out.2.trans hst2))
  clear hS2 hst2 H1
  go_wp2_with (refine wpList_load_g 31 _ rfl _ rfl _ _ _ _ (Sep.get H2.out.1) Try.underlying31 rfl (by kernel_rfl) (by first | rfl | (go_simp; done) | (go_simp; omega)) ?_)
  refine (HC.out.1 _ _ (H2.out.1.pick 1)).mono ?_
  rintro e w3 ⟨cv, cs, rfl, hna, hS3, hst3⟩
  have hS4 := H2.out.1.mount (hS3.pick 1)
  have hsee := HC.out.2.1 cv cs hna
  have H4 := Lib.hid (And.intro (show Sep w3 [rowI cv cs, pts bs (.cells #[i64 players, .slice ba bodies.length bc, i64 x0, i64 y0, i64 x1, i64 y1, .slice ra rooms.length rc, .slice da doors.length dc, i64 fog, i64 gx, i64 gy, i64 push, i64 drag, i64 rest, i64 rounds, i64 fuel] 31), old w1] from hS4.pick 0) (And.intro (H2.out.2.trans hst3) (And.intro hsee hna)))
  clear hS3 hst3 hS4 hsee hna H2
  have hAg := fun w => Around_spec fgv 100000 w (by omega) (by omega) HIN.out.2.2
  have g0 : 0 ≤ around fgv 100000 := around_lo (by omega)
  have g1 : around fgv 100000 < 100000 := around_hi (by omega)
  generalize around fgv 100000 = g at *
  have HAG := Lib.hid hAg
  have hfog := HC.out.2.2.1.fog
  obtain ⟨hf0, hf1⟩ := hfog
  dsimp only at hf0 hf1
  clear hAg
  have H5 := Lib.hid (And.intro (H4.out.1.alloc (.cells #[i64 0, .slice none 0 0, i64 0, i64 0, i64 0, i64 0, .slice none 0 0, .slice none 0 0, i64 0, i64 0, i64 0, i64 0, i64 0, i64 0, i64 0, i64 0] 31)) (H4.out.2.1.alloc (.cells #[i64 0, .slice none 0 0, i64 0, i64 0, i64 0, i64 0, .slice none 0 0, .slice none 0 0, i64 0, i64 0, i64 0, i64 0, i64 0, i64 0, i64 0, i64 0] 31)))
  go_upto_region 4 with (first | (refine wpList_load_g 31 _ rfl _ rfl _ _ _ _ (Sep.get (H4.out.1.pick 1)) Try.underlying31 rfl (by kernel_rfl) (by first | rfl | (go_simp; done) | (go_simp; omega)) ?_) | (refine wpList_store_sep rfl 31 _ _ rfl w3.heap.size #[i64 players, .slice ba bodies.length bc, i64 x0, i64 y0, i64 x1, i64 y1, .slice ra rooms.length rc, .slice da doors.length dc, i64 fog, i64 gx, i64 gy, i64 push, i64 drag, i64 rest, i64 rounds, i64 fuel] rfl rfl H5.out.1 (by kernel_rfl) rfl (by kernel_rfl) ?_; intro w5 hS5 hst5))
  generalize w3.heap.size = bm at *
  have H6 := Lib.hid (And.intro hS5 (H5.out.2.trans hst5))
  have s5 : w5.cell? ⟨bs, 8, none⟩ = some (i64 fog) := cell_of_blk (hS5.pick 2).get 8
  clear hS5 hst5 H5
  obtain ⟨fm, hfm⟩ : ∃ fm : Int, fm = minI 4194304 (fog + g) := ⟨_, rfl⟩
  have hfm1 : fog ≤ fm ∧ fm ≤ 4194304 := by rw [hfm]; unfold minI; split <;> omega
  have q1 : IntKind.i64.wrap (fog + g) = fog + g := wr_in (by omega)
  go_still_tail 7, (by kernel_rfl)
  still_call (still_of_eq (HAG.out w5.drew))
  repeat still_step
  refine wpList_store_cell rfl 3 _ _ rfl (Sep.drew H6.out.1) 8 (i64 fm) rfl (by first | rfl | (rw [hfm]; rfl)) rfl (by simp) (by kernel_rfl) ?_
  intro w6 hS6 hst6
  simp only [List.setIfInBounds_toArray, List.set_cons_succ, List.set_cons_zero] at hS6
  have H7 := Lib.hid (And.intro hS6 (H6.out.2.drew.trans hst6))
  clear hS6 hst6 H6 s5 q1 hfm g0 g1
  generalize hzz : (if fog + g < 4194304 then fog + g else (4194304 : Int)) = zz at *
  clear hzz
  obtain ⟨hfm1, hfm2⟩ := hfm1
  have hA1 := fun w (h : 1 < rooms.length) => Around_spec frm (rooms.length : Int) w (by omega) (by omega) HIN.out.1
  have a0 : 1 < rooms.length → 0 ≤ around frm (rooms.length : Int) := fun h => around_lo (by omega)
  have a1 : 1 < rooms.length → around frm (rooms.length : Int) < (rooms.length : Int) := fun h => around_hi (by omega)
  have hA2 := fun w (h : 1 < rooms.length) => Around_spec tto ((rooms.length : Int) - 1) w (by omega) (by omega) HIN.out.2.1
  have c0 : 1 < rooms.length → 0 ≤ around tto ((rooms.length : Int) - 1) := fun h => around_lo (by omega)
  have c1 : 1 < rooms.length → around tto ((rooms.length : Int) - 1) < (rooms.length : Int) - 1 := fun h => around_hi (by omega)
  generalize around frm (rooms.length : Int) = ar at *
  generalize around tto ((rooms.length : Int) - 1) = tr at *
  have HAA := Lib.hid (And.intro hA1 (And.intro a0 (And.intro a1 (And.intro hA2 (And.intro c0 c1)))))
  clear hA1 hA2 a0 a1 c0 c1
  have s6 : w6.cell? ⟨bs, 6, none⟩ = some (.slice ra rooms.length rc) := cell_of_blk (H7.out.1.pick 2).get 6
  go_upto_if 46 with fail
  go_cut [17, 46] from 47 to 67 (fun x17 x46 wx => ∃ (dm : List Dr) (dma : Option Addr) (dmc : Nat) (D : Asn), (dm.length ≤ 6 ∧ (∀ d ∈ dm, 0 ≤ d.1 ∧ d.1 < rooms.length ∧ 0 ≤ d.2 ∧ d.2 < rooms.length) ∧ (∀ d ∈ doors, d ∈ dm) ∧ ∀ (W : World) (M : List Asn), Sep W (D :: old w1 :: M) → readsD W (.slice dma dm.length dmc) dm) ∧
    Sep wx [rowI cv cs, pts bs (.cells #[i64 players, .slice ba bodies.length bc, i64 x0, i64 y0, i64 x1, i64 y1, .slice ra rooms.length rc, .slice da doors.length dc, i64 fog, i64 gx, i64 gy, i64 push, i64 drag, i64 rest, i64 rounds, i64 fuel] 31), pts bm (.cells #[i64 players, .slice ba bodies.length bc, i64 x0, i64 y0, i64 x1, i64 y1, .slice ra rooms.length rc, .slice dma dm.length dmc, i64 fm, i64 gx, i64 gy, i64 push, i64 drag, i64 rest, i64 rounds, i64 fuel] 31), D, old w1] ∧ Stable w1 wx)
  case first =>
    have hdo := HC.out.2.2.1.doors
    have hva := HC.out.2.2.1.valid
    dsimp only at hdo hva
    by_cases hn1 : 1 < rooms.length
    · have hg : decide ((1 : Int) < (rooms.length : Int)) = true := by rw [decide_eq_true_iff]; omega
      have hA1 := HAA.out.1 w6 hn1
      have a0 := HAA.out.2.1 hn1
      have a1 := HAA.out.2.2.1 hn1
      have hA2 := fun w => HAA.out.2.2.2.1 w hn1
      have c0 := HAA.out.2.2.2.2.1 hn1
      have c1 := HAA.out.2.2.2.2.2 hn1
      have HA := Lib.hid (And.intro hA1 (And.intro hA2 hva))
      clear hA1 hA2 hva s6
      have s7 : w6.cell? ⟨bs, 7, none⟩ = some (.slice da doors.length dc) := cell_of_blk (H7.out.1.pick 2).get 7
      go_wp2_with fail
      refine HA.out.1.mono ?_
      rintro e w7 ⟨rfl, rfl⟩
      have hS8 := H7.out.1.alloc (.cells #[] 51)
      have hrow : Sep (w6.alloc (.cells #[] 51)) (row 51 2 (.slice (some ⟨w6.heap.size, 0, none⟩) 0 0) 0 [] :: _) := hS8.toRow (n := 0) (Nat.le_refl _) (by unfold maxLen; omega) rfl rfl
      have hsrc := (readsAs.src (P := Try.prog) Try.underlying27 ((HC.out.2.2.2.2.doors).of_heap (hS8.pick 4).oldGet) (dcells_one doors))
      have H8 := Lib.hid (And.intro hrow (And.intro (H7.out.2.alloc (.cells #[] 51)) hsrc))
      have s7' := cell_alloc s7 (.cells #[] 51)
      clear hS8 hrow hsrc
      go_wp2_with (at_builtin; refine wpList_append_sep rfl _ _ 27 27 rfl 51 iD _ 2 16 Try.underlying27 hD hD0 hD1 hD2 rfl _ _ _ rfl H8.out.1 doors.length (dcells doors) H8.out.2.2 (by unfold maxLen; omega) (by omega) ?_; intro v3 w8 hS9 hst9 hn9; simp only [Nat.zero_add, List.nil_append] at hS9; have H9 := Lib.hid (And.intro hS9 (H8.out.2.1.trans hst9)); clear hS9 hst9 hn9)
      refine (HA.out.2.1 _).mono ?_
      rintro e w9 ⟨rfl, rfl⟩
      have d0 : 0 ≤ (ar + 1 + tr) % (rooms.length : Int) := Int.emod_nonneg _ (by omega)
      have d1 : (ar + 1 + tr) % (rooms.length : Int) < (rooms.length : Int) := Int.emod_lt_of_pos _ (by omega)
      have hS10 : ∀ o, Sep (w8.alloc o) _ := fun o => H9.out.1.allocBeside o
      have HS10 := Lib.hid hS10
      clear hS10 H8 s7 s7'
      go_wp2_with (at_builtin; refine wpList_append_sep rfl (.tmp 53) (.tmp 65) 27 27 rfl 51 iD _ 2 16 Try.underlying27 hD hD0 hD1 hD2 rfl _ _ _ rfl (HS10.out _) 1 [i64 ar, i64 ((ar + 1 + tr) % (rooms.length : Int))] (Src.ofSlice _ Try.underlying27 ⟨_, 0, none⟩ 1 1 _ rfl (fun j u hu => by rw [Addr.add_lit]; simpa using hu) (by simp [Value.oneCell'])) (by unfold maxLen; omega) (by omega) ?_; intro v4 w10 hS11 hst11 hn11; obtain ⟨na, nc, rfl, _⟩ := hS11.rowShape; have s7 := cell_of_blk (hS11.pick 1).get 7; simp at s7; have fz := frozen_of_blk (hS11.pick 1).get; have H11 := Lib.hid (And.intro hS11 ((H9.out.2.alloc _).trans hst11)); clear hS11 hst11 hn11)
      have hS12 := (H11.out.1.pick 1).setCell 7 (.slice na (doors.length + 1) nc)
      simp only [List.setIfInBounds_toArray, List.set_cons_succ, List.set_cons_zero] at hS12
      have hS13 := (hS12.pick 1).rowHeld |>.pick 4 |>.pick 1 |>.pick 2 |>.pick 4 |>.pick 4
      have hst13 := H11.out.2.setCell ⟨bm, 7, none⟩ (.slice na (doors.length + 1) nc)
      clear s7 fz
      have H13 := Lib.hid (And.intro hS13 hst13)
      clear hS12 hS13 hst13
      go_meet
      refine ⟨doors ++ [(ar, (ar + 1 + tr) % (rooms.length : Int))], na, nc, Sl.held 2 (.slice na (doors.length + 1) nc) (doors.length + 1) (dcells doors ++ [i64 ar, i64 ((ar + 1 + tr) % (rooms.length : Int))]), ⟨by rw [List.length_append]; simp; omega, fun d hd => ?_, fun d hd => List.mem_append_left _ hd, fun W M hW => ?_⟩, ?_, H13.out.2⟩
      · rcases List.mem_append.1 hd with hd | hd
        · exact HA.out.2.2 d hd
        · obtain rfl : d = _ := by simpa using hd
          exact ⟨a0, a1, d0, d1⟩
      · have := hW.heldReads
        rw [readsD, dcells_snoc, List.length_append]
        exact this
      · rw [List.length_append]
        exact H13.out.1
    · go_wp2_with fail
      go_meet
      exact ⟨doors, da, dc, emp, ⟨by omega, hva, fun d hd => hd, fun W M hW => HC.out.2.2.2.2.doors.of_heap (hW.pick 1).oldGet⟩, (sepEmp H7.out.1) |>.pick 4 |>.pick 1 |>.pick 2 |>.pick 4 |>.pick 4, H7.out.2⟩
  case rest =>
    obtain ⟨dm, dma, dmc, D, hdm, hS, hst⟩ := hcut
    have HDM := Lib.hid hdm
    have H8 := Lib.hid (And.intro hS hst)
    have H9 := Lib.hid (And.intro (hS.alloc (.cells #[i64 0, .slice none 0 0, i64 0, i64 0, i64 0, i64 0, .slice none 0 0, .slice none 0 0, i64 0, i64 0, i64 0, i64 0, i64 0, i64 0, i64 0, i64 0] 31)) (hst.alloc (.cells #[i64 0, .slice none 0 0, i64 0, i64 0, i64 0, i64 0, .slice none 0 0, .slice none 0 0, i64 0, i64 0, i64 0, i64 0, i64 0, i64 0, i64 0, i64 0] 31)))
    clear hdm hS hst H7 s6 HAA
    go_upto_region 10 with (first | (refine wpList_load_g 31 _ rfl _ rfl _ _ _ _ (Sep.get (H8.out.1.pick 1)) Try.underlying31 rfl (by kernel_rfl) (by first | rfl | (go_simp; done) | (go_simp; omega)) ?_) | (refine wpList_store_sep rfl 31 _ _ rfl wc.heap.size #[i64 players, .slice ba bodies.length bc, i64 x0, i64 y0, i64 x1, i64 y1, .slice ra rooms.length rc, .slice da doors.length dc, i64 fog, i64 gx, i64 gy, i64 push, i64 drag, i64 rest, i64 rounds, i64 fuel] rfl rfl H9.out.1 (by kernel_rfl) rfl (by kernel_rfl) ?_; intro w6 hS6 hst6))
    generalize wc.heap.size = bl at *
    have H10 := Lib.hid (And.intro hS6 (H9.out.2.trans hst6))
    clear hS6 hst6 H9
    go_upto_region 11 with (refine wpList_store_cell rfl 3 _ _ rfl H10.out.1 8 (i64 4194304) rfl rfl rfl (by simp) (by kernel_rfl) ?_; intro w7 hS7 hst7)
    simp only [List.setIfInBounds_toArray, List.set_cons_succ, List.set_cons_zero] at hS7
    have H11 := Lib.hid (And.intro hS7 (H10.out.2.trans hst7))
    clear hS7 hst7 H10
    go_upto_region 12 with (refine wpList_store_cell rfl _ _ _ rfl H11.out.1 7 (.slice none 0 0) rfl rfl rfl (by simp) (by kernel_rfl) ?_; intro w8 hS8 hst8)
    simp only [List.setIfInBounds_toArray, List.set_cons_succ, List.set_cons_zero] at hS8
    have H12 := Lib.hid (And.intro (hS8.addNil 51 2) (H11.out.2.trans hst8))
    clear hS8 hst8 H11 H8
    go_wp2_with fail
    go_loopw [19, 20] (fun aa bb wr => ∃ (a : Nat) (dv : Value), a ≤ rooms.length ∧ aa = .int .i64 a ∧ Sep wr [row 51 2 dv (pairs a 0).length (dcells (pairs a 0)), pts bl (.cells #[i64 players, .slice ba bodies.length bc, i64 x0, i64 y0, i64 x1, i64 y1, .slice ra rooms.length rc, dv, i64 4194304, i64 gx, i64 gy, i64 push, i64 drag, i64 rest, i64 rounds, i64 fuel] 31), rowI cv cs, pts bs (.cells #[i64 players, .slice ba bodies.length bc, i64 x0, i64 y0, i64 x1, i64 y1, .slice ra rooms.length rc, .slice da doors.length dc, i64 fog, i64 gx, i64 gy, i64 push, i64 drag, i64 rest, i64 rounds, i64 fuel] 31), pts bm (.cells #[i64 players, .slice ba bodies.length bc, i64 x0, i64 y0, i64 x1, i64 y1, .slice ra rooms.length rc, .slice dma dm.length dmc, i64 fm, i64 gx, i64 gy, i64 push, i64 drag, i64 rest, i64 rounds, i64 fuel] 31), D, old w1] ∧ Stable w1 wr) (fun a _ _ => rooms.length - (intOf a).toNat)
    case atStart => exact ⟨0, .slice none 0 0, by omega, rfl, H12.out.1, H12.out.2⟩
    case round =>
      obtain ⟨a, dv, ha, rfl, hSr, hst⟩ := hrel
      have HR := Lib.hid (And.intro hSr hst)
      clear hSr hst H12
      by_cases hlt : a < rooms.length
      · go_wp2_with fail
        obtain ⟨wo, hwo⟩ : ∃ wo : World, wo = wr := ⟨_, rfl⟩
        clear hwo
        go_loopw [20] (fun bb wr => ∃ (b : Nat) (dv : Value), b ≤ a ∧ bb = .int .i64 b ∧ Sep wr [row 51 2 dv (pairs a b).length (dcells (pairs a b)), pts bl (.cells #[i64 players, .slice ba bodies.length bc, i64 x0, i64 y0, i64 x1, i64 y1, .slice ra rooms.length rc, dv, i64 4194304, i64 gx, i64 gy, i64 push, i64 drag, i64 rest, i64 rounds, i64 fuel] 31), rowI cv cs, pts bs (.cells #[i64 players, .slice ba bodies.length bc, i64 x0, i64 y0, i64 x1, i64 y1, .slice ra rooms.length rc, .slice da doors.length dc, i64 fog, i64 gx, i64 gy, i64 push, i64 drag, i64 rest, i64 rounds, i64 fuel] 31), pts bm (.cells #[i64 players, .slice ba bodies.length bc, i64 x0, i64 y0, i64 x1, i64 y1, .slice ra rooms.length rc, .slice dma dm.length dmc, i64 fm, i64 gx, i64 gy, i64 push, i64 drag, i64 rest, i64 rounds, i64 fuel] 31), D, old w1] ∧ Stable w1 wr) (fun b _ => a - (intOf b).toNat)
        case atStart => exact ⟨0, dv, by omega, rfl, HR.out.1, HR.out.2⟩
        case round =>
          obtain ⟨b, dw, hb, rfl, hSr, hst⟩ := hrel
          by_cases hlb : b < a
          · have s7 := cell_of_blk (hSr.pick 1).get 7
            simp at s7
            have hpl5 := pairs_len (a := a) (b := b) (by omega) (by omega)
            have hps := pairs_succ a b
            generalize pairs a b = pq at *
            have hS9 : ∀ o, Sep (wr.alloc o) _ := fun o => hSr.allocBeside o
            have HS9 := Lib.hid (And.intro hS9 (And.intro hst hps))
            clear hS9 hSr hst hps
            go_wp2_with (at_builtin; refine wpList_append_sep rfl (.tmp 82) (.tmp 86) 27 27 rfl 51 iD _ 2 16 Try.underlying27 hD hD0 hD1 hD2 rfl _ _ _ rfl (HS9.out.1 _) 1 [i64 a, i64 b] (Src.ofSlice _ Try.underlying27 ⟨_, 0, none⟩ 1 1 _ rfl (fun j u hu => by rw [Addr.add_lit]; simpa using hu) (by simp [Value.oneCell'])) (by unfold maxLen; omega) (by omega) ?_; intro v4 w10 hS11 hst11 hn11; obtain ⟨na, nc, rfl, _⟩ := hS11.rowShape; have s7 := cell_of_blk (hS11.pick 1).get 7; simp at s7; have fz := frozen_of_blk (hS11.pick 1).get; have H11 := Lib.hid (And.intro hS11 ((HS9.out.2.1.alloc _).trans hst11)); clear hS11 hst11 hn11)
            have hS12 := (H11.out.1.pick 1).setCell 7 (.slice na (pq.length + 1) nc)
            simp only [List.setIfInBounds_toArray, List.set_cons_succ, List.set_cons_zero] at hS12
            refine ⟨⟨b + 1, .slice na (pq.length + 1) nc, by omega, by go_num, ?_, H11.out.2.setCell _ _⟩, by simp [intOf]; omega⟩
            rw [HS9.out.2.2, dcells_snoc, List.length_append]
            exact hS12.pick 1
          · obtain rfl : b = a := by omega
            have HR2 := Lib.hid (And.intro hSr hst)
            clear hSr hst
            go_wp2_with fail
            go_roundw
            case rel => exact ⟨b + 1, dw, by omega, by go_num, by rw [pairs_next]; exact HR2.out.1, HR2.out.2⟩
            case measure => simp [intOf]; omega
      · obtain rfl : a = rooms.length := by omega
        obtain ⟨dla, dlc, rfl, _⟩ := HR.out.1.rowShape
        have HA2 := Lib.hid (And.intro (HR.out.1.rowHeld) HR.out.2)
        clear HR
        have hbm : (Su.mk ⟨players, bodies.length, ba, bc, x0, y0, x1, y1, rooms, ra, rc, dm, dma, dmc, fm, gx, gy, push, drag, rest, rounds, fuel⟩ bodies).Base := by have b := HC.out.2.2.1.base; exact ⟨b.nb, b.players, b.more, b.few, b.bounds, b.gx, b.gy, b.push, b.drag, b.rest, b.rounds, b.fuel, b.bodies⟩
        have hba : (Su.mk ⟨players, bodies.length, ba, bc, x0, y0, x1, y1, rooms, ra, rc, pairs rooms.length 0, dla, dlc, 4194304, gx, gy, push, drag, rest, rounds, fuel⟩ bodies).Base := by have b := HC.out.2.2.1.base; exact ⟨b.nb, b.players, b.more, b.few, b.bounds, b.gx, b.gy, b.push, b.drag, b.rest, b.rounds, b.fuel, b.bodies⟩
        have hfm' : St.Fine ⟨players, bodies.length, ba, bc, x0, y0, x1, y1, rooms, ra, rc, dm, dma, dmc, fm, gx, gy, push, drag, rest, rounds, fuel⟩ := ⟨by have := HC.out.2.2.2.1.rooms; exact this, by have := HDM.out.1; dsimp only; omega, HDM.out.2.1⟩
        have hfa' : St.Fine ⟨players, bodies.length, ba, bc, x0, y0, x1, y1, rooms, ra, rc, pairs rooms.length 0, dla, dlc, 4194304, gx, gy, push, drag, rest, rounds, fuel⟩ := ⟨by have := HC.out.2.2.2.1.rooms; exact this, by dsimp only; have := pairs_len (a := rooms.length) (b := 0) (by omega) (by omega); omega, pairs_valid⟩
        have hsM := fun (W : World) (M : List Asn) (hW : Sep W (Sl.held 2 (.slice dla (pairs rooms.length 0).length dlc) (pairs rooms.length 0).length (dcells (pairs rooms.length 0)) :: pts bl (.cells #[i64 players, .slice ba bodies.length bc, i64 x0, i64 y0, i64 x1, i64 y1, .slice ra rooms.length rc, .slice dla (pairs rooms.length 0).length dlc, i64 4194304, i64 gx, i64 gy, i64 push, i64 drag, i64 rest, i64 rounds, i64 fuel] 31) :: rowI cv cs :: pts bs (.cells #[i64 players, .slice ba bodies.length bc, i64 x0, i64 y0, i64 x1, i64 y1, .slice ra rooms.length rc, .slice da doors.length dc, i64 fog, i64 gx, i64 gy, i64 push, i64 drag, i64 rest, i64 rounds, i64 fuel] 31) :: pts bm (.cells #[i64 players, .slice ba bodies.length bc, i64 x0, i64 y0, i64 x1, i64 y1, .slice ra rooms.length rc, .slice dma dm.length dmc, i64 fm, i64 gx, i64 gy, i64 push, i64 drag, i64 rest, i64 rounds, i64 fuel] 31) :: D :: old w1 :: M)) => seeing_at (W := W) (cv := cv) (cs := cs) (p := np) hbm hfm' (by dsimp only; omega) ⟨HC.out.2.2.2.2.rooms.of_heap (hW.pick 6).oldGet, HDM.out.2.2.2 W _ ((hW.pick 6).pick 6)⟩ HNP.out H4.out.2.2.2 (hW.pick 2).reads
        have hsA := fun (W : World) (M : List Asn) (hW : Sep W (Sl.held 2 (.slice dla (pairs rooms.length 0).length dlc) (pairs rooms.length 0).length (dcells (pairs rooms.length 0)) :: pts bl (.cells #[i64 players, .slice ba bodies.length bc, i64 x0, i64 y0, i64 x1, i64 y1, .slice ra rooms.length rc, .slice dla (pairs rooms.length 0).length dlc, i64 4194304, i64 gx, i64 gy, i64 push, i64 drag, i64 rest, i64 rounds, i64 fuel] 31) :: rowI cv cs :: pts bs (.cells #[i64 players, .slice ba bodies.length bc, i64 x0, i64 y0, i64 x1, i64 y1, .slice ra rooms.length rc, .slice da doors.length dc, i64 fog, i64 gx, i64 gy, i64 push, i64 drag, i64 rest, i64 rounds, i64 fuel] 31) :: pts bm (.cells #[i64 players, .slice ba bodies.length bc, i64 x0, i64 y0, i64 x1, i64 y1, .slice ra rooms.length rc, .slice dma dm.length dmc, i64 fm, i64 gx, i64 gy, i64 push, i64 drag, i64 rest, i64 rounds, i64 fuel] 31) :: D :: old w1 :: M)) => seeing_at (W := W) (cv := cv) (cs := cs) (p := np) hba hfa' (by dsimp only; omega) ⟨HC.out.2.2.2.2.rooms.of_heap (hW.pick 6).oldGet, hW.heldReads⟩ HNP.out H4.out.2.2.2 (hW.pick 2).reads
        have hSn := fun (W : World) (M : List Asn) (hW : Sep W (Sl.held 2 (.slice dla (pairs rooms.length 0).length dlc) (pairs rooms.length 0).length (dcells (pairs rooms.length 0)) :: pts bl (.cells #[i64 players, .slice ba bodies.length bc, i64 x0, i64 y0, i64 x1, i64 y1, .slice ra rooms.length rc, .slice dla (pairs rooms.length 0).length dlc, i64 4194304, i64 gx, i64 gy, i64 push, i64 drag, i64 rest, i64 rounds, i64 fuel] 31) :: rowI cv cs :: pts bs (.cells #[i64 players, .slice ba bodies.length bc, i64 x0, i64 y0, i64 x1, i64 y1, .slice ra rooms.length rc, .slice da doors.length dc, i64 fog, i64 gx, i64 gy, i64 push, i64 drag, i64 rest, i64 rounds, i64 fuel] 31) :: pts bm (.cells #[i64 players, .slice ba bodies.length bc, i64 x0, i64 y0, i64 x1, i64 y1, .slice ra rooms.length rc, .slice dma dm.length dmc, i64 fm, i64 gx, i64 gy, i64 push, i64 drag, i64 rest, i64 rounds, i64 fuel] 31) :: D :: old w1 :: M)) (p : Int) => Seen_spec (H4.out.2.2.1 W _ ((hW.pick 6).pick 3)) p
        have hSm := fun (W : World) (M : List Asn) (hW : Sep W (Sl.held 2 (.slice dla (pairs rooms.length 0).length dlc) (pairs rooms.length 0).length (dcells (pairs rooms.length 0)) :: pts bl (.cells #[i64 players, .slice ba bodies.length bc, i64 x0, i64 y0, i64 x1, i64 y1, .slice ra rooms.length rc, .slice dla (pairs rooms.length 0).length dlc, i64 4194304, i64 gx, i64 gy, i64 push, i64 drag, i64 rest, i64 rounds, i64 fuel] 31) :: rowI cv cs :: pts bs (.cells #[i64 players, .slice ba bodies.length bc, i64 x0, i64 y0, i64 x1, i64 y1, .slice ra rooms.length rc, .slice da doors.length dc, i64 fog, i64 gx, i64 gy, i64 push, i64 drag, i64 rest, i64 rounds, i64 fuel] 31) :: pts bm (.cells #[i64 players, .slice ba bodies.length bc, i64 x0, i64 y0, i64 x1, i64 y1, .slice ra rooms.length rc, .slice dma dm.length dmc, i64 fm, i64 gx, i64 gy, i64 push, i64 drag, i64 rest, i64 rounds, i64 fuel] 31) :: D :: old w1 :: M)) (p : Int) => Seen_spec (hsM W M hW) p
        have hSa := fun (W : World) (M : List Asn) (hW : Sep W (Sl.held 2 (.slice dla (pairs rooms.length 0).length dlc) (pairs rooms.length 0).length (dcells (pairs rooms.length 0)) :: pts bl (.cells #[i64 players, .slice ba bodies.length bc, i64 x0, i64 y0, i64 x1, i64 y1, .slice ra rooms.length rc, .slice dla (pairs rooms.length 0).length dlc, i64 4194304, i64 gx, i64 gy, i64 push, i64 drag, i64 rest, i64 rounds, i64 fuel] 31) :: rowI cv cs :: pts bs (.cells #[i64 players, .slice ba bodies.length bc, i64 x0, i64 y0, i64 x1, i64 y1, .slice ra rooms.length rc, .slice da doors.length dc, i64 fog, i64 gx, i64 gy, i64 push, i64 drag, i64 rest, i64 rounds, i64 fuel] 31) :: pts bm (.cells #[i64 players, .slice ba bodies.length bc, i64 x0, i64 y0, i64 x1, i64 y1, .slice ra rooms.length rc, .slice dma dm.length dmc, i64 fm, i64 gx, i64 gy, i64 push, i64 drag, i64 rest, i64 rounds, i64 fuel] 31) :: D :: old w1 :: M)) (p i : Int) (h : 0 ≤ p ∧ p < players ∧ 0 ≤ i ∧ i < bodies.length) => by
          have := Sees_spec (hsA W M hW) p i
          rw [seesB_all rfl rfl (hsA W M hW).near hmo h] at this
          exact this
        have hRa := fun (W : World) (M : List Asn) (hW : Sep W (Sl.held 2 (.slice dla (pairs rooms.length 0).length dlc) (pairs rooms.length 0).length (dcells (pairs rooms.length 0)) :: pts bl (.cells #[i64 players, .slice ba bodies.length bc, i64 x0, i64 y0, i64 x1, i64 y1, .slice ra rooms.length rc, .slice dla (pairs rooms.length 0).length dlc, i64 4194304, i64 gx, i64 gy, i64 push, i64 drag, i64 rest, i64 rounds, i64 fuel] 31) :: rowI cv cs :: pts bs (.cells #[i64 players, .slice ba bodies.length bc, i64 x0, i64 y0, i64 x1, i64 y1, .slice ra rooms.length rc, .slice da doors.length dc, i64 fog, i64 gx, i64 gy, i64 push, i64 drag, i64 rest, i64 rounds, i64 fuel] 31) :: pts bm (.cells #[i64 players, .slice ba bodies.length bc, i64 x0, i64 y0, i64 x1, i64 y1, .slice ra rooms.length rc, .slice dma dm.length dmc, i64 fm, i64 gx, i64 gy, i64 push, i64 drag, i64 rest, i64 rounds, i64 fuel] 31) :: D :: old w1 :: M)) (x y : Int) => Room_spec (hsA W M hW).reads hfa' x y
        have hPa := fun (W : World) (M : List Asn) (hW : Sep W (Sl.held 2 (.slice dla (pairs rooms.length 0).length dlc) (pairs rooms.length 0).length (dcells (pairs rooms.length 0)) :: pts bl (.cells #[i64 players, .slice ba bodies.length bc, i64 x0, i64 y0, i64 x1, i64 y1, .slice ra rooms.length rc, .slice dla (pairs rooms.length 0).length dlc, i64 4194304, i64 gx, i64 gy, i64 push, i64 drag, i64 rest, i64 rounds, i64 fuel] 31) :: rowI cv cs :: pts bs (.cells #[i64 players, .slice ba bodies.length bc, i64 x0, i64 y0, i64 x1, i64 y1, .slice ra rooms.length rc, .slice da doors.length dc, i64 fog, i64 gx, i64 gy, i64 push, i64 drag, i64 rest, i64 rounds, i64 fuel] 31) :: pts bm (.cells #[i64 players, .slice ba bodies.length bc, i64 x0, i64 y0, i64 x1, i64 y1, .slice ra rooms.length rc, .slice dma dm.length dmc, i64 fm, i64 gx, i64 gy, i64 push, i64 drag, i64 rest, i64 rounds, i64 fuel] 31) :: D :: old w1 :: M)) (k : Nat) (hk : k < bodies.length) => by
          have hat : bodyAt ⟨players, bodies.length, ba, bc, x0, y0, x1, y1, rooms, ra, rc, pairs rooms.length 0, dla, dlc, 4194304, gx, gy, push, drag, rest, rounds, fuel⟩ k = ((48 + 4 * np + 8 * k : Nat) : Int) := by have := HNP.out; unfold bodyAt; dsimp only at this ⊢; rw [if_pos (by omega)]; omega
          have hx := place_in (w := W) (Su.mk ⟨players, bodies.length, ba, bc, x0, y0, x1, y1, rooms, ra, rc, pairs rooms.length 0, dla, dlc, 4194304, gx, gy, push, drag, rest, rounds, fuel⟩ bodies) (by dsimp only; omega) rfl (by dsimp only; omega) (HBR.out.of_heap (hW.pick 6).oldGet) (hW.pick 2).reads k _ hk hat (by have := H4.out.2.2.2.1; omega)
          have e1 : posX ⟨players, bodies.length, ba, bc, x0, y0, x1, y1, rooms, ra, rc, pairs rooms.length 0, dla, dlc, 4194304, gx, gy, push, drag, rest, rounds, fuel⟩ cs k = cs.getD (48 + 4 * np + 8 * k) 0 := by unfold posX; rw [hat]; rfl
          have e2 : posY ⟨players, bodies.length, ba, bc, x0, y0, x1, y1, rooms, ra, rc, pairs rooms.length 0, dla, dlc, 4194304, gx, gy, push, drag, rest, rounds, fuel⟩ cs k = cs.getD (48 + 4 * np + 8 * k + 1) 0 := by unfold posY; rw [hat]; rfl
          rw [← e1, ← e2] at hx
          exact hx
        have hmono := fun (p : Int) (k : Nat) (hk : k < (seenL ⟨players, bodies.length, ba, bc, x0, y0, x1, y1, rooms, ra, rc, doors, da, dc, fog, gx, gy, push, drag, rest, rounds, fuel⟩ cs p).length) => seenL_more (s := ⟨players, bodies.length, ba, bc, x0, y0, x1, y1, rooms, ra, rc, doors, da, dc, fog, gx, gy, push, drag, rest, rounds, fuel⟩) (m := ⟨players, bodies.length, ba, bc, x0, y0, x1, y1, rooms, ra, rc, dm, dma, dmc, fm, gx, gy, push, drag, rest, rounds, fuel⟩) (cs := cs) (p := p) rfl rfl rfl HDM.out.2.2.1 hf0 hfm1 k hk
        have hqs := seenL_length ⟨players, bodies.length, ba, bc, x0, y0, x1, y1, rooms, ra, rc, doors, da, dc, fog, gx, gy, push, drag, rest, rounds, fuel⟩ cs
        have hqm := seenL_length ⟨players, bodies.length, ba, bc, x0, y0, x1, y1, rooms, ra, rc, dm, dma, dmc, fm, gx, gy, push, drag, rest, rounds, fuel⟩ cs
        dsimp only [St.val] at hSn hSm hSa hRa hPa hmono hqs hqm
        generalize seenL ⟨players, bodies.length, ba, bc, x0, y0, x1, y1, rooms, ra, rc, doors, da, dc, fog, gx, gy, push, drag, rest, rounds, fuel⟩ cs = qs at *
        generalize seenL ⟨players, bodies.length, ba, bc, x0, y0, x1, y1, rooms, ra, rc, dm, dma, dmc, fm, gx, gy, push, drag, rest, rounds, fuel⟩ cs = qm at *
        generalize hro : roomOf ⟨players, bodies.length, ba, bc, x0, y0, x1, y1, rooms, ra, rc, pairs rooms.length 0, dla, dlc, 4194304, gx, gy, push, drag, rest, rounds, fuel⟩ cs = ro at *
        have hRo := fun (W : World) (M : List Asn) (hW : Sep W (Sl.held 2 (.slice dla (pairs rooms.length 0).length dlc) (pairs rooms.length 0).length (dcells (pairs rooms.length 0)) :: pts bl (.cells #[i64 players, .slice ba bodies.length bc, i64 x0, i64 y0, i64 x1, i64 y1, .slice ra rooms.length rc, .slice dla (pairs rooms.length 0).length dlc, i64 4194304, i64 gx, i64 gy, i64 push, i64 drag, i64 rest, i64 rounds, i64 fuel] 31) :: rowI cv cs :: pts bs (.cells #[i64 players, .slice ba bodies.length bc, i64 x0, i64 y0, i64 x1, i64 y1, .slice ra rooms.length rc, .slice da doors.length dc, i64 fog, i64 gx, i64 gy, i64 push, i64 drag, i64 rest, i64 rounds, i64 fuel] 31) :: pts bm (.cells #[i64 players, .slice ba bodies.length bc, i64 x0, i64 y0, i64 x1, i64 y1, .slice ra rooms.length rc, .slice dma dm.length dmc, i64 fm, i64 gx, i64 gy, i64 push, i64 drag, i64 rest, i64 rounds, i64 fuel] 31) :: D :: old w1 :: M)) (i : Nat) => by
          have := hRa W M hW (posX ⟨players, bodies.length, ba, bc, x0, y0, x1, y1, rooms, ra, rc, pairs rooms.length 0, dla, dlc, 4194304, gx, gy, push, drag, rest, rounds, fuel⟩ cs i) (posY ⟨players, bodies.length, ba, bc, x0, y0, x1, y1, rooms, ra, rc, pairs rooms.length 0, dla, dlc, 4194304, gx, gy, push, drag, rest, rounds, fuel⟩ cs i)
          rw [show roomIx rooms (posX ⟨players, bodies.length, ba, bc, x0, y0, x1, y1, rooms, ra, rc, pairs rooms.length 0, dla, dlc, 4194304, gx, gy, push, drag, rest, rounds, fuel⟩ cs i) (posY ⟨players, bodies.length, ba, bc, x0, y0, x1, y1, rooms, ra, rc, pairs rooms.length 0, dla, dlc, 4194304, gx, gy, push, drag, rest, rounds, fuel⟩ cs i) = ro i from congrFun hro i] at this
          exact this
        generalize posX ⟨players, bodies.length, ba, bc, x0, y0, x1, y1, rooms, ra, rc, pairs rooms.length 0, dla, dlc, 4194304, gx, gy, push, drag, rest, rounds, fuel⟩ cs = X at *
        generalize posY ⟨players, bodies.length, ba, bc, x0, y0, x1, y1, rooms, ra, rc, pairs rooms.length 0, dla, dlc, 4194304, gx, gy, push, drag, rest, rounds, fuel⟩ cs = Y at *
        have HK := Lib.hid (And.intro hSn (And.intro hSm (And.intro hSa (And.intro hRo (And.intro hPa (And.intro hmono (And.intro hqs hqm)))))))
        clear hbm hba hfm' hfa' hsM hsA hSn hSm hSa hRa hPa hmono hqs hqm hro hRo
        generalize hdl : pairs rooms.length 0 = dl at *
        clear hdl hlt
        go_wp2_with fail
        go_loopw [21, 22, 23, 24, 25, 26, 27] (fun kk a b c d e f wr => ∃ k : Nat, (k : Int) ≤ players ∧ kk = .int .i64 k ∧ Sep wr [Sl.held 2 (.slice dla dl.length dlc) dl.length (dcells dl), pts bl (.cells #[i64 players, .slice ba bodies.length bc, i64 x0, i64 y0, i64 x1, i64 y1, .slice ra rooms.length rc, .slice dla dl.length dlc, i64 4194304, i64 gx, i64 gy, i64 push, i64 drag, i64 rest, i64 rounds, i64 fuel] 31), rowI cv cs, pts bs (.cells #[i64 players, .slice ba bodies.length bc, i64 x0, i64 y0, i64 x1, i64 y1, .slice ra rooms.length rc, .slice da doors.length dc, i64 fog, i64 gx, i64 gy, i64 push, i64 drag, i64 rest, i64 rounds, i64 fuel] 31), pts bm (.cells #[i64 players, .slice ba bodies.length bc, i64 x0, i64 y0, i64 x1, i64 y1, .slice ra rooms.length rc, .slice dma dm.length dmc, i64 fm, i64 gx, i64 gy, i64 push, i64 drag, i64 rest, i64 rounds, i64 fuel] 31), D, old w1] ∧ Stable w1 wr) (fun k _ _ _ _ _ _ _ => (players - intOf k).toNat)
        case atStart => exact ⟨0, by omega, rfl, HA2.out.1, HA2.out.2⟩
        case round =>
          obtain ⟨k, hk, rfl, hSr, hst⟩ := hrel
          have s0 := cell_of_blk (hSr.pick 3).get 0
          simp at s0
          have HR := Lib.hid (And.intro hSr hst)
          clear hSr hst HA2
          by_cases hlt : (k : Int) < players
          · have hl1 := HK.out.2.2.2.2.2.2.1 k
            have hl2 := HK.out.2.2.2.2.2.2.2 k
            have hmo2 := HK.out.2.2.2.2.2.1 k
            have h1 := fun W M hW => HK.out.1 W M hW k
            have h2 := fun W M hW => HK.out.2.1 W M hW k
            generalize qs k = l1 at *
            generalize qm k = l2 at *
            have HL := Lib.hid (And.intro hmo2 (And.intro h1 h2))

            clear hmo2 h1 h2
            go_wp2_with (refine wpList_load_g 31 _ rfl _ rfl _ _ _ _ (Sep.get (Sep.pick 3 HR.out.1)) Try.underlying31 rfl (by kernel_rfl) (by first | rfl | (go_simp; done) | (go_simp; omega)) ?_)
            refine (HL.out.2.1 _ _ HR.out.1).mono ?_
            rintro e w7 ⟨v1, rfl, hS7, hst7⟩
            have H7 := Lib.hid (And.intro (HR.out.1.mount (hS7.pick 1)) (HR.out.2.trans hst7))
            clear hS7 hst7 s0
            go_wp2_with (refine wpList_load_g 31 _ rfl _ rfl _ _ _ _ (Sep.get (Sep.pick 5 H7.out.1)) Try.underlying31 rfl (by kernel_rfl) (by first | rfl | (go_simp; done) | (go_simp; omega)) ?_)
            refine (HL.out.2.2 _ _ (Sep.drop H7.out.1)).mono ?_
            rintro e w8 ⟨v2, rfl, hS8, hst8⟩
            have hS9 := H7.out.1.mount (hS8.pick 1)
            have hst9 := H7.out.2.trans hst8
            obtain ⟨a1, c1, rfl, _⟩ := (hS9.pick 1).rowShape
            have H9 := Lib.hid (And.intro (show Sep w8 (rowI v2 l2 :: rowI (.slice a1 l1.length c1) l1 :: [Sl.held 2 (.slice dla dl.length dlc) dl.length (dcells dl), pts bl (.cells #[i64 players, .slice ba bodies.length bc, i64 x0, i64 y0, i64 x1, i64 y1, .slice ra rooms.length rc, .slice dla dl.length dlc, i64 4194304, i64 gx, i64 gy, i64 push, i64 drag, i64 rest, i64 rounds, i64 fuel] 31), rowI cv cs, pts bs (.cells #[i64 players, .slice ba bodies.length bc, i64 x0, i64 y0, i64 x1, i64 y1, .slice ra rooms.length rc, .slice da doors.length dc, i64 fog, i64 gx, i64 gy, i64 push, i64 drag, i64 rest, i64 rounds, i64 fuel] 31), pts bm (.cells #[i64 players, .slice ba bodies.length bc, i64 x0, i64 y0, i64 x1, i64 y1, .slice ra rooms.length rc, .slice dma dm.length dmc, i64 fm, i64 gx, i64 gy, i64 push, i64 drag, i64 rest, i64 rounds, i64 fuel] 31), D, old w1]) from hS9) hst9)
            clear hS8 hst8 hS9 hst9 H7
            go_wp2_with fail
            obtain ⟨wo, hwo⟩ : ∃ wo : World, wo = w8 := ⟨_, rfl⟩
            clear hwo
            go_loopw [24] (fun ii wr => ∃ i : Nat, i ≤ l1.length ∧ ii = .int .i64 i ∧ Sep wr (rowI v2 l2 :: rowI (.slice a1 l1.length c1) l1 :: [Sl.held 2 (.slice dla dl.length dlc) dl.length (dcells dl), pts bl (.cells #[i64 players, .slice ba bodies.length bc, i64 x0, i64 y0, i64 x1, i64 y1, .slice ra rooms.length rc, .slice dla dl.length dlc, i64 4194304, i64 gx, i64 gy, i64 push, i64 drag, i64 rest, i64 rounds, i64 fuel] 31), rowI cv cs, pts bs (.cells #[i64 players, .slice ba bodies.length bc, i64 x0, i64 y0, i64 x1, i64 y1, .slice ra rooms.length rc, .slice da doors.length dc, i64 fog, i64 gx, i64 gy, i64 push, i64 drag, i64 rest, i64 rounds, i64 fuel] 31), pts bm (.cells #[i64 players, .slice ba bodies.length bc, i64 x0, i64 y0, i64 x1, i64 y1, .slice ra rooms.length rc, .slice dma dm.length dmc, i64 fm, i64 gx, i64 gy, i64 push, i64 drag, i64 rest, i64 rounds, i64 fuel] 31), D, old w1]) ∧ Stable w1 wr) (fun i _ => l1.length - (intOf i).toNat)
            case atStart => exact ⟨0, by omega, rfl, H9.out.1, H9.out.2⟩
            case round =>
              obtain ⟨i, hi, rfl, hSr, hst⟩ := hrel
              have H10 := Lib.hid (And.intro hSr hst)
              by_cases hli : i < l1.length
              · obtain ⟨g1, cap1, hv, _, _, hcc, _⟩ := rowI_at (hSr.pick 1) (by omega)
                obtain ⟨rfl, rfl⟩ : a1 = some ⟨g1, 0, none⟩ ∧ c1 = cap1 := by simpa using hv
                have c0 := hcc i hli
                have hh := Has_true (HL.out.1 i hli) hSr.reads (by omega)
                generalize l1.getD i 0 = y at *
                have HH := Lib.hid hh
                clear hv hcc hh hSr hst
                go_wp2_with fail
                refine HH.out.mono ?_
                rintro e w9 ⟨rfl, rfl⟩
                go_wp2_with fail
                go_roundw
                case rel => exact ⟨i + 1, by omega, by go_num, H10.out.1, H10.out.2⟩
                case measure => simp [intOf]; omega
              · obtain rfl : i = l1.length := by omega
                clear hSr hst
                have H11 := Lib.hid (And.intro (Sep.drop (Sep.drop H10.out.1)) H10.out.2)
                clear H10 H9
                have hkb : k < bodies.length := by omega
                go_upto_region 29 with fail
                go_cut [25] from 116 to 121 (fun x25 wx => x25 = i64 (ro k) ∧ Sep wx [Sl.held 2 (.slice dla dl.length dlc) dl.length (dcells dl), pts bl (.cells #[i64 players, .slice ba bodies.length bc, i64 x0, i64 y0, i64 x1, i64 y1, .slice ra rooms.length rc, .slice dla dl.length dlc, i64 4194304, i64 gx, i64 gy, i64 push, i64 drag, i64 rest, i64 rounds, i64 fuel] 31), rowI cv cs, pts bs (.cells #[i64 players, .slice ba bodies.length bc, i64 x0, i64 y0, i64 x1, i64 y1, .slice ra rooms.length rc, .slice da doors.length dc, i64 fog, i64 gx, i64 gy, i64 push, i64 drag, i64 rest, i64 rounds, i64 fuel] 31), pts bm (.cells #[i64 players, .slice ba bodies.length bc, i64 x0, i64 y0, i64 x1, i64 y1, .slice ra rooms.length rc, .slice dma dm.length dmc, i64 fm, i64 gx, i64 gy, i64 push, i64 drag, i64 rest, i64 rounds, i64 fuel] 31), D, old w1] ∧ Stable w1 wx)
                case first =>
                  refine wp_region_dag (w0 := w1) 7 [some 116, some 117, some 118, some 119, some 120, some 121, some 25] [.det [] (.agg #[i64 players, .slice ba bodies.length bc, i64 x0, i64 y0, i64 x1, i64 y1, .slice ra rooms.length rc, .slice dla dl.length dlc, i64 4194304, i64 gx, i64 gy, i64 push, i64 drag, i64 rest, i64 rounds, i64 fuel]), .det [] (.agg #[i64 players, .slice ba bodies.length bc, i64 x0, i64 y0, i64 x1, i64 y1, .slice ra rooms.length rc, .slice dla dl.length dlc, i64 4194304, i64 gx, i64 gy, i64 push, i64 drag, i64 rest, i64 rounds, i64 fuel]), .det [] (cv), .det [] (i64 k), .det [1, 2, 3] (.agg #[i64 (X k), i64 (Y k)]), .det [0, 4] (i64 (ro k)), .det [5] (i64 (ro k))] [Sl.held 2 (.slice dla dl.length dlc) dl.length (dcells dl), pts bl (.cells #[i64 players, .slice ba bodies.length bc, i64 x0, i64 y0, i64 x1, i64 y1, .slice ra rooms.length rc, .slice dla dl.length dlc, i64 4194304, i64 gx, i64 gy, i64 push, i64 drag, i64 rest, i64 rounds, i64 fuel] 31), rowI cv cs, pts bs (.cells #[i64 players, .slice ba bodies.length bc, i64 x0, i64 y0, i64 x1, i64 y1, .slice ra rooms.length rc, .slice da doors.length dc, i64 fog, i64 gx, i64 gy, i64 push, i64 drag, i64 rest, i64 rounds, i64 fuel] 31), pts bm (.cells #[i64 players, .slice ba bodies.length bc, i64 x0, i64 y0, i64 x1, i64 y1, .slice ra rooms.length rc, .slice dma dm.length dmc, i64 fm, i64 gx, i64 gy, i64 push, i64 drag, i64 rest, i64 rounds, i64 fuel] 31), D, old w1] [] rfl (by kernel_rfl) (by kernel_rfl) (by kernel_rfl) (by kernel_rfl) (H11.out.1) (H11.out.2) ⟨⟨⟨⟨⟨⟨⟨trivial, ?_⟩, ?_⟩, ?_⟩, ?_⟩, ?_⟩, ?_⟩, ?_⟩ ?_
                  · refine all7 fun z0 z1 z2 z3 z4 z5 z6 W L hv hS hst a ha K hK => ?_
                    simp only [dagPut, Act.put, List.setIfInBounds_toArray, List.set_cons_zero, List.set_cons_succ] at ha
                    subst ha
                    refine wpOp_plain rfl rfl ?_
                    simp only [Act.put, List.setIfInBounds_toArray, List.set_cons_zero, List.set_cons_succ, List.getD_cons_zero] at hK
                    refine wp_load_row 31 _ rfl _ rfl _ _ _ _ (Sep.get (L := _) (Sep.pick 1 hS)) Try.underlying31 rfl (by kernel_rfl) ?_
                    exact hK.out _ _ rfl (sepEmp hS) hst
                  · refine all7 fun z0 z1 z2 z3 z4 z5 z6 W L hv hS hst a ha K hK => ?_
                    simp only [dagPut, Act.put, List.setIfInBounds_toArray, List.set_cons_zero, List.set_cons_succ] at ha
                    subst ha
                    refine wpOp_plain rfl rfl ?_
                    simp only [Act.put, List.setIfInBounds_toArray, List.set_cons_zero, List.set_cons_succ, List.getD_cons_succ, List.getD_cons_zero] at hK
                    refine wp_load_row 31 _ rfl _ rfl _ _ _ _ (Sep.get (L := _) (Sep.pick 1 hS)) Try.underlying31 rfl (by kernel_rfl) ?_
                    exact hK.out _ _ rfl (sepEmp hS) hst
                  · refine all7 fun z0 z1 z2 z3 z4 z5 z6 W L hv hS hst a ha K hK => ?_
                    simp only [dagPut, Act.put, List.setIfInBounds_toArray, List.set_cons_zero, List.set_cons_succ] at ha
                    subst ha
                    refine wpOp_plain rfl rfl ?_
                    simp only [Act.put, List.setIfInBounds_toArray, List.set_cons_zero, List.set_cons_succ, List.getD_cons_succ, List.getD_cons_zero] at hK
                    go_simp
                    exact hK.out _ _ rfl (sepEmp hS) hst
                  · refine all7 fun z0 z1 z2 z3 z4 z5 z6 W L hv hS hst a ha K hK => ?_
                    simp only [dagPut, Act.put, List.setIfInBounds_toArray, List.set_cons_zero, List.set_cons_succ] at ha
                    subst ha
                    refine wpOp_plain rfl rfl ?_
                    simp only [Act.put, List.setIfInBounds_toArray, List.set_cons_zero, List.set_cons_succ, List.getD_cons_succ, List.getD_cons_zero] at hK
                    go_simp
                    exact hK.out _ _ rfl (sepEmp hS) hst
                  · refine all7 fun z0 z1 z2 z3 z4 z5 z6 W L hv hS hst a ha K hK => ?_
                    obtain ⟨v1, v2, v3, _⟩ := hv
                    obtain rfl : z1 = _ := v1
                    obtain rfl : z2 = _ := v2
                    obtain rfl : z3 = _ := v3
                    simp only [dagPut, Act.put, List.setIfInBounds_toArray, List.set_cons_zero, List.set_cons_succ] at ha
                    subst ha
                    refine wpOp_plain rfl rfl ?_
                    simp only [Act.put, List.setIfInBounds_toArray, List.set_cons_zero, List.set_cons_succ, List.getD_cons_succ, List.getD_cons_zero] at hK
                    go_simp
                    refine (HK.out.2.2.2.2.1 W _ hS k hkb).mono ?_
                    rintro e w3 ⟨rfl, hS3, hst3⟩
                    exact hK.out _ _ rfl (sepEmp (Sep.mount (M := []) hS hS3)) (hst.trans hst3)
                  · refine all7 fun z0 z1 z2 z3 z4 z5 z6 W L hv hS hst a ha K hK => ?_
                    obtain ⟨v0, v4, _⟩ := hv
                    obtain rfl : z0 = _ := v0
                    obtain rfl : z4 = _ := v4
                    simp only [dagPut, Act.put, List.setIfInBounds_toArray, List.set_cons_zero, List.set_cons_succ] at ha
                    subst ha
                    refine wpOp_plain rfl rfl ?_
                    simp only [Act.put, List.setIfInBounds_toArray, List.set_cons_zero, List.set_cons_succ, List.getD_cons_succ, List.getD_cons_zero] at hK
                    go_simp
                    refine (HK.out.2.2.2.1 W _ hS k).mono ?_
                    rintro e w3 ⟨rfl, hS3, hst3⟩
                    exact hK.out _ _ rfl (sepEmp (Sep.mount (M := []) hS hS3)) (hst.trans hst3)
                  · refine all7 fun z0 z1 z2 z3 z4 z5 z6 W L hv hS hst a ha K hK => ?_
                    obtain ⟨v5, _⟩ := hv
                    obtain rfl : z5 = _ := v5
                    simp only [dagPut, Act.put, List.setIfInBounds_toArray, List.set_cons_zero, List.set_cons_succ] at ha
                    subst ha
                    refine wpOp_plain rfl rfl ?_
                    simp only [Act.put, List.setIfInBounds_toArray, List.set_cons_zero, List.set_cons_succ, List.getD_cons_succ, List.getD_cons_zero] at hK
                    go_simp
                    exact hK.out _ _ rfl (sepEmp hS) hst
                  · refine all7 fun z0 z1 z2 z3 z4 z5 z6 W hv hS hst a ha => ?_
                    obtain ⟨⟨⟨⟨⟨⟨⟨_, v0⟩, v1⟩, v2⟩, v3⟩, v4⟩, v5⟩, v6⟩ := hv
                    obtain rfl : z0 = _ := v0
                    obtain rfl : z1 = _ := v1
                    obtain rfl : z2 = _ := v2
                    obtain rfl : z3 = _ := v3
                    obtain rfl : z4 = _ := v4
                    obtain rfl : z5 = _ := v5
                    obtain rfl : z6 = _ := v6
                    simp only [dagPut, Act.put, List.setIfInBounds_toArray, List.set_cons_zero, List.set_cons_succ] at ha; subst ha
                    go_wp2_with fail
                    go_meet
                    exact ⟨rfl, hS, hst⟩
                case rest =>
                  obtain ⟨rfl, hS, hst⟩ := hcut
                  have H12 := Lib.hid (And.intro hS hst)
                  clear hS hst H11
                  go_wp2_with fail
                  go_loopw [26, 27] (fun ii c wr => ∃ i : Nat, i ≤ bodies.length ∧ ii = .int .i64 i ∧ Sep wr [Sl.held 2 (.slice dla dl.length dlc) dl.length (dcells dl), pts bl (.cells #[i64 players, .slice ba bodies.length bc, i64 x0, i64 y0, i64 x1, i64 y1, .slice ra rooms.length rc, .slice dla dl.length dlc, i64 4194304, i64 gx, i64 gy, i64 push, i64 drag, i64 rest, i64 rounds, i64 fuel] 31), rowI cv cs, pts bs (.cells #[i64 players, .slice ba bodies.length bc, i64 x0, i64 y0, i64 x1, i64 y1, .slice ra rooms.length rc, .slice da doors.length dc, i64 fog, i64 gx, i64 gy, i64 push, i64 drag, i64 rest, i64 rounds, i64 fuel] 31), pts bm (.cells #[i64 players, .slice ba bodies.length bc, i64 x0, i64 y0, i64 x1, i64 y1, .slice ra rooms.length rc, .slice dma dm.length dmc, i64 fm, i64 gx, i64 gy, i64 push, i64 drag, i64 rest, i64 rounds, i64 fuel] 31), D, old w1] ∧ Stable w1 wr) (fun i _ _ => bodies.length - (intOf i).toNat)
                  case atStart => exact ⟨0, by omega, rfl, H12.out.1, H12.out.2⟩
                  case round =>
                    obtain ⟨i, hi, rfl, hSr, hst⟩ := hrel
                    have s2 := cell_of_blk (hSr.pick 3).get 1
                    simp at s2
                    have H13 := Lib.hid (And.intro hSr hst)
                    clear hSr hst H12
                    by_cases hlb : i < bodies.length
                    · have hsa := fun (W : World) (M : List Asn) (hW : Sep W (Sl.held 2 (.slice dla dl.length dlc) dl.length (dcells dl) :: pts bl (.cells #[i64 players, .slice ba bodies.length bc, i64 x0, i64 y0, i64 x1, i64 y1, .slice ra rooms.length rc, .slice dla dl.length dlc, i64 4194304, i64 gx, i64 gy, i64 push, i64 drag, i64 rest, i64 rounds, i64 fuel] 31) :: rowI cv cs :: pts bs (.cells #[i64 players, .slice ba bodies.length bc, i64 x0, i64 y0, i64 x1, i64 y1, .slice ra rooms.length rc, .slice da doors.length dc, i64 fog, i64 gx, i64 gy, i64 push, i64 drag, i64 rest, i64 rounds, i64 fuel] 31) :: pts bm (.cells #[i64 players, .slice ba bodies.length bc, i64 x0, i64 y0, i64 x1, i64 y1, .slice ra rooms.length rc, .slice dma dm.length dmc, i64 fm, i64 gx, i64 gy, i64 push, i64 drag, i64 rest, i64 rounds, i64 fuel] 31) :: D :: old w1 :: M)) => HK.out.2.2.1 W M hW k i (by omega)
                      generalize hV : ((k : Int) == (i : Int) || (decide (0 ≤ ro k) && decide (0 ≤ ro i))) = V at *
                      have HSA := Lib.hid hsa
                      have HV0 := Lib.hid hV
                      clear hsa hV
                      go_upto_region 33 with fail
                      go_cut [27] from 129 to 144 (fun x27 wx => x27 = .bool V ∧ Sep wx [Sl.held 2 (.slice dla dl.length dlc) dl.length (dcells dl), pts bl (.cells #[i64 players, .slice ba bodies.length bc, i64 x0, i64 y0, i64 x1, i64 y1, .slice ra rooms.length rc, .slice dla dl.length dlc, i64 4194304, i64 gx, i64 gy, i64 push, i64 drag, i64 rest, i64 rounds, i64 fuel] 31), rowI cv cs, pts bs (.cells #[i64 players, .slice ba bodies.length bc, i64 x0, i64 y0, i64 x1, i64 y1, .slice ra rooms.length rc, .slice da doors.length dc, i64 fog, i64 gx, i64 gy, i64 push, i64 drag, i64 rest, i64 rounds, i64 fuel] 31), pts bm (.cells #[i64 players, .slice ba bodies.length bc, i64 x0, i64 y0, i64 x1, i64 y1, .slice ra rooms.length rc, .slice dma dm.length dmc, i64 fm, i64 gx, i64 gy, i64 push, i64 drag, i64 rest, i64 rounds, i64 fuel] 31), D, old w1] ∧ Stable w1 wx)
                      case first =>
                        by_cases hik : i = k
                        · have HV := Lib.hid (show V = true by rw [← HV0.out, hik]; simp)
                          have g1 : ((i : Int) == (k : Int)) = true := by rw [beq_iff_eq]; omega
                          have HIK := Lib.hid hik
                          clear hik
                          refine wp_region_dag (w0 := w1) 17 [some 129, some 130, some 131, some 132, some 133, some 134, some 135, some 136, some 137, some 138, some 139, some 140, some 141, some 142, some 143, some 144, some 27] [.det [] (i64 i), .det [] (i64 k), .det [0, 1] (.bool true), .det [2] (.bool true), .det [3] undef, .det [3] undef, .det [3] undef, .det [6] undef, .det [6] undef, .det [6] undef, .det [6] undef, .det [6] undef, .det [6] undef, .det [6] undef, .det [3] undef, .det [3] (.bool true), .det [15] (.bool true)] [Sl.held 2 (.slice dla dl.length dlc) dl.length (dcells dl), pts bl (.cells #[i64 players, .slice ba bodies.length bc, i64 x0, i64 y0, i64 x1, i64 y1, .slice ra rooms.length rc, .slice dla dl.length dlc, i64 4194304, i64 gx, i64 gy, i64 push, i64 drag, i64 rest, i64 rounds, i64 fuel] 31), rowI cv cs, pts bs (.cells #[i64 players, .slice ba bodies.length bc, i64 x0, i64 y0, i64 x1, i64 y1, .slice ra rooms.length rc, .slice da doors.length dc, i64 fog, i64 gx, i64 gy, i64 push, i64 drag, i64 rest, i64 rounds, i64 fuel] 31), pts bm (.cells #[i64 players, .slice ba bodies.length bc, i64 x0, i64 y0, i64 x1, i64 y1, .slice ra rooms.length rc, .slice dma dm.length dmc, i64 fm, i64 gx, i64 gy, i64 push, i64 drag, i64 rest, i64 rounds, i64 fuel] 31), D, old w1] [] rfl (by kernel_rfl) (by kernel_rfl) (by kernel_rfl) (by kernel_rfl) (H13.out.1) (H13.out.2) ⟨⟨⟨⟨⟨⟨⟨⟨⟨⟨⟨⟨⟨⟨⟨⟨⟨trivial, ?_⟩, ?_⟩, ?_⟩, ?_⟩, ?_⟩, ?_⟩, ?_⟩, ?_⟩, ?_⟩, ?_⟩, ?_⟩, ?_⟩, ?_⟩, ?_⟩, ?_⟩, ?_⟩, ?_⟩ ?_
                          · refine all17 fun z0 z1 z2 z3 z4 z5 z6 z7 z8 z9 z10 z11 z12 z13 z14 z15 z16 W L hv hS hst a ha K hK => ?_
                            simp only [dagPut, Act.put, List.setIfInBounds_toArray, List.set_cons_zero, List.set_cons_succ] at ha
                            subst ha
                            refine wpOp_plain rfl rfl ?_
                            simp only [Act.put, List.setIfInBounds_toArray, List.set_cons_zero, List.set_cons_succ, List.getD_cons_zero] at hK
                            go_simp
                            exact hK.out _ _ rfl (sepEmp hS) hst
                          · refine all17 fun z0 z1 z2 z3 z4 z5 z6 z7 z8 z9 z10 z11 z12 z13 z14 z15 z16 W L hv hS hst a ha K hK => ?_
                            simp only [dagPut, Act.put, List.setIfInBounds_toArray, List.set_cons_zero, List.set_cons_succ] at ha
                            subst ha
                            refine wpOp_plain rfl rfl ?_
                            simp only [Act.put, List.setIfInBounds_toArray, List.set_cons_zero, List.set_cons_succ, List.getD_cons_succ, List.getD_cons_zero] at hK
                            go_simp
                            exact hK.out _ _ rfl (sepEmp hS) hst
                          · refine all17 fun z0 z1 z2 z3 z4 z5 z6 z7 z8 z9 z10 z11 z12 z13 z14 z15 z16 W L hv hS hst a ha K hK => ?_
                            obtain ⟨v0, v1, _⟩ := hv
                            obtain rfl : z0 = _ := v0
                            obtain rfl : z1 = _ := v1
                            simp only [dagPut, Act.put, List.setIfInBounds_toArray, List.set_cons_zero, List.set_cons_succ] at ha
                            subst ha
                            refine wpOp_plain rfl rfl ?_
                            simp only [Act.put, List.setIfInBounds_toArray, List.set_cons_zero, List.set_cons_succ, List.getD_cons_succ, List.getD_cons_zero] at hK
                            go_simp
                            exact hK.out _ _ rfl (sepEmp hS) hst
                          · refine all17 fun z0 z1 z2 z3 z4 z5 z6 z7 z8 z9 z10 z11 z12 z13 z14 z15 z16 W L hv hS hst a ha K hK => ?_
                            obtain ⟨v2, _⟩ := hv
                            obtain rfl : z2 = _ := v2
                            simp only [dagPut, Act.put, List.setIfInBounds_toArray, List.set_cons_zero, List.set_cons_succ] at ha
                            subst ha
                            refine wpOp_plain rfl rfl ?_
                            simp only [Act.put, List.setIfInBounds_toArray, List.set_cons_zero, List.set_cons_succ, List.getD_cons_succ, List.getD_cons_zero] at hK
                            go_simp
                            exact hK.out _ _ rfl (sepEmp hS) hst
                          · refine all17 fun z0 z1 z2 z3 z4 z5 z6 z7 z8 z9 z10 z11 z12 z13 z14 z15 z16 W L hv hS hst a ha K hK => ?_
                            obtain ⟨v3, _⟩ := hv
                            obtain rfl : z3 = _ := v3
                            simp only [dagPut, Act.put, List.setIfInBounds_toArray, List.set_cons_zero, List.set_cons_succ] at ha
                            subst ha
                            refine wpOp_off rfl rfl ?_
                            simp only [Act.put, List.setIfInBounds_toArray, List.set_cons_zero, List.set_cons_succ, List.getD_cons_succ, List.getD_cons_zero] at hK
                            exact hK.out undef _ rfl (sepEmp hS) hst
                          · refine all17 fun z0 z1 z2 z3 z4 z5 z6 z7 z8 z9 z10 z11 z12 z13 z14 z15 z16 W L hv hS hst a ha K hK => ?_
                            obtain ⟨v3, _⟩ := hv
                            obtain rfl : z3 = _ := v3
                            simp only [dagPut, Act.put, List.setIfInBounds_toArray, List.set_cons_zero, List.set_cons_succ] at ha
                            subst ha
                            refine wpOp_off rfl rfl ?_
                            simp only [Act.put, List.setIfInBounds_toArray, List.set_cons_zero, List.set_cons_succ, List.getD_cons_succ, List.getD_cons_zero] at hK
                            exact hK.out undef _ rfl (sepEmp hS) hst
                          · refine all17 fun z0 z1 z2 z3 z4 z5 z6 z7 z8 z9 z10 z11 z12 z13 z14 z15 z16 W L hv hS hst a ha K hK => ?_
                            obtain ⟨v3, _⟩ := hv
                            obtain rfl : z3 = _ := v3
                            simp only [dagPut, Act.put, List.setIfInBounds_toArray, List.set_cons_zero, List.set_cons_succ] at ha
                            subst ha
                            refine wpOp_off rfl rfl ?_
                            simp only [Act.put, List.setIfInBounds_toArray, List.set_cons_zero, List.set_cons_succ, List.getD_cons_succ, List.getD_cons_zero] at hK
                            exact hK.out undef _ rfl (sepEmp hS) hst
                          · refine all17 fun z0 z1 z2 z3 z4 z5 z6 z7 z8 z9 z10 z11 z12 z13 z14 z15 z16 W L hv hS hst a ha K hK => ?_
                            obtain ⟨v6, _⟩ := hv
                            obtain rfl : z6 = _ := v6
                            simp only [dagPut, Act.put, List.setIfInBounds_toArray, List.set_cons_zero, List.set_cons_succ] at ha
                            subst ha
                            refine wpOp_off rfl rfl ?_
                            simp only [Act.put, List.setIfInBounds_toArray, List.set_cons_zero, List.set_cons_succ, List.getD_cons_succ, List.getD_cons_zero] at hK
                            exact hK.out undef _ rfl (sepEmp hS) hst
                          · refine all17 fun z0 z1 z2 z3 z4 z5 z6 z7 z8 z9 z10 z11 z12 z13 z14 z15 z16 W L hv hS hst a ha K hK => ?_
                            obtain ⟨v6, _⟩ := hv
                            obtain rfl : z6 = _ := v6
                            simp only [dagPut, Act.put, List.setIfInBounds_toArray, List.set_cons_zero, List.set_cons_succ] at ha
                            subst ha
                            refine wpOp_off rfl rfl ?_
                            simp only [Act.put, List.setIfInBounds_toArray, List.set_cons_zero, List.set_cons_succ, List.getD_cons_succ, List.getD_cons_zero] at hK
                            exact hK.out undef _ rfl (sepEmp hS) hst
                          · refine all17 fun z0 z1 z2 z3 z4 z5 z6 z7 z8 z9 z10 z11 z12 z13 z14 z15 z16 W L hv hS hst a ha K hK => ?_
                            obtain ⟨v6, _⟩ := hv
                            obtain rfl : z6 = _ := v6
                            simp only [dagPut, Act.put, List.setIfInBounds_toArray, List.set_cons_zero, List.set_cons_succ] at ha
                            subst ha
                            refine wpOp_off rfl rfl ?_
                            simp only [Act.put, List.setIfInBounds_toArray, List.set_cons_zero, List.set_cons_succ, List.getD_cons_succ, List.getD_cons_zero] at hK
                            exact hK.out undef _ rfl (sepEmp hS) hst
                          · refine all17 fun z0 z1 z2 z3 z4 z5 z6 z7 z8 z9 z10 z11 z12 z13 z14 z15 z16 W L hv hS hst a ha K hK => ?_
                            obtain ⟨v6, _⟩ := hv
                            obtain rfl : z6 = _ := v6
                            simp only [dagPut, Act.put, List.setIfInBounds_toArray, List.set_cons_zero, List.set_cons_succ] at ha
                            subst ha
                            refine wpOp_off rfl rfl ?_
                            simp only [Act.put, List.setIfInBounds_toArray, List.set_cons_zero, List.set_cons_succ, List.getD_cons_succ, List.getD_cons_zero] at hK
                            exact hK.out undef _ rfl (sepEmp hS) hst
                          · refine all17 fun z0 z1 z2 z3 z4 z5 z6 z7 z8 z9 z10 z11 z12 z13 z14 z15 z16 W L hv hS hst a ha K hK => ?_
                            obtain ⟨v6, _⟩ := hv
                            obtain rfl : z6 = _ := v6
                            simp only [dagPut, Act.put, List.setIfInBounds_toArray, List.set_cons_zero, List.set_cons_succ] at ha
                            subst ha
                            refine wpOp_off rfl rfl ?_
                            simp only [Act.put, List.setIfInBounds_toArray, List.set_cons_zero, List.set_cons_succ, List.getD_cons_succ, List.getD_cons_zero] at hK
                            exact hK.out undef _ rfl (sepEmp hS) hst
                          · refine all17 fun z0 z1 z2 z3 z4 z5 z6 z7 z8 z9 z10 z11 z12 z13 z14 z15 z16 W L hv hS hst a ha K hK => ?_
                            obtain ⟨v6, _⟩ := hv
                            obtain rfl : z6 = _ := v6
                            simp only [dagPut, Act.put, List.setIfInBounds_toArray, List.set_cons_zero, List.set_cons_succ] at ha
                            subst ha
                            refine wpOp_off rfl rfl ?_
                            simp only [Act.put, List.setIfInBounds_toArray, List.set_cons_zero, List.set_cons_succ, List.getD_cons_succ, List.getD_cons_zero] at hK
                            exact hK.out undef _ rfl (sepEmp hS) hst
                          · refine all17 fun z0 z1 z2 z3 z4 z5 z6 z7 z8 z9 z10 z11 z12 z13 z14 z15 z16 W L hv hS hst a ha K hK => ?_
                            obtain ⟨v6, _⟩ := hv
                            obtain rfl : z6 = _ := v6
                            simp only [dagPut, Act.put, List.setIfInBounds_toArray, List.set_cons_zero, List.set_cons_succ] at ha
                            subst ha
                            refine wpOp_off rfl rfl ?_
                            simp only [Act.put, List.setIfInBounds_toArray, List.set_cons_zero, List.set_cons_succ, List.getD_cons_succ, List.getD_cons_zero] at hK
                            exact hK.out undef _ rfl (sepEmp hS) hst
                          · refine all17 fun z0 z1 z2 z3 z4 z5 z6 z7 z8 z9 z10 z11 z12 z13 z14 z15 z16 W L hv hS hst a ha K hK => ?_
                            obtain ⟨v3, _⟩ := hv
                            obtain rfl : z3 = _ := v3
                            simp only [dagPut, Act.put, List.setIfInBounds_toArray, List.set_cons_zero, List.set_cons_succ] at ha
                            subst ha
                            refine wpOp_off rfl rfl ?_
                            simp only [Act.put, List.setIfInBounds_toArray, List.set_cons_zero, List.set_cons_succ, List.getD_cons_succ, List.getD_cons_zero] at hK
                            exact hK.out undef _ rfl (sepEmp hS) hst
                          · refine all17 fun z0 z1 z2 z3 z4 z5 z6 z7 z8 z9 z10 z11 z12 z13 z14 z15 z16 W L hv hS hst a ha K hK => ?_
                            obtain ⟨v3, _⟩ := hv
                            obtain rfl : z3 = _ := v3
                            simp only [dagPut, Act.put, List.setIfInBounds_toArray, List.set_cons_zero, List.set_cons_succ] at ha
                            subst ha
                            refine wpOp_plain rfl rfl ?_
                            simp only [Act.put, List.setIfInBounds_toArray, List.set_cons_zero, List.set_cons_succ, List.getD_cons_succ, List.getD_cons_zero] at hK
                            go_simp
                            exact hK.out _ _ rfl (sepEmp hS) hst
                          · refine all17 fun z0 z1 z2 z3 z4 z5 z6 z7 z8 z9 z10 z11 z12 z13 z14 z15 z16 W L hv hS hst a ha K hK => ?_
                            obtain ⟨v15, _⟩ := hv
                            obtain rfl : z15 = _ := v15
                            simp only [dagPut, Act.put, List.setIfInBounds_toArray, List.set_cons_zero, List.set_cons_succ] at ha
                            subst ha
                            refine wpOp_plain rfl rfl ?_
                            simp only [Act.put, List.setIfInBounds_toArray, List.set_cons_zero, List.set_cons_succ, List.getD_cons_succ, List.getD_cons_zero] at hK
                            go_simp
                            exact hK.out _ _ rfl (sepEmp hS) hst
                          · refine all17 fun z0 z1 z2 z3 z4 z5 z6 z7 z8 z9 z10 z11 z12 z13 z14 z15 z16 W hv hS hst a ha => ?_
                            obtain ⟨⟨⟨⟨⟨⟨⟨⟨⟨⟨⟨⟨⟨⟨⟨⟨⟨_, v0⟩, v1⟩, v2⟩, v3⟩, v4⟩, v5⟩, v6⟩, v7⟩, v8⟩, v9⟩, v10⟩, v11⟩, v12⟩, v13⟩, v14⟩, v15⟩, v16⟩ := hv
                            obtain rfl : z0 = _ := v0
                            obtain rfl : z1 = _ := v1
                            obtain rfl : z2 = _ := v2
                            obtain rfl : z3 = _ := v3
                            obtain rfl : z4 = _ := v4
                            obtain rfl : z5 = _ := v5
                            obtain rfl : z6 = _ := v6
                            obtain rfl : z7 = _ := v7
                            obtain rfl : z8 = _ := v8
                            obtain rfl : z9 = _ := v9
                            obtain rfl : z10 = _ := v10
                            obtain rfl : z11 = _ := v11
                            obtain rfl : z12 = _ := v12
                            obtain rfl : z13 = _ := v13
                            obtain rfl : z14 = _ := v14
                            obtain rfl : z15 = _ := v15
                            obtain rfl : z16 = _ := v16
                            simp only [dagPut, Act.put, List.setIfInBounds_toArray, List.set_cons_zero, List.set_cons_succ] at ha; subst ha
                            go_wp2_with fail
                            go_meet
                            exact ⟨by rw [HV.out], hS, hst⟩
                        · have g1 : ((i : Int) == (k : Int)) = false := by rw [beq_eq_false_iff_ne]; omega
                          have hkv : V = (decide (0 ≤ ro k) && decide (0 ≤ ro i)) := by rw [← HV0.out, show ((k : Int) == (i : Int)) = false by rw [beq_eq_false_iff_ne]; omega]; rfl
                          by_cases hk0 : 0 ≤ ro k
                          · have g2 : decide (0 ≤ ro k) = true := by rw [decide_eq_true_iff]; exact hk0
                            by_cases hi0 : 0 ≤ ro i
                            · have g3 : decide (0 ≤ ro i) = true := by rw [decide_eq_true_iff]; exact hi0
                              have HV := Lib.hid (show V = true by rw [hkv, g2, g3]; rfl)
                              have HIK := Lib.hid (And.intro hik (And.intro hk0 hi0))
                              clear hik hkv hk0 hi0
                              refine wp_region_dag (w0 := w1) 17 [some 129, some 130, some 131, some 132, some 133, some 134, some 135, some 136, some 137, some 138, some 139, some 140, some 141, some 142, some 143, some 144, some 27] [.det [] (i64 i), .det [] (i64 k), .det [0, 1] (.bool false), .det [2] (.bool false), .det [3] (i64 (ro k)), .det [4, 3] (.bool true), .det [5, 3] (.bool true), .det [6] (.agg #[i64 players, .slice ba bodies.length bc, i64 x0, i64 y0, i64 x1, i64 y1, .slice ra rooms.length rc, .slice dla dl.length dlc, i64 4194304, i64 gx, i64 gy, i64 push, i64 drag, i64 rest, i64 rounds, i64 fuel]), .det [6] (.agg #[i64 players, .slice ba bodies.length bc, i64 x0, i64 y0, i64 x1, i64 y1, .slice ra rooms.length rc, .slice dla dl.length dlc, i64 4194304, i64 gx, i64 gy, i64 push, i64 drag, i64 rest, i64 rounds, i64 fuel]), .det [6] (cv), .det [6] (i64 i), .det [8, 9, 10, 6] (.agg #[i64 (X i), i64 (Y i)]), .det [7, 11, 6] (i64 (ro i)), .det [12, 6] (.bool true), .det [6, 13, 3] (.bool true), .det [3, 14] (.bool true), .det [15] (.bool true)] [Sl.held 2 (.slice dla dl.length dlc) dl.length (dcells dl), pts bl (.cells #[i64 players, .slice ba bodies.length bc, i64 x0, i64 y0, i64 x1, i64 y1, .slice ra rooms.length rc, .slice dla dl.length dlc, i64 4194304, i64 gx, i64 gy, i64 push, i64 drag, i64 rest, i64 rounds, i64 fuel] 31), rowI cv cs, pts bs (.cells #[i64 players, .slice ba bodies.length bc, i64 x0, i64 y0, i64 x1, i64 y1, .slice ra rooms.length rc, .slice da doors.length dc, i64 fog, i64 gx, i64 gy, i64 push, i64 drag, i64 rest, i64 rounds, i64 fuel] 31), pts bm (.cells #[i64 players, .slice ba bodies.length bc, i64 x0, i64 y0, i64 x1, i64 y1, .slice ra rooms.length rc, .slice dma dm.length dmc, i64 fm, i64 gx, i64 gy, i64 push, i64 drag, i64 rest, i64 rounds, i64 fuel] 31), D, old w1] [] rfl (by kernel_rfl) (by kernel_rfl) (by kernel_rfl) (by kernel_rfl) (H13.out.1) (H13.out.2) ⟨⟨⟨⟨⟨⟨⟨⟨⟨⟨⟨⟨⟨⟨⟨⟨⟨trivial, ?_⟩, ?_⟩, ?_⟩, ?_⟩, ?_⟩, ?_⟩, ?_⟩, ?_⟩, ?_⟩, ?_⟩, ?_⟩, ?_⟩, ?_⟩, ?_⟩, ?_⟩, ?_⟩, ?_⟩ ?_
                              · refine all17 fun z0 z1 z2 z3 z4 z5 z6 z7 z8 z9 z10 z11 z12 z13 z14 z15 z16 W L hv hS hst a ha K hK => ?_
                                simp only [dagPut, Act.put, List.setIfInBounds_toArray, List.set_cons_zero, List.set_cons_succ] at ha
                                subst ha
                                refine wpOp_plain rfl rfl ?_
                                simp only [Act.put, List.setIfInBounds_toArray, List.set_cons_zero, List.set_cons_succ, List.getD_cons_zero] at hK
                                go_simp
                                exact hK.out _ _ rfl (sepEmp hS) hst
                              · refine all17 fun z0 z1 z2 z3 z4 z5 z6 z7 z8 z9 z10 z11 z12 z13 z14 z15 z16 W L hv hS hst a ha K hK => ?_
                                simp only [dagPut, Act.put, List.setIfInBounds_toArray, List.set_cons_zero, List.set_cons_succ] at ha
                                subst ha
                                refine wpOp_plain rfl rfl ?_
                                simp only [Act.put, List.setIfInBounds_toArray, List.set_cons_zero, List.set_cons_succ, List.getD_cons_succ, List.getD_cons_zero] at hK
                                go_simp
                                exact hK.out _ _ rfl (sepEmp hS) hst
                              · refine all17 fun z0 z1 z2 z3 z4 z5 z6 z7 z8 z9 z10 z11 z12 z13 z14 z15 z16 W L hv hS hst a ha K hK => ?_
                                obtain ⟨v0, v1, _⟩ := hv
                                obtain rfl : z0 = _ := v0
                                obtain rfl : z1 = _ := v1
                                simp only [dagPut, Act.put, List.setIfInBounds_toArray, List.set_cons_zero, List.set_cons_succ] at ha
                                subst ha
                                refine wpOp_plain rfl rfl ?_
                                simp only [Act.put, List.setIfInBounds_toArray, List.set_cons_zero, List.set_cons_succ, List.getD_cons_succ, List.getD_cons_zero] at hK
                                go_simp
                                exact hK.out _ _ rfl (sepEmp hS) hst
                              · refine all17 fun z0 z1 z2 z3 z4 z5 z6 z7 z8 z9 z10 z11 z12 z13 z14 z15 z16 W L hv hS hst a ha K hK => ?_
                                obtain ⟨v2, _⟩ := hv
                                obtain rfl : z2 = _ := v2
                                simp only [dagPut, Act.put, List.setIfInBounds_toArray, List.set_cons_zero, List.set_cons_succ] at ha
                                subst ha
                                refine wpOp_plain rfl rfl ?_
                                simp only [Act.put, List.setIfInBounds_toArray, List.set_cons_zero, List.set_cons_succ, List.getD_cons_succ, List.getD_cons_zero] at hK
                                go_simp
                                exact hK.out _ _ rfl (sepEmp hS) hst
                              · refine all17 fun z0 z1 z2 z3 z4 z5 z6 z7 z8 z9 z10 z11 z12 z13 z14 z15 z16 W L hv hS hst a ha K hK => ?_
                                obtain ⟨v3, _⟩ := hv
                                obtain rfl : z3 = _ := v3
                                simp only [dagPut, Act.put, List.setIfInBounds_toArray, List.set_cons_zero, List.set_cons_succ] at ha
                                subst ha
                                refine wpOp_on rfl rfl ?_
                                simp only [Act.put, List.setIfInBounds_toArray, List.set_cons_zero, List.set_cons_succ, List.getD_cons_succ, List.getD_cons_zero] at hK
                                go_simp
                                exact hK.out _ _ rfl (sepEmp hS) hst
                              · refine all17 fun z0 z1 z2 z3 z4 z5 z6 z7 z8 z9 z10 z11 z12 z13 z14 z15 z16 W L hv hS hst a ha K hK => ?_
                                obtain ⟨v4, v3, _⟩ := hv
                                obtain rfl : z4 = _ := v4
                                obtain rfl : z3 = _ := v3
                                simp only [dagPut, Act.put, List.setIfInBounds_toArray, List.set_cons_zero, List.set_cons_succ] at ha
                                subst ha
                                refine wpOp_on rfl rfl ?_
                                simp only [Act.put, List.setIfInBounds_toArray, List.set_cons_zero, List.set_cons_succ, List.getD_cons_succ, List.getD_cons_zero] at hK
                                go_simp
                                exact hK.out _ _ rfl (sepEmp hS) hst
                              · refine all17 fun z0 z1 z2 z3 z4 z5 z6 z7 z8 z9 z10 z11 z12 z13 z14 z15 z16 W L hv hS hst a ha K hK => ?_
                                obtain ⟨v5, v3, _⟩ := hv
                                obtain rfl : z5 = _ := v5
                                obtain rfl : z3 = _ := v3
                                simp only [dagPut, Act.put, List.setIfInBounds_toArray, List.set_cons_zero, List.set_cons_succ] at ha
                                subst ha
                                refine wpOp_on rfl rfl ?_
                                simp only [Act.put, List.setIfInBounds_toArray, List.set_cons_zero, List.set_cons_succ, List.getD_cons_succ, List.getD_cons_zero] at hK
                                go_simp
                                exact hK.out _ _ rfl (sepEmp hS) hst
                              · refine all17 fun z0 z1 z2 z3 z4 z5 z6 z7 z8 z9 z10 z11 z12 z13 z14 z15 z16 W L hv hS hst a ha K hK => ?_
                                obtain ⟨v6, _⟩ := hv
                                obtain rfl : z6 = _ := v6
                                simp only [dagPut, Act.put, List.setIfInBounds_toArray, List.set_cons_zero, List.set_cons_succ] at ha
                                subst ha
                                refine wpOp_on rfl rfl ?_
                                simp only [Act.put, List.setIfInBounds_toArray, List.set_cons_zero, List.set_cons_succ, List.getD_cons_succ, List.getD_cons_zero] at hK
                                refine wp_load_row 31 _ rfl _ rfl _ _ _ _ (Sep.get (L := _) (Sep.pick 1 hS)) Try.underlying31 rfl (by kernel_rfl) ?_
                                exact hK.out _ _ rfl (sepEmp hS) hst
                              · refine all17 fun z0 z1 z2 z3 z4 z5 z6 z7 z8 z9 z10 z11 z12 z13 z14 z15 z16 W L hv hS hst a ha K hK => ?_
                                obtain ⟨v6, _⟩ := hv
                                obtain rfl : z6 = _ := v6
                                simp only [dagPut, Act.put, List.setIfInBounds_toArray, List.set_cons_zero, List.set_cons_succ] at ha
                                subst ha
                                refine wpOp_on rfl rfl ?_
                                simp only [Act.put, List.setIfInBounds_toArray, List.set_cons_zero, List.set_cons_succ, List.getD_cons_succ, List.getD_cons_zero] at hK
                                refine wp_load_row 31 _ rfl _ rfl _ _ _ _ (Sep.get (L := _) (Sep.pick 1 hS)) Try.underlying31 rfl (by kernel_rfl) ?_
                                exact hK.out _ _ rfl (sepEmp hS) hst
                              · refine all17 fun z0 z1 z2 z3 z4 z5 z6 z7 z8 z9 z10 z11 z12 z13 z14 z15 z16 W L hv hS hst a ha K hK => ?_
                                obtain ⟨v6, _⟩ := hv
                                obtain rfl : z6 = _ := v6
                                simp only [dagPut, Act.put, List.setIfInBounds_toArray, List.set_cons_zero, List.set_cons_succ] at ha
                                subst ha
                                refine wpOp_on rfl rfl ?_
                                simp only [Act.put, List.setIfInBounds_toArray, List.set_cons_zero, List.set_cons_succ, List.getD_cons_succ, List.getD_cons_zero] at hK
                                go_simp
                                exact hK.out _ _ rfl (sepEmp hS) hst
                              · refine all17 fun z0 z1 z2 z3 z4 z5 z6 z7 z8 z9 z10 z11 z12 z13 z14 z15 z16 W L hv hS hst a ha K hK => ?_
                                obtain ⟨v6, _⟩ := hv
                                obtain rfl : z6 = _ := v6
                                simp only [dagPut, Act.put, List.setIfInBounds_toArray, List.set_cons_zero, List.set_cons_succ] at ha
                                subst ha
                                refine wpOp_on rfl rfl ?_
                                simp only [Act.put, List.setIfInBounds_toArray, List.set_cons_zero, List.set_cons_succ, List.getD_cons_succ, List.getD_cons_zero] at hK
                                go_simp
                                exact hK.out _ _ rfl (sepEmp hS) hst
                              · refine all17 fun z0 z1 z2 z3 z4 z5 z6 z7 z8 z9 z10 z11 z12 z13 z14 z15 z16 W L hv hS hst a ha K hK => ?_
                                obtain ⟨v8, v9, v10, v6, _⟩ := hv
                                obtain rfl : z8 = _ := v8
                                obtain rfl : z9 = _ := v9
                                obtain rfl : z10 = _ := v10
                                obtain rfl : z6 = _ := v6
                                simp only [dagPut, Act.put, List.setIfInBounds_toArray, List.set_cons_zero, List.set_cons_succ] at ha
                                subst ha
                                refine wpOp_on rfl rfl ?_
                                simp only [Act.put, List.setIfInBounds_toArray, List.set_cons_zero, List.set_cons_succ, List.getD_cons_succ, List.getD_cons_zero] at hK
                                go_simp
                                refine (HK.out.2.2.2.2.1 W _ hS i hlb).mono ?_
                                rintro e w3 ⟨rfl, hS3, hst3⟩
                                exact hK.out _ _ rfl (sepEmp (Sep.mount (M := []) hS hS3)) (hst.trans hst3)
                              · refine all17 fun z0 z1 z2 z3 z4 z5 z6 z7 z8 z9 z10 z11 z12 z13 z14 z15 z16 W L hv hS hst a ha K hK => ?_
                                obtain ⟨v7, v11, v6, _⟩ := hv
                                obtain rfl : z7 = _ := v7
                                obtain rfl : z11 = _ := v11
                                obtain rfl : z6 = _ := v6
                                simp only [dagPut, Act.put, List.setIfInBounds_toArray, List.set_cons_zero, List.set_cons_succ] at ha
                                subst ha
                                refine wpOp_on rfl rfl ?_
                                simp only [Act.put, List.setIfInBounds_toArray, List.set_cons_zero, List.set_cons_succ, List.getD_cons_succ, List.getD_cons_zero] at hK
                                go_simp
                                refine (HK.out.2.2.2.1 W _ hS i).mono ?_
                                rintro e w3 ⟨rfl, hS3, hst3⟩
                                exact hK.out _ _ rfl (sepEmp (Sep.mount (M := []) hS hS3)) (hst.trans hst3)
                              · refine all17 fun z0 z1 z2 z3 z4 z5 z6 z7 z8 z9 z10 z11 z12 z13 z14 z15 z16 W L hv hS hst a ha K hK => ?_
                                obtain ⟨v12, v6, _⟩ := hv
                                obtain rfl : z12 = _ := v12
                                obtain rfl : z6 = _ := v6
                                simp only [dagPut, Act.put, List.setIfInBounds_toArray, List.set_cons_zero, List.set_cons_succ] at ha
                                subst ha
                                refine wpOp_on rfl rfl ?_
                                simp only [Act.put, List.setIfInBounds_toArray, List.set_cons_zero, List.set_cons_succ, List.getD_cons_succ, List.getD_cons_zero] at hK
                                go_simp
                                exact hK.out _ _ rfl (sepEmp hS) hst
                              · refine all17 fun z0 z1 z2 z3 z4 z5 z6 z7 z8 z9 z10 z11 z12 z13 z14 z15 z16 W L hv hS hst a ha K hK => ?_
                                obtain ⟨v6, v13, v3, _⟩ := hv
                                obtain rfl : z6 = _ := v6
                                obtain rfl : z13 = _ := v13
                                obtain rfl : z3 = _ := v3
                                simp only [dagPut, Act.put, List.setIfInBounds_toArray, List.set_cons_zero, List.set_cons_succ] at ha
                                subst ha
                                refine wpOp_on rfl rfl ?_
                                simp only [Act.put, List.setIfInBounds_toArray, List.set_cons_zero, List.set_cons_succ, List.getD_cons_succ, List.getD_cons_zero] at hK
                                go_simp
                                exact hK.out _ _ rfl (sepEmp hS) hst
                              · refine all17 fun z0 z1 z2 z3 z4 z5 z6 z7 z8 z9 z10 z11 z12 z13 z14 z15 z16 W L hv hS hst a ha K hK => ?_
                                obtain ⟨v3, v14, _⟩ := hv
                                obtain rfl : z3 = _ := v3
                                obtain rfl : z14 = _ := v14
                                simp only [dagPut, Act.put, List.setIfInBounds_toArray, List.set_cons_zero, List.set_cons_succ] at ha
                                subst ha
                                refine wpOp_plain rfl rfl ?_
                                simp only [Act.put, List.setIfInBounds_toArray, List.set_cons_zero, List.set_cons_succ, List.getD_cons_succ, List.getD_cons_zero] at hK
                                go_simp
                                exact hK.out _ _ rfl (sepEmp hS) hst
                              · refine all17 fun z0 z1 z2 z3 z4 z5 z6 z7 z8 z9 z10 z11 z12 z13 z14 z15 z16 W L hv hS hst a ha K hK => ?_
                                obtain ⟨v15, _⟩ := hv
                                obtain rfl : z15 = _ := v15
                                simp only [dagPut, Act.put, List.setIfInBounds_toArray, List.set_cons_zero, List.set_cons_succ] at ha
                                subst ha
                                refine wpOp_plain rfl rfl ?_
                                simp only [Act.put, List.setIfInBounds_toArray, List.set_cons_zero, List.set_cons_succ, List.getD_cons_succ, List.getD_cons_zero] at hK
                                go_simp
                                exact hK.out _ _ rfl (sepEmp hS) hst
                              · refine all17 fun z0 z1 z2 z3 z4 z5 z6 z7 z8 z9 z10 z11 z12 z13 z14 z15 z16 W hv hS hst a ha => ?_
                                obtain ⟨⟨⟨⟨⟨⟨⟨⟨⟨⟨⟨⟨⟨⟨⟨⟨⟨_, v0⟩, v1⟩, v2⟩, v3⟩, v4⟩, v5⟩, v6⟩, v7⟩, v8⟩, v9⟩, v10⟩, v11⟩, v12⟩, v13⟩, v14⟩, v15⟩, v16⟩ := hv
                                obtain rfl : z0 = _ := v0
                                obtain rfl : z1 = _ := v1
                                obtain rfl : z2 = _ := v2
                                obtain rfl : z3 = _ := v3
                                obtain rfl : z4 = _ := v4
                                obtain rfl : z5 = _ := v5
                                obtain rfl : z6 = _ := v6
                                obtain rfl : z7 = _ := v7
                                obtain rfl : z8 = _ := v8
                                obtain rfl : z9 = _ := v9
                                obtain rfl : z10 = _ := v10
                                obtain rfl : z11 = _ := v11
                                obtain rfl : z12 = _ := v12
                                obtain rfl : z13 = _ := v13
                                obtain rfl : z14 = _ := v14
                                obtain rfl : z15 = _ := v15
                                obtain rfl : z16 = _ := v16
                                simp only [dagPut, Act.put, List.setIfInBounds_toArray, List.set_cons_zero, List.set_cons_succ] at ha; subst ha
                                go_wp2_with fail
                                go_meet
                                exact ⟨by rw [HV.out], hS, hst⟩
                            · have g3 : decide (0 ≤ ro i) = false := by rw [decide_eq_false_iff_not]; exact hi0
                              have HV := Lib.hid (show V = false by rw [hkv, g2, g3]; rfl)
                              have HIK := Lib.hid (And.intro hik (And.intro hk0 hi0))
                              clear hik hkv hk0 hi0
                              refine wp_region_dag (w0 := w1) 17 [some 129, some 130, some 131, some 132, some 133, some 134, some 135, some 136, some 137, some 138, some 139, some 140, some 141, some 142, some 143, some 144, some 27] [.det [] (i64 i), .det [] (i64 k), .det [0, 1] (.bool false), .det [2] (.bool false), .det [3] (i64 (ro k)), .det [4, 3] (.bool true), .det [5, 3] (.bool true), .det [6] (.agg #[i64 players, .slice ba bodies.length bc, i64 x0, i64 y0, i64 x1, i64 y1, .slice ra rooms.length rc, .slice dla dl.length dlc, i64 4194304, i64 gx, i64 gy, i64 push, i64 drag, i64 rest, i64 rounds, i64 fuel]), .det [6] (.agg #[i64 players, .slice ba bodies.length bc, i64 x0, i64 y0, i64 x1, i64 y1, .slice ra rooms.length rc, .slice dla dl.length dlc, i64 4194304, i64 gx, i64 gy, i64 push, i64 drag, i64 rest, i64 rounds, i64 fuel]), .det [6] (cv), .det [6] (i64 i), .det [8, 9, 10, 6] (.agg #[i64 (X i), i64 (Y i)]), .det [7, 11, 6] (i64 (ro i)), .det [12, 6] (.bool false), .det [6, 13, 3] (.bool false), .det [3, 14] (.bool false), .det [15] (.bool false)] [Sl.held 2 (.slice dla dl.length dlc) dl.length (dcells dl), pts bl (.cells #[i64 players, .slice ba bodies.length bc, i64 x0, i64 y0, i64 x1, i64 y1, .slice ra rooms.length rc, .slice dla dl.length dlc, i64 4194304, i64 gx, i64 gy, i64 push, i64 drag, i64 rest, i64 rounds, i64 fuel] 31), rowI cv cs, pts bs (.cells #[i64 players, .slice ba bodies.length bc, i64 x0, i64 y0, i64 x1, i64 y1, .slice ra rooms.length rc, .slice da doors.length dc, i64 fog, i64 gx, i64 gy, i64 push, i64 drag, i64 rest, i64 rounds, i64 fuel] 31), pts bm (.cells #[i64 players, .slice ba bodies.length bc, i64 x0, i64 y0, i64 x1, i64 y1, .slice ra rooms.length rc, .slice dma dm.length dmc, i64 fm, i64 gx, i64 gy, i64 push, i64 drag, i64 rest, i64 rounds, i64 fuel] 31), D, old w1] [] rfl (by kernel_rfl) (by kernel_rfl) (by kernel_rfl) (by kernel_rfl) (H13.out.1) (H13.out.2) ⟨⟨⟨⟨⟨⟨⟨⟨⟨⟨⟨⟨⟨⟨⟨⟨⟨trivial, ?_⟩, ?_⟩, ?_⟩, ?_⟩, ?_⟩, ?_⟩, ?_⟩, ?_⟩, ?_⟩, ?_⟩, ?_⟩, ?_⟩, ?_⟩, ?_⟩, ?_⟩, ?_⟩, ?_⟩ ?_
                              · refine all17 fun z0 z1 z2 z3 z4 z5 z6 z7 z8 z9 z10 z11 z12 z13 z14 z15 z16 W L hv hS hst a ha K hK => ?_
                                simp only [dagPut, Act.put, List.setIfInBounds_toArray, List.set_cons_zero, List.set_cons_succ] at ha
                                subst ha
                                refine wpOp_plain rfl rfl ?_
                                simp only [Act.put, List.setIfInBounds_toArray, List.set_cons_zero, List.set_cons_succ, List.getD_cons_zero] at hK
                                go_simp
                                exact hK.out _ _ rfl (sepEmp hS) hst
                              · refine all17 fun z0 z1 z2 z3 z4 z5 z6 z7 z8 z9 z10 z11 z12 z13 z14 z15 z16 W L hv hS hst a ha K hK => ?_
                                simp only [dagPut, Act.put, List.setIfInBounds_toArray, List.set_cons_zero, List.set_cons_succ] at ha
                                subst ha
                                refine wpOp_plain rfl rfl ?_
                                simp only [Act.put, List.setIfInBounds_toArray, List.set_cons_zero, List.set_cons_succ, List.getD_cons_succ, List.getD_cons_zero] at hK
                                go_simp
                                exact hK.out _ _ rfl (sepEmp hS) hst
                              · refine all17 fun z0 z1 z2 z3 z4 z5 z6 z7 z8 z9 z10 z11 z12 z13 z14 z15 z16 W L hv hS hst a ha K hK => ?_
                                obtain ⟨v0, v1, _⟩ := hv
                                obtain rfl : z0 = _ := v0
                                obtain rfl : z1 = _ := v1
                                simp only [dagPut, Act.put, List.setIfInBounds_toArray, List.set_cons_zero, List.set_cons_succ] at ha
                                subst ha
                                refine wpOp_plain rfl rfl ?_
                                simp only [Act.put, List.setIfInBounds_toArray, List.set_cons_zero, List.set_cons_succ, List.getD_cons_succ, List.getD_cons_zero] at hK
                                go_simp
                                exact hK.out _ _ rfl (sepEmp hS) hst
                              · refine all17 fun z0 z1 z2 z3 z4 z5 z6 z7 z8 z9 z10 z11 z12 z13 z14 z15 z16 W L hv hS hst a ha K hK => ?_
                                obtain ⟨v2, _⟩ := hv
                                obtain rfl : z2 = _ := v2
                                simp only [dagPut, Act.put, List.setIfInBounds_toArray, List.set_cons_zero, List.set_cons_succ] at ha
                                subst ha
                                refine wpOp_plain rfl rfl ?_
                                simp only [Act.put, List.setIfInBounds_toArray, List.set_cons_zero, List.set_cons_succ, List.getD_cons_succ, List.getD_cons_zero] at hK
                                go_simp
                                exact hK.out _ _ rfl (sepEmp hS) hst
                              · refine all17 fun z0 z1 z2 z3 z4 z5 z6 z7 z8 z9 z10 z11 z12 z13 z14 z15 z16 W L hv hS hst a ha K hK => ?_
                                obtain ⟨v3, _⟩ := hv
                                obtain rfl : z3 = _ := v3
                                simp only [dagPut, Act.put, List.setIfInBounds_toArray, List.set_cons_zero, List.set_cons_succ] at ha
                                subst ha
                                refine wpOp_on rfl rfl ?_
                                simp only [Act.put, List.setIfInBounds_toArray, List.set_cons_zero, List.set_cons_succ, List.getD_cons_succ, List.getD_cons_zero] at hK
                                go_simp
                                exact hK.out _ _ rfl (sepEmp hS) hst
                              · refine all17 fun z0 z1 z2 z3 z4 z5 z6 z7 z8 z9 z10 z11 z12 z13 z14 z15 z16 W L hv hS hst a ha K hK => ?_
                                obtain ⟨v4, v3, _⟩ := hv
                                obtain rfl : z4 = _ := v4
                                obtain rfl : z3 = _ := v3
                                simp only [dagPut, Act.put, List.setIfInBounds_toArray, List.set_cons_zero, List.set_cons_succ] at ha
                                subst ha
                                refine wpOp_on rfl rfl ?_
                                simp only [Act.put, List.setIfInBounds_toArray, List.set_cons_zero, List.set_cons_succ, List.getD_cons_succ, List.getD_cons_zero] at hK
                                go_simp
                                exact hK.out _ _ rfl (sepEmp hS) hst
                              · refine all17 fun z0 z1 z2 z3 z4 z5 z6 z7 z8 z9 z10 z11 z12 z13 z14 z15 z16 W L hv hS hst a ha K hK => ?_
                                obtain ⟨v5, v3, _⟩ := hv
                                obtain rfl : z5 = _ := v5
                                obtain rfl : z3 = _ := v3
                                simp only [dagPut, Act.put, List.setIfInBounds_toArray, List.set_cons_zero, List.set_cons_succ] at ha
                                subst ha
                                refine wpOp_on rfl rfl ?_
                                simp only [Act.put, List.setIfInBounds_toArray, List.set_cons_zero, List.set_cons_succ, List.getD_cons_succ, List.getD_cons_zero] at hK
                                go_simp
                                exact hK.out _ _ rfl (sepEmp hS) hst
                              · refine all17 fun z0 z1 z2 z3 z4 z5 z6 z7 z8 z9 z10 z11 z12 z13 z14 z15 z16 W L hv hS hst a ha K hK => ?_
                                obtain ⟨v6, _⟩ := hv
                                obtain rfl : z6 = _ := v6
                                simp only [dagPut, Act.put, List.setIfInBounds_toArray, List.set_cons_zero, List.set_cons_succ] at ha
                                subst ha
                                refine wpOp_on rfl rfl ?_
                                simp only [Act.put, List.setIfInBounds_toArray, List.set_cons_zero, List.set_cons_succ, List.getD_cons_succ, List.getD_cons_zero] at hK
                                refine wp_load_row 31 _ rfl _ rfl _ _ _ _ (Sep.get (L := _) (Sep.pick 1 hS)) Try.underlying31 rfl (by kernel_rfl) ?_
                                exact hK.out _ _ rfl (sepEmp hS) hst
                              · refine all17 fun z0 z1 z2 z3 z4 z5 z6 z7 z8 z9 z10 z11 z12 z13 z14 z15 z16 W L hv hS hst a ha K hK => ?_
                                obtain ⟨v6, _⟩ := hv
                                obtain rfl : z6 = _ := v6
                                simp only [dagPut, Act.put, List.setIfInBounds_toArray, List.set_cons_zero, List.set_cons_succ] at ha
                                subst ha
                                refine wpOp_on rfl rfl ?_
                                simp only [Act.put, List.setIfInBounds_toArray, List.set_cons_zero, List.set_cons_succ, List.getD_cons_succ, List.getD_cons_zero] at hK
                                refine wp_load_row 31 _ rfl _ rfl _ _ _ _ (Sep.get (L := _) (Sep.pick 1 hS)) Try.underlying31 rfl (by kernel_rfl) ?_
                                exact hK.out _ _ rfl (sepEmp hS) hst
                              · refine all17 fun z0 z1 z2 z3 z4 z5 z6 z7 z8 z9 z10 z11 z12 z13 z14 z15 z16 W L hv hS hst a ha K hK => ?_
                                obtain ⟨v6, _⟩ := hv
                                obtain rfl : z6 = _ := v6
                                simp only [dagPut, Act.put, List.setIfInBounds_toArray, List.set_cons_zero, List.set_cons_succ] at ha
                                subst ha
                                refine wpOp_on rfl rfl ?_
                                simp only [Act.put, List.setIfInBounds_toArray, List.set_cons_zero, List.set_cons_succ, List.getD_cons_succ, List.getD_cons_zero] at hK
                                go_simp
                                exact hK.out _ _ rfl (sepEmp hS) hst
                              · refine all17 fun z0 z1 z2 z3 z4 z5 z6 z7 z8 z9 z10 z11 z12 z13 z14 z15 z16 W L hv hS hst a ha K hK => ?_
                                obtain ⟨v6, _⟩ := hv
                                obtain rfl : z6 = _ := v6
                                simp only [dagPut, Act.put, List.setIfInBounds_toArray, List.set_cons_zero, List.set_cons_succ] at ha
                                subst ha
                                refine wpOp_on rfl rfl ?_
                                simp only [Act.put, List.setIfInBounds_toArray, List.set_cons_zero, List.set_cons_succ, List.getD_cons_succ, List.getD_cons_zero] at hK
                                go_simp
                                exact hK.out _ _ rfl (sepEmp hS) hst
                              · refine all17 fun z0 z1 z2 z3 z4 z5 z6 z7 z8 z9 z10 z11 z12 z13 z14 z15 z16 W L hv hS hst a ha K hK => ?_
                                obtain ⟨v8, v9, v10, v6, _⟩ := hv
                                obtain rfl : z8 = _ := v8
                                obtain rfl : z9 = _ := v9
                                obtain rfl : z10 = _ := v10
                                obtain rfl : z6 = _ := v6
                                simp only [dagPut, Act.put, List.setIfInBounds_toArray, List.set_cons_zero, List.set_cons_succ] at ha
                                subst ha
                                refine wpOp_on rfl rfl ?_
                                simp only [Act.put, List.setIfInBounds_toArray, List.set_cons_zero, List.set_cons_succ, List.getD_cons_succ, List.getD_cons_zero] at hK
                                go_simp
                                refine (HK.out.2.2.2.2.1 W _ hS i hlb).mono ?_
                                rintro e w3 ⟨rfl, hS3, hst3⟩
                                exact hK.out _ _ rfl (sepEmp (Sep.mount (M := []) hS hS3)) (hst.trans hst3)
                              · refine all17 fun z0 z1 z2 z3 z4 z5 z6 z7 z8 z9 z10 z11 z12 z13 z14 z15 z16 W L hv hS hst a ha K hK => ?_
                                obtain ⟨v7, v11, v6, _⟩ := hv
                                obtain rfl : z7 = _ := v7
                                obtain rfl : z11 = _ := v11
                                obtain rfl : z6 = _ := v6
                                simp only [dagPut, Act.put, List.setIfInBounds_toArray, List.set_cons_zero, List.set_cons_succ] at ha
                                subst ha
                                refine wpOp_on rfl rfl ?_
                                simp only [Act.put, List.setIfInBounds_toArray, List.set_cons_zero, List.set_cons_succ, List.getD_cons_succ, List.getD_cons_zero] at hK
                                go_simp
                                refine (HK.out.2.2.2.1 W _ hS i).mono ?_
                                rintro e w3 ⟨rfl, hS3, hst3⟩
                                exact hK.out _ _ rfl (sepEmp (Sep.mount (M := []) hS hS3)) (hst.trans hst3)
                              · refine all17 fun z0 z1 z2 z3 z4 z5 z6 z7 z8 z9 z10 z11 z12 z13 z14 z15 z16 W L hv hS hst a ha K hK => ?_
                                obtain ⟨v12, v6, _⟩ := hv
                                obtain rfl : z12 = _ := v12
                                obtain rfl : z6 = _ := v6
                                simp only [dagPut, Act.put, List.setIfInBounds_toArray, List.set_cons_zero, List.set_cons_succ] at ha
                                subst ha
                                refine wpOp_on rfl rfl ?_
                                simp only [Act.put, List.setIfInBounds_toArray, List.set_cons_zero, List.set_cons_succ, List.getD_cons_succ, List.getD_cons_zero] at hK
                                go_simp
                                exact hK.out _ _ rfl (sepEmp hS) hst
                              · refine all17 fun z0 z1 z2 z3 z4 z5 z6 z7 z8 z9 z10 z11 z12 z13 z14 z15 z16 W L hv hS hst a ha K hK => ?_
                                obtain ⟨v6, v13, v3, _⟩ := hv
                                obtain rfl : z6 = _ := v6
                                obtain rfl : z13 = _ := v13
                                obtain rfl : z3 = _ := v3
                                simp only [dagPut, Act.put, List.setIfInBounds_toArray, List.set_cons_zero, List.set_cons_succ] at ha
                                subst ha
                                refine wpOp_on rfl rfl ?_
                                simp only [Act.put, List.setIfInBounds_toArray, List.set_cons_zero, List.set_cons_succ, List.getD_cons_succ, List.getD_cons_zero] at hK
                                go_simp
                                exact hK.out _ _ rfl (sepEmp hS) hst
                              · refine all17 fun z0 z1 z2 z3 z4 z5 z6 z7 z8 z9 z10 z11 z12 z13 z14 z15 z16 W L hv hS hst a ha K hK => ?_
                                obtain ⟨v3, v14, _⟩ := hv
                                obtain rfl : z3 = _ := v3
                                obtain rfl : z14 = _ := v14
                                simp only [dagPut, Act.put, List.setIfInBounds_toArray, List.set_cons_zero, List.set_cons_succ] at ha
                                subst ha
                                refine wpOp_plain rfl rfl ?_
                                simp only [Act.put, List.setIfInBounds_toArray, List.set_cons_zero, List.set_cons_succ, List.getD_cons_succ, List.getD_cons_zero] at hK
                                go_simp
                                exact hK.out _ _ rfl (sepEmp hS) hst
                              · refine all17 fun z0 z1 z2 z3 z4 z5 z6 z7 z8 z9 z10 z11 z12 z13 z14 z15 z16 W L hv hS hst a ha K hK => ?_
                                obtain ⟨v15, _⟩ := hv
                                obtain rfl : z15 = _ := v15
                                simp only [dagPut, Act.put, List.setIfInBounds_toArray, List.set_cons_zero, List.set_cons_succ] at ha
                                subst ha
                                refine wpOp_plain rfl rfl ?_
                                simp only [Act.put, List.setIfInBounds_toArray, List.set_cons_zero, List.set_cons_succ, List.getD_cons_succ, List.getD_cons_zero] at hK
                                go_simp
                                exact hK.out _ _ rfl (sepEmp hS) hst
                              · refine all17 fun z0 z1 z2 z3 z4 z5 z6 z7 z8 z9 z10 z11 z12 z13 z14 z15 z16 W hv hS hst a ha => ?_
                                obtain ⟨⟨⟨⟨⟨⟨⟨⟨⟨⟨⟨⟨⟨⟨⟨⟨⟨_, v0⟩, v1⟩, v2⟩, v3⟩, v4⟩, v5⟩, v6⟩, v7⟩, v8⟩, v9⟩, v10⟩, v11⟩, v12⟩, v13⟩, v14⟩, v15⟩, v16⟩ := hv
                                obtain rfl : z0 = _ := v0
                                obtain rfl : z1 = _ := v1
                                obtain rfl : z2 = _ := v2
                                obtain rfl : z3 = _ := v3
                                obtain rfl : z4 = _ := v4
                                obtain rfl : z5 = _ := v5
                                obtain rfl : z6 = _ := v6
                                obtain rfl : z7 = _ := v7
                                obtain rfl : z8 = _ := v8
                                obtain rfl : z9 = _ := v9
                                obtain rfl : z10 = _ := v10
                                obtain rfl : z11 = _ := v11
                                obtain rfl : z12 = _ := v12
                                obtain rfl : z13 = _ := v13
                                obtain rfl : z14 = _ := v14
                                obtain rfl : z15 = _ := v15
                                obtain rfl : z16 = _ := v16
                                simp only [dagPut, Act.put, List.setIfInBounds_toArray, List.set_cons_zero, List.set_cons_succ] at ha; subst ha
                                go_wp2_with fail
                                go_meet
                                exact ⟨by rw [HV.out], hS, hst⟩
                          · have g2 : decide (0 ≤ ro k) = false := by rw [decide_eq_false_iff_not]; exact hk0
                            have HV := Lib.hid (show V = false by rw [hkv, g2]; rfl)
                            have HIK := Lib.hid (And.intro hik hk0)
                            clear hik hkv hk0
                            refine wp_region_dag (w0 := w1) 17 [some 129, some 130, some 131, some 132, some 133, some 134, some 135, some 136, some 137, some 138, some 139, some 140, some 141, some 142, some 143, some 144, some 27] [.det [] (i64 i), .det [] (i64 k), .det [0, 1] (.bool false), .det [2] (.bool false), .det [3] (i64 (ro k)), .det [4, 3] (.bool false), .det [5, 3] (.bool false), .det [6] undef, .det [6] undef, .det [6] undef, .det [6] undef, .det [6] undef, .det [6] undef, .det [6] undef, .det [6, 3] (.bool false), .det [3, 14] (.bool false), .det [15] (.bool false)] [Sl.held 2 (.slice dla dl.length dlc) dl.length (dcells dl), pts bl (.cells #[i64 players, .slice ba bodies.length bc, i64 x0, i64 y0, i64 x1, i64 y1, .slice ra rooms.length rc, .slice dla dl.length dlc, i64 4194304, i64 gx, i64 gy, i64 push, i64 drag, i64 rest, i64 rounds, i64 fuel] 31), rowI cv cs, pts bs (.cells #[i64 players, .slice ba bodies.length bc, i64 x0, i64 y0, i64 x1, i64 y1, .slice ra rooms.length rc, .slice da doors.length dc, i64 fog, i64 gx, i64 gy, i64 push, i64 drag, i64 rest, i64 rounds, i64 fuel] 31), pts bm (.cells #[i64 players, .slice ba bodies.length bc, i64 x0, i64 y0, i64 x1, i64 y1, .slice ra rooms.length rc, .slice dma dm.length dmc, i64 fm, i64 gx, i64 gy, i64 push, i64 drag, i64 rest, i64 rounds, i64 fuel] 31), D, old w1] [] rfl (by kernel_rfl) (by kernel_rfl) (by kernel_rfl) (by kernel_rfl) (H13.out.1) (H13.out.2) ⟨⟨⟨⟨⟨⟨⟨⟨⟨⟨⟨⟨⟨⟨⟨⟨⟨trivial, ?_⟩, ?_⟩, ?_⟩, ?_⟩, ?_⟩, ?_⟩, ?_⟩, ?_⟩, ?_⟩, ?_⟩, ?_⟩, ?_⟩, ?_⟩, ?_⟩, ?_⟩, ?_⟩, ?_⟩ ?_
                            · refine all17 fun z0 z1 z2 z3 z4 z5 z6 z7 z8 z9 z10 z11 z12 z13 z14 z15 z16 W L hv hS hst a ha K hK => ?_
                              simp only [dagPut, Act.put, List.setIfInBounds_toArray, List.set_cons_zero, List.set_cons_succ] at ha
                              subst ha
                              refine wpOp_plain rfl rfl ?_
                              simp only [Act.put, List.setIfInBounds_toArray, List.set_cons_zero, List.set_cons_succ, List.getD_cons_zero] at hK
                              go_simp
                              exact hK.out _ _ rfl (sepEmp hS) hst
                            · refine all17 fun z0 z1 z2 z3 z4 z5 z6 z7 z8 z9 z10 z11 z12 z13 z14 z15 z16 W L hv hS hst a ha K hK => ?_
                              simp only [dagPut, Act.put, List.setIfInBounds_toArray, List.set_cons_zero, List.set_cons_succ] at ha
                              subst ha
                              refine wpOp_plain rfl rfl ?_
                              simp only [Act.put, List.setIfInBounds_toArray, List.set_cons_zero, List.set_cons_succ, List.getD_cons_succ, List.getD_cons_zero] at hK
                              go_simp
                              exact hK.out _ _ rfl (sepEmp hS) hst
                            · refine all17 fun z0 z1 z2 z3 z4 z5 z6 z7 z8 z9 z10 z11 z12 z13 z14 z15 z16 W L hv hS hst a ha K hK => ?_
                              obtain ⟨v0, v1, _⟩ := hv
                              obtain rfl : z0 = _ := v0
                              obtain rfl : z1 = _ := v1
                              simp only [dagPut, Act.put, List.setIfInBounds_toArray, List.set_cons_zero, List.set_cons_succ] at ha
                              subst ha
                              refine wpOp_plain rfl rfl ?_
                              simp only [Act.put, List.setIfInBounds_toArray, List.set_cons_zero, List.set_cons_succ, List.getD_cons_succ, List.getD_cons_zero] at hK
                              go_simp
                              exact hK.out _ _ rfl (sepEmp hS) hst
                            · refine all17 fun z0 z1 z2 z3 z4 z5 z6 z7 z8 z9 z10 z11 z12 z13 z14 z15 z16 W L hv hS hst a ha K hK => ?_
                              obtain ⟨v2, _⟩ := hv
                              obtain rfl : z2 = _ := v2
                              simp only [dagPut, Act.put, List.setIfInBounds_toArray, List.set_cons_zero, List.set_cons_succ] at ha
                              subst ha
                              refine wpOp_plain rfl rfl ?_
                              simp only [Act.put, List.setIfInBounds_toArray, List.set_cons_zero, List.set_cons_succ, List.getD_cons_succ, List.getD_cons_zero] at hK
                              go_simp
                              exact hK.out _ _ rfl (sepEmp hS) hst
                            · refine all17 fun z0 z1 z2 z3 z4 z5 z6 z7 z8 z9 z10 z11 z12 z13 z14 z15 z16 W L hv hS hst a ha K hK => ?_
                              obtain ⟨v3, _⟩ := hv
                              obtain rfl : z3 = _ := v3
                              simp only [dagPut, Act.put, List.setIfInBounds_toArray, List.set_cons_zero, List.set_cons_succ] at ha
                              subst ha
                              refine wpOp_on rfl rfl ?_
                              simp only [Act.put, List.setIfInBounds_toArray, List.set_cons_zero, List.set_cons_succ, List.getD_cons_succ, List.getD_cons_zero] at hK
                              go_simp
                              exact hK.out _ _ rfl (sepEmp hS) hst
                            · refine all17 fun z0 z1 z2 z3 z4 z5 z6 z7 z8 z9 z10 z11 z12 z13 z14 z15 z16 W L hv hS hst a ha K hK => ?_
                              obtain ⟨v4, v3, _⟩ := hv
                              obtain rfl : z4 = _ := v4
                              obtain rfl : z3 = _ := v3
                              simp only [dagPut, Act.put, List.setIfInBounds_toArray, List.set_cons_zero, List.set_cons_succ] at ha
                              subst ha
                              refine wpOp_on rfl rfl ?_
                              simp only [Act.put, List.setIfInBounds_toArray, List.set_cons_zero, List.set_cons_succ, List.getD_cons_succ, List.getD_cons_zero] at hK
                              go_simp
                              exact hK.out _ _ rfl (sepEmp hS) hst
                            · refine all17 fun z0 z1 z2 z3 z4 z5 z6 z7 z8 z9 z10 z11 z12 z13 z14 z15 z16 W L hv hS hst a ha K hK => ?_
                              obtain ⟨v5, v3, _⟩ := hv
                              obtain rfl : z5 = _ := v5
                              obtain rfl : z3 = _ := v3
                              simp only [dagPut, Act.put, List.setIfInBounds_toArray, List.set_cons_zero, List.set_cons_succ] at ha
                              subst ha
                              refine wpOp_on rfl rfl ?_
                              simp only [Act.put, List.setIfInBounds_toArray, List.set_cons_zero, List.set_cons_succ, List.getD_cons_succ, List.getD_cons_zero] at hK
                              go_simp
                              exact hK.out _ _ rfl (sepEmp hS) hst
                            · refine all17 fun z0 z1 z2 z3 z4 z5 z6 z7 z8 z9 z10 z11 z12 z13 z14 z15 z16 W L hv hS hst a ha K hK => ?_
                              obtain ⟨v6, _⟩ := hv
                              obtain rfl : z6 = _ := v6
                              simp only [dagPut, Act.put, List.setIfInBounds_toArray, List.set_cons_zero, List.set_cons_succ] at ha
                              subst ha
                              refine wpOp_off rfl rfl ?_
                              simp only [Act.put, List.setIfInBounds_toArray, List.set_cons_zero, List.set_cons_succ, List.getD_cons_succ, List.getD_cons_zero] at hK
                              exact hK.out undef _ rfl (sepEmp hS) hst
                            · refine all17 fun z0 z1 z2 z3 z4 z5 z6 z7 z8 z9 z10 z11 z12 z13 z14 z15 z16 W L hv hS hst a ha K hK => ?_
                              obtain ⟨v6, _⟩ := hv
                              obtain rfl : z6 = _ := v6
                              simp only [dagPut, Act.put, List.setIfInBounds_toArray, List.set_cons_zero, List.set_cons_succ] at ha
                              subst ha
                              refine wpOp_off rfl rfl ?_
                              simp only [Act.put, List.setIfInBounds_toArray, List.set_cons_zero, List.set_cons_succ, List.getD_cons_succ, List.getD_cons_zero] at hK
                              exact hK.out undef _ rfl (sepEmp hS) hst
                            · refine all17 fun z0 z1 z2 z3 z4 z5 z6 z7 z8 z9 z10 z11 z12 z13 z14 z15 z16 W L hv hS hst a ha K hK => ?_
                              obtain ⟨v6, _⟩ := hv
                              obtain rfl : z6 = _ := v6
                              simp only [dagPut, Act.put, List.setIfInBounds_toArray, List.set_cons_zero, List.set_cons_succ] at ha
                              subst ha
                              refine wpOp_off rfl rfl ?_
                              simp only [Act.put, List.setIfInBounds_toArray, List.set_cons_zero, List.set_cons_succ, List.getD_cons_succ, List.getD_cons_zero] at hK
                              exact hK.out undef _ rfl (sepEmp hS) hst
                            · refine all17 fun z0 z1 z2 z3 z4 z5 z6 z7 z8 z9 z10 z11 z12 z13 z14 z15 z16 W L hv hS hst a ha K hK => ?_
                              obtain ⟨v6, _⟩ := hv
                              obtain rfl : z6 = _ := v6
                              simp only [dagPut, Act.put, List.setIfInBounds_toArray, List.set_cons_zero, List.set_cons_succ] at ha
                              subst ha
                              refine wpOp_off rfl rfl ?_
                              simp only [Act.put, List.setIfInBounds_toArray, List.set_cons_zero, List.set_cons_succ, List.getD_cons_succ, List.getD_cons_zero] at hK
                              exact hK.out undef _ rfl (sepEmp hS) hst
                            · refine all17 fun z0 z1 z2 z3 z4 z5 z6 z7 z8 z9 z10 z11 z12 z13 z14 z15 z16 W L hv hS hst a ha K hK => ?_
                              obtain ⟨v6, _⟩ := hv
                              obtain rfl : z6 = _ := v6
                              simp only [dagPut, Act.put, List.setIfInBounds_toArray, List.set_cons_zero, List.set_cons_succ] at ha
                              subst ha
                              refine wpOp_off rfl rfl ?_
                              simp only [Act.put, List.setIfInBounds_toArray, List.set_cons_zero, List.set_cons_succ, List.getD_cons_succ, List.getD_cons_zero] at hK
                              exact hK.out undef _ rfl (sepEmp hS) hst
                            · refine all17 fun z0 z1 z2 z3 z4 z5 z6 z7 z8 z9 z10 z11 z12 z13 z14 z15 z16 W L hv hS hst a ha K hK => ?_
                              obtain ⟨v6, _⟩ := hv
                              obtain rfl : z6 = _ := v6
                              simp only [dagPut, Act.put, List.setIfInBounds_toArray, List.set_cons_zero, List.set_cons_succ] at ha
                              subst ha
                              refine wpOp_off rfl rfl ?_
                              simp only [Act.put, List.setIfInBounds_toArray, List.set_cons_zero, List.set_cons_succ, List.getD_cons_succ, List.getD_cons_zero] at hK
                              exact hK.out undef _ rfl (sepEmp hS) hst
                            · refine all17 fun z0 z1 z2 z3 z4 z5 z6 z7 z8 z9 z10 z11 z12 z13 z14 z15 z16 W L hv hS hst a ha K hK => ?_
                              obtain ⟨v6, _⟩ := hv
                              obtain rfl : z6 = _ := v6
                              simp only [dagPut, Act.put, List.setIfInBounds_toArray, List.set_cons_zero, List.set_cons_succ] at ha
                              subst ha
                              refine wpOp_off rfl rfl ?_
                              simp only [Act.put, List.setIfInBounds_toArray, List.set_cons_zero, List.set_cons_succ, List.getD_cons_succ, List.getD_cons_zero] at hK
                              exact hK.out undef _ rfl (sepEmp hS) hst
                            · refine all17 fun z0 z1 z2 z3 z4 z5 z6 z7 z8 z9 z10 z11 z12 z13 z14 z15 z16 W L hv hS hst a ha K hK => ?_
                              obtain ⟨v6, v3, _⟩ := hv
                              obtain rfl : z6 = _ := v6
                              obtain rfl : z3 = _ := v3
                              simp only [dagPut, Act.put, List.setIfInBounds_toArray, List.set_cons_zero, List.set_cons_succ] at ha
                              subst ha
                              refine wpOp_on rfl rfl ?_
                              simp only [Act.put, List.setIfInBounds_toArray, List.set_cons_zero, List.set_cons_succ, List.getD_cons_succ, List.getD_cons_zero] at hK
                              go_simp
                              exact hK.out _ _ rfl (sepEmp hS) hst
                            · refine all17 fun z0 z1 z2 z3 z4 z5 z6 z7 z8 z9 z10 z11 z12 z13 z14 z15 z16 W L hv hS hst a ha K hK => ?_
                              obtain ⟨v3, v14, _⟩ := hv
                              obtain rfl : z3 = _ := v3
                              obtain rfl : z14 = _ := v14
                              simp only [dagPut, Act.put, List.setIfInBounds_toArray, List.set_cons_zero, List.set_cons_succ] at ha
                              subst ha
                              refine wpOp_plain rfl rfl ?_
                              simp only [Act.put, List.setIfInBounds_toArray, List.set_cons_zero, List.set_cons_succ, List.getD_cons_succ, List.getD_cons_zero] at hK
                              go_simp
                              exact hK.out _ _ rfl (sepEmp hS) hst
                            · refine all17 fun z0 z1 z2 z3 z4 z5 z6 z7 z8 z9 z10 z11 z12 z13 z14 z15 z16 W L hv hS hst a ha K hK => ?_
                              obtain ⟨v15, _⟩ := hv
                              obtain rfl : z15 = _ := v15
                              simp only [dagPut, Act.put, List.setIfInBounds_toArray, List.set_cons_zero, List.set_cons_succ] at ha
                              subst ha
                              refine wpOp_plain rfl rfl ?_
                              simp only [Act.put, List.setIfInBounds_toArray, List.set_cons_zero, List.set_cons_succ, List.getD_cons_succ, List.getD_cons_zero] at hK
                              go_simp
                              exact hK.out _ _ rfl (sepEmp hS) hst
                            · refine all17 fun z0 z1 z2 z3 z4 z5 z6 z7 z8 z9 z10 z11 z12 z13 z14 z15 z16 W hv hS hst a ha => ?_
                              obtain ⟨⟨⟨⟨⟨⟨⟨⟨⟨⟨⟨⟨⟨⟨⟨⟨⟨_, v0⟩, v1⟩, v2⟩, v3⟩, v4⟩, v5⟩, v6⟩, v7⟩, v8⟩, v9⟩, v10⟩, v11⟩, v12⟩, v13⟩, v14⟩, v15⟩, v16⟩ := hv
                              obtain rfl : z0 = _ := v0
                              obtain rfl : z1 = _ := v1
                              obtain rfl : z2 = _ := v2
                              obtain rfl : z3 = _ := v3
                              obtain rfl : z4 = _ := v4
                              obtain rfl : z5 = _ := v5
                              obtain rfl : z6 = _ := v6
                              obtain rfl : z7 = _ := v7
                              obtain rfl : z8 = _ := v8
                              obtain rfl : z9 = _ := v9
                              obtain rfl : z10 = _ := v10
                              obtain rfl : z11 = _ := v11
                              obtain rfl : z12 = _ := v12
                              obtain rfl : z13 = _ := v13
                              obtain rfl : z14 = _ := v14
                              obtain rfl : z15 = _ := v15
                              obtain rfl : z16 = _ := v16
                              simp only [dagPut, Act.put, List.setIfInBounds_toArray, List.set_cons_zero, List.set_cons_succ] at ha; subst ha
                              go_wp2_with fail
                              go_meet
                              exact ⟨by rw [HV.out], hS, hst⟩
                      case rest =>
                        obtain ⟨rfl, hS, hst⟩ := hcut
                        have H14 := Lib.hid (And.intro hS hst)
                        clear hS hst
                        go_wp2_with (refine wpList_load_g 31 _ rfl _ rfl _ _ _ _ (Sep.get (Sep.pick 1 H14.out.1)) Try.underlying31 rfl (by kernel_rfl) (by first | rfl | (go_simp; done) | (go_simp; omega)) ?_)
                        refine (HSA.out _ _ H14.out.1).mono ?_
                        rintro e w9 ⟨rfl, hS9, hst9⟩
                        have H15 := Lib.hid (And.intro (H14.out.1.mount hS9) (H14.out.2.trans hst9))
                        clear hS9 hst9
                        go_wp2_with fail
                        go_roundw
                        case rel => exact ⟨i + 1, by omega, by go_num, H15.out.1, H15.out.2⟩
                        case measure => simp [intOf]; omega
                    · obtain rfl : i = bodies.length := by omega
                      go_wp2_with fail
                      go_roundw
                      case rel => exact ⟨k + 1, by omega, by go_num, H13.out.1, H13.out.2⟩
                      case measure => simp [intOf]; omega
          · go_wp2_with fail
            refine (lives_spec _).mono ?_
            rintro e w7 ⟨rfl, hS7, hst7⟩
            have H7 := Lib.hid (And.intro (HR.out.1.mount hS7) (HR.out.2.trans hst7))
            clear hS7 hst7
            go_wp2_with fail
            go_ret
            exact ⟨rfl, rebase HB.out (Sep.below (H7.out.1.pick 6).one' H7.out.2)⟩

end Go.Proofs.Ytjmlpjaahankcaa
