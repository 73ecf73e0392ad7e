/- Contracts: arenanetref12.Setup makes a good setup. -/
import Derived.Test.YtkalpgngoijdmaaShape
import Derived.Deep.RegionLaw
import Derived.Deep.RegionHeld3
import Derived.Deep.CutRange
namespace Go.Proofs.Ytkalpgngoijdmaa
open Go.RowKit Go.Sl

variable {w : World} {L : List Asn}

/-- A body. -/
structure Bd where
  shape : Shp
  px : Int
  py : Int
  vx : Int
  vy : Int
  im : Int
  a : Int
  b : Int
@[reducible] def Bd.cells (b : Bd) : List Value := [i64 b.shape.rad, .slice b.shape.pa b.shape.pl.length b.shape.pc, i64 b.px, i64 b.py, i64 b.vx, i64 b.vy, i64 b.im, i64 b.a, i64 b.b]
def bdcells (l : List Bd) : List Value := l.flatMap Bd.cells
theorem bdcells_length (l : List Bd) : (bdcells l).length = l.length * 9 := by
  induction l with
  | nil => rfl
  | cons a l ih => simp only [bdcells, List.flatMap_cons, List.length_append, List.length_cons, List.length_nil, Bd.cells] at *; omega
theorem bdcells_one (l : List Bd) : ∀ u ∈ bdcells l, u.oneCell' = true := by
  intro u hu; obtain ⟨x, _, hx⟩ := List.mem_flatMap.1 hu; simp [Bd.cells] at hx; rcases hx with rfl | rfl | rfl | rfl | rfl | rfl | rfl | rfl | rfl <;> rfl
theorem bdcells_snoc (l : List Bd) (b : Bd) : bdcells (l ++ [b]) = bdcells l ++ b.cells := by simp [bdcells]

/-- The numbers of a body of a generated setup. -/
structure Bd.Good (b : Bd) : Prop where
  shape : b.shape.Good
  px : -5400 ≤ b.px ∧ b.px ≤ 5400
  py : -4000 ≤ b.py ∧ b.py ≤ 4000
  vx : -1200 ≤ b.vx ∧ b.vx ≤ 1200
  vy : -1200 ≤ b.vy ∧ b.vy ≤ 1200
  im : 0 ≤ b.im ∧ b.im ≤ 2048
  a : 0 ≤ b.a ∧ b.a < 50
  b : 0 ≤ b.b ∧ b.b < 7

/-- The polygons of some bodies. -/
def polys (l : List Bd) : Asn := fun h => ∀ b ∈ l, b.shape.held h
theorem polys_mono (l : List Bd) : Mono (polys l) := fun _ _ a k b hb => held_mono _ _ (a b hb) k
theorem polys_snoc {l : List Bd} {b : Bd} (h : Sep w (polys l :: b.shape.held :: L)) : Sep w (polys (l ++ [b]) :: L) :=
  h.join (fun _ x y c hc => by
    rcases List.mem_append.1 hc with hc | hc
    · exact x c hc
    · obtain rfl : c = b := by simpa using hc
      exact y) (polys_mono l) held_mono

def theRooms : List Bx := [(-12000, -9000, -1, 9000), (0, 0, 12000, 9000), (0, -9000, 12000, -1)]
def someDoors (l : List Dr) : Prop := l = [] ∨ l = [(0, 1)] ∨ l = [(0, 2), (1, 2)]

/-- A setup and its bodies. -/
structure Su where
  st : St
  bodies : List Bd
/-- What is laid for it in memory. -/
def Su.parts (s : Su) : List Asn := [Sl.held 9 s.st.bodiesV s.bodies.length (bdcells s.bodies), polys s.bodies, Sl.held 4 s.st.roomsV s.st.rooms.length (bcells s.st.rooms), Sl.held 2 s.st.doorsV s.st.doors.length (dcells s.st.doors)]
/-- The numbers of a generated setup, but for rooms, doors and fog. -/
structure Su.Base (s : Su) : Prop where
  nb : s.st.nb = s.bodies.length
  players : 1 ≤ s.st.players ∧ s.st.players ≤ 3
  more : s.st.players ≤ s.bodies.length
  few : s.bodies.length ≤ 5
  bounds : s.st.x0 = -12000 ∧ s.st.y0 = -9000 ∧ s.st.x1 = 12000 ∧ s.st.y1 = 9000
  gx : s.st.gx = 0
  gy : -80 ≤ s.st.gy ∧ s.st.gy ≤ 0
  push : 0 ≤ s.st.push ∧ s.st.push ≤ 400
  drag : 0 ≤ s.st.drag ∧ s.st.drag ≤ 300
  rest : 0 ≤ s.st.rest ∧ s.st.rest ≤ 1024
  rounds : 1 ≤ s.st.rounds ∧ s.st.rounds ≤ 3
  fuel : s.st.fuel = 60
  bodies : ∀ b ∈ s.bodies, b.Good
structure Su.Good (s : Su) : Prop where
  base : s.Base
  fog : 4000 ≤ s.st.fog ∧ s.st.fog ≤ 12000
  rooms : s.st.rooms = theRooms
  doors : someDoors s.st.doors

theorem infoBd : (Try.prog.info? 52).map (fun i => (i.zero, i.size, i.bytes)) = some (some (.agg #[i64 0, .slice none 0 0, i64 0, i64 0, i64 0, i64 0, i64 0, i64 0, i64 0]), 9, 88) := by kernel_rfl

/-- The first numbers that the setup is made of. -/
def keysOk (l : List Int) : Prop := ∀ x ∈ l, 0 ≤ x ∧ x < 1000000

theorem wr_in {x : Int} (h : -9223372036854775808 ≤ x ∧ x ≤ 9223372036854775807) : IntKind.i64.wrap x = x := IntWalk.i64_in _ (by omega)
theorem setup_nums {k0 k1 k2 : Int} (h0 : 0 ≤ k0) (h1 : 0 ≤ k1) (h2 : 0 ≤ k2) (g1 : k1 < 1000000) (g2 : k2 < 1000000) :
    1 ≤ IntKind.i64.wrap (1 + k0.tmod 3) ∧ IntKind.i64.wrap (1 + k0.tmod 3) ≤ 3 ∧ 4000 ≤ IntKind.i64.wrap (4000 + IntKind.i64.wrap (k1.tmod 9 * 1000)) ∧ IntKind.i64.wrap (4000 + IntKind.i64.wrap (k1.tmod 9 * 1000)) ≤ 12000 ∧
    0 ≤ IntKind.i64.wrap ((IntKind.i64.wrap (k1.tdiv 9)).tmod 5 * 100) ∧ IntKind.i64.wrap ((IntKind.i64.wrap (k1.tdiv 9)).tmod 5 * 100) ≤ 400 ∧ 0 ≤ IntKind.i64.wrap (k2.tmod 4 * 100) ∧ IntKind.i64.wrap (k2.tmod 4 * 100) ≤ 300 ∧
    0 ≤ IntKind.i64.wrap ((IntKind.i64.wrap (k2.tdiv 4)).tmod 3 * 512) ∧ IntKind.i64.wrap ((IntKind.i64.wrap (k2.tdiv 4)).tmod 3 * 512) ≤ 1024 ∧ 1 ≤ IntKind.i64.wrap (1 + (IntKind.i64.wrap (k2.tdiv 12)).tmod 3) ∧ IntKind.i64.wrap (1 + (IntKind.i64.wrap (k2.tdiv 12)).tmod 3) ≤ 3 := by
  rw [Int.tdiv_eq_ediv_of_nonneg h1, Int.tdiv_eq_ediv_of_nonneg h2, Int.tdiv_eq_ediv_of_nonneg h2, Int.tmod_eq_emod_of_nonneg h0, Int.tmod_eq_emod_of_nonneg h1, Int.tmod_eq_emod_of_nonneg h2]
  rw [wr_in (x := k1 / 9) (by omega), wr_in (x := k2 / 4) (by omega), wr_in (x := k2 / 12) (by omega), Int.tmod_eq_emod_of_nonneg (a := k1 / 9) (by omega), Int.tmod_eq_emod_of_nonneg (a := k2 / 4) (by omega), Int.tmod_eq_emod_of_nonneg (a := k2 / 12) (by omega)]
  rw [wr_in (x := 1 + k0 % 3) (by omega), wr_in (x := k1 % 9 * 1000) (by omega), wr_in (x := 4000 + k1 % 9 * 1000) (by omega), wr_in (x := k1 / 9 % 5 * 100) (by omega), wr_in (x := k2 % 4 * 100) (by omega), wr_in (x := k2 / 4 % 3 * 512) (by omega), wr_in (x := 1 + k2 / 12 % 3) (by omega)]
  omega

theorem keysOk_snoc {l : List Int} {x : Int} (h : keysOk l) (a : 0 ≤ x) (b : x < 1000000) : keysOk (l ++ [x]) := fun y hy => by
  rcases List.mem_append.1 hy with hy | hy
  · exact h y hy
  · obtain rfl : y = x := by simpa using hy
    exact ⟨a, b⟩

set_option maxRecDepth 100000 in
set_option maxHeartbeats 8000000 in
theorem Setup12_spec {v : Value} {l : List Int} (hr : readsI w v l) (hl : ∀ x ∈ l, inI64 x) (hlen : l.length ≤ 9223372036854775807) :
    Calls Try.prog 11 #[v] w fun e w' => ∃ s : Su, e = .returned s.st.val ∧ s.Good ∧ Sep w' (s.parts ++ [old w]) ∧ Stable w w' := by
  have hcell : ∀ k, k < l.length → ∃ b off cap, v = .slice (some ⟨b, off, none⟩) l.length cap ∧ w.cell? ⟨b, off + k, none⟩ = some (i64 (l.getD k 0)) ∧ b < w.heap.size := fun k hk => by
    obtain ⟨b, off, cap, hv, _, _, hc⟩ := readsI_at hr (by omega)
    exact ⟨b, off, cap, hv, hc k hk, World.block_lt_of_cell? w _ (hc k hk)⟩
  have hmem : ∀ k, k < l.length → inI64 (l.getD k 0) := fun k hk => hl _ (by rw [show l.getD k 0 = l[k] by simp [List.getD, hk]]; exact List.getElem_mem hk)
  obtain ⟨a, c, rfl⟩ := readsI_len hr
  obtain ⟨iI, hiI, hI0, hI1, hI2⟩ := info_parts infoI
  have HC := Lib.hid hcell
  have HM := Lib.hid hmem
  clear hr hl hcell hmem
  have hS0 := (Sep.start w).alloc (.cells #[i64 0, .slice none 0 0, i64 0, i64 0, i64 0, i64 0, .slice none 0 0, .slice none 0 0, i64 0, i64 0, i64 0, i64 0, i64 0, i64 0, i64 0, i64 0] 31)
  have hst0 := (Stable.refl w).alloc (.cells #[i64 0, .slice none 0 0, i64 0, i64 0, i64 0, i64 0, .slice none 0 0, .slice none 0 0, i64 0, i64 0, i64 0, i64 0, i64 0, i64 0, i64 0, i64 0] 31)
  have H0 := Lib.hid (And.intro hS0 hst0)
  clear hS0 hst0
  go_enter Try.func11, Try.ntmps11
  go_wp2_with fail
  go_loopw [3, 4, 5] (fun o i n wr => ∃ (j : Nat) (ks : List Int), j ≤ 24 ∧ i = .int .i64 j ∧ ks.length = j ∧ keysOk ks ∧
      Sep wr [rowI o ks, pts w.heap.size (.cells #[i64 0, .slice none 0 0, i64 0, i64 0, i64 0, i64 0, .slice none 0 0, .slice none 0 0, i64 0, i64 0, i64 0, i64 0, i64 0, i64 0, i64 0, i64 0] 31), old w] ∧ Stable w wr) (fun _ i _ _ => 24 - (intOf i).toNat)
  case atStart => exact ⟨0, [], by omega, rfl, rfl, by simp [keysOk], H0.out.1.addNil _ _, H0.out.2⟩
  case round =>
    obtain ⟨j, ks, hj, rfl, hkl, hko, hSr, hst⟩ := hrel
    have HK := Lib.hid (And.intro hkl (And.intro hko (And.intro hSr hst)))
    clear hkl hko hSr hst
    by_cases h24 : j < 24
    · by_cases hlt : j < l.length
      · obtain ⟨b, off, cap, hv, hc, hb⟩ := HC.out j hlt
        obtain ⟨rfl, rfl⟩ : a = some ⟨b, off, none⟩ ∧ c = cap := by simpa using hv
        clear hv
        have hold := (HK.out.2.2.1.pick 2).oldGet b hb
        have hcr : wr.cell? ⟨b, off + j, none⟩ = some (i64 (l.getD j 0)) := (World.cell?_of_block (a := ⟨b, off + j, none⟩) hold).trans hc
        have har := fun w => Around_spec (l.getD j 0) 1000000 w (by omega) (by omega) (HM.out j hlt)
        have n0 : 0 ≤ around (l.getD j 0) 1000000 := around_lo (by omega)
        have n1 : around (l.getD j 0) 1000000 < 1000000 := around_hi (by omega)
        generalize around (l.getD j 0) 1000000 = y at *
        generalize l.getD j 0 = x at *
        have HA := Lib.hid har
        clear hold hc har
        have hS2 := HK.out.2.2.1.allocBeside (.cells #[i64 y] 3)
        have hj2 : ks.length ≤ 1000 := by have := HK.out.1; omega
        go_wp2_with (first
          | (go_at_call 16; refine (HA.out _).mono ?_; rintro e w2 ⟨rfl, rfl⟩)
          | (at_builtin; refine wpList_append_sep rfl (.tmp 24) (.tmp 26) 22 22 rfl 3 iI _ 1 8 Try.underlying22 hiI hI0 hI1 hI2 rfl _ _ _ rfl hS2 1 [i64 y] (Src.ofSlice _ Try.underlying22 ⟨_, 0, none⟩ 1 1 _ rfl (fun j u hu => by rw [Addr.add_lit]; simpa using hu) (ints_one [y])) (by unfold maxLen; omega) (by omega) ?_; intro v3 w3 hS3 hst3 hn3))
        exact ⟨⟨j + 1, ks ++ [y], by omega, by go_num, by rw [List.length_append, HK.out.1]; rfl, keysOk_snoc HK.out.2.1 n0 n1, rowI_app (l' := [y]) hS3 rfl rfl, (HK.out.2.2.2.alloc _).trans hst3⟩, by simp [intOf]; omega⟩
      · have hS2 := HK.out.2.2.1.allocBeside (.cells #[i64 0] 3)
        have hj2 : ks.length ≤ 1000 := by have := HK.out.1; omega
        go_wp2_with (first
          | (at_builtin; refine wpList_append_sep rfl (.tmp 24) (.tmp 26) 22 22 rfl 3 iI _ 1 8 Try.underlying22 hiI hI0 hI1 hI2 rfl _ _ _ rfl hS2 1 [i64 0] (Src.ofSlice _ Try.underlying22 ⟨_, 0, none⟩ 1 1 _ rfl (fun j u hu => by rw [Addr.add_lit]; simpa using hu) (ints_one [(0 : Int)])) (by unfold maxLen; omega) (by omega) ?_; intro v3 w3 hS3 hst3 hn3))
        exact ⟨⟨j + 1, ks ++ [0], by omega, by go_num, by rw [List.length_append, HK.out.1]; rfl, keysOk_snoc HK.out.2.1 (by omega) (by omega), rowI_app (l' := [0]) hS3 rfl rfl, (HK.out.2.2.2.alloc _).trans hst3⟩, by simp [intOf]; omega⟩
    · obtain rfl : j = 24 := by omega
      clear h24
      obtain ⟨g, cap, hv, _, _, hcell, hfr, hg, _⟩ := HK.out.2.2.1.rowAt (by have := HK.out.1; omega)
      rw [HK.out.1] at hv
      subst hv
      have hk : ∀ i, i < 24 → wr.cell? ⟨g, i, none⟩ = some (i64 (ks.getD i 0)) ∧ 0 ≤ ks.getD i 0 ∧ ks.getD i 0 < 1000000 := fun i hi => by
        have hl : i < ks.length := by have := HK.out.1; omega
        refine ⟨(hcell i (by rw [ints_length]; exact hl)).trans (ints_get ks i hl), ?_⟩
        have := HK.out.2.1 (ks.getD i 0) (by rw [show ks.getD i 0 = ks[i] by simp [List.getD, hl]]; exact List.getElem_mem hl)
        exact this
      have HKK := Lib.hid hk
      have hkb : ∀ i, i < 24 → 0 ≤ ks.getD i 0 ∧ ks.getD i 0 < 1000000 := fun i hi => (hk i hi).2
      have HKB := Lib.hid hkb
      have hkl := HK.out.1
      have HKL := Lib.hid hkl
      clear hcell hfr hk hkb hkl
      obtain ⟨c0, k00, k01⟩ := HKK.out 0 (by omega)
      obtain ⟨c1, k10, k11⟩ := HKK.out 1 (by omega)
      obtain ⟨c2, k20, k21⟩ := HKK.out 2 (by omega)
      obtain ⟨c3, k30, k31⟩ := HKK.out 3 (by omega)
      have HN := Lib.hid (rfl : ks = ks)
      generalize ks.getD 0 0 = k0 at c0 k00 k01
      generalize ks.getD 1 0 = k1 at c1 k10 k11
      generalize ks.getD 2 0 = k2 at c2 k20 k21
      generalize ks.getD 3 0 = k3 at c3 k30 k31
      go_upto_region 9 with fail
      go_cut [6] from 28 to 63 (fun x wx => ∃ P F PU DR RE RO b6, x = .pointer (some ⟨b6, 0, none⟩) ∧ (1 ≤ P ∧ P ≤ 3 ∧ 4000 ≤ F ∧ F ≤ 12000 ∧ 0 ≤ PU ∧ PU ≤ 400 ∧ 0 ≤ DR ∧ DR ≤ 300 ∧ 0 ≤ RE ∧ RE ≤ 1024 ∧ 1 ≤ RO ∧ RO ≤ 3) ∧
        Sep wx [pts b6 (.cells #[i64 P, .slice none 0 0, i64 (-12000), i64 (-9000), i64 12000, i64 9000, .slice none 0 0, .slice none 0 0, i64 F, i64 0, i64 0, i64 PU, i64 DR, i64 RE, i64 RO, i64 60] 31),
          rowI (.slice (some ⟨g, 0, none⟩) 24 cap) ks, pts w.heap.size (.cells #[i64 0, .slice none 0 0, i64 0, i64 0, i64 0, i64 0, .slice none 0 0, .slice none 0 0, i64 0, i64 0, i64 0, i64 0, i64 0, i64 0, i64 0, i64 0] 31), old w] ∧ Stable w wx)
      case first =>
        have x0 := World.new_ne wr ⟨g, 0, none⟩ c0
        have x1 := World.new_ne wr ⟨g, 1, none⟩ c1
        have x2 := World.new_ne wr ⟨g, 2, none⟩ c2
        go_region_held3 (fun w' => w'.cell? ⟨g, 0, none⟩ = some (i64 k0) ∧ w'.cell? ⟨g, 1, none⟩ = some (i64 k1) ∧ w'.cell? ⟨g, 2, none⟩ = some (i64 k2)) (go_keep) ((fail))
        go_wp2_with fail
        go_meet
        exact ⟨_, _, _, _, _, _, _, rfl, setup_nums k00 k10 k20 k11 k21, (HK.out.2.2.1.alloc _).drew, (HK.out.2.2.2.alloc _).drew⟩
      case rest =>
        obtain ⟨P, F, PU, DR, RE, RO, b6, rfl, hb, hS6, hst6⟩ := hcut
        clear c0 c1 c2 c3 k00 k01 k10 k11 k20 k21 k30 k31 k0 k1 k2 k3 HK HKK hg
        have hkc : ∀ i, i < 24 → wc.cell? ⟨g, i, none⟩ = some (i64 (ks.getD i 0)) := fun i hi => by
          have hl : i < ks.length := by have := HKL.out; omega
          exact ((hS6.pick 1).rowCell (by rw [ints_length]; exact hl)).trans (ints_get ks i hl)
        have c2 := hkc 2 (by omega)
        obtain ⟨k20, k21⟩ := HKB.out 2 (by omega)
        have hne : g ≠ b6 := by
          rcases (hS6.pick 1).rowCases with ⟨hv, _⟩ | ⟨g', cap', cur, hv, _, _, _, _, _, h⟩
          · simp at hv
          · obtain ⟨rfl, _⟩ : g = g' ∧ 24 = ks.length ∧ cap = cap' := by simpa using hv
            exact h.ne
        have hne2 : b6 ≠ g := fun e => hne e.symm
        have fz := frozen_of_blk hS6.get
        have s4 := cell_of_blk hS6.get 7
        have s6 := cell_of_blk hS6.get 6
        have s9 := cell_of_blk hS6.get 9
        have s10 := cell_of_blk hS6.get 10
        simp at s4 s6 s9 s10
        have hlt6 := hl_lt hS6.get
        have HS6 := Lib.hid (And.intro hb (And.intro hS6 hst6))
        clear hb hS6 hst6
        generalize ks.getD 2 0 = k2 at c2 k20 k21
        clear hkc
        go_upto_region 12 with fail
        have hS11 := (((HS6.out.2.1.setCell 9 (i64 0)).setCell 10 (i64 (-(k2 / 36 % 3) * 40))).setCell 6 (.slice (some ⟨wc.heap.size, 0, none⟩) 3 3)).alloc (.cells #[i64 (-12000), i64 (-9000), i64 (-1), i64 9000, i64 0, i64 0, i64 12000, i64 9000, i64 0, i64 (-9000), i64 12000, i64 (-1)] 25)
        have hst11 := (((HS6.out.2.2.setCell ⟨b6, 9, none⟩ (i64 0)).setCell ⟨b6, 10, none⟩ (i64 (-(k2 / 36 % 3) * 40))).setCell ⟨b6, 6, none⟩ (.slice (some ⟨wc.heap.size, 0, none⟩) 3 3)).alloc (.cells #[i64 (-12000), i64 (-9000), i64 (-1), i64 9000, i64 0, i64 0, i64 12000, i64 9000, i64 0, i64 (-9000), i64 12000, i64 (-1)] 25)
        simp only [List.setIfInBounds_toArray, List.set_cons_succ, List.set_cons_zero] at hS11
        rw [show (((wc.setCell ⟨b6, 9, none⟩ (i64 0)).setCell ⟨b6, 10, none⟩ (i64 (-(k2 / 36 % 3) * 40))).setCell ⟨b6, 6, none⟩ (.slice (some ⟨wc.heap.size, 0, none⟩) 3 3)).heap.size = wc.heap.size by simp] at hS11
        clear c2 s4 s6 s9 s10 fz hlt6
        generalize World.alloc (World.setCell _ _ _) _ = w11 at *
        have hkc : ∀ i, i < 24 → w11.cell? ⟨g, i, none⟩ = some (i64 (ks.getD i 0)) := fun i hi => by
          have hl : i < ks.length := by have := HKL.out; omega
          exact ((hS11.pick 2).rowCell (by rw [ints_length]; exact hl)).trans (ints_get ks i hl)
        have c3 := hkc 3 (by omega)
        obtain ⟨k30, k31⟩ := HKB.out 3 (by omega)
        generalize ks.getD 3 0 = k3 at c3 k30 k31
        have fz := frozen_of_blk (hS11.pick 1).get
        have s7 := cell_of_blk (hS11.pick 1).get 7
        simp at s7
        have c3' : ∀ o1 o2 o3 o4, ((((w11.alloc o1).alloc o2).alloc o3).alloc o4).cell? ⟨g, 3, none⟩ = some (i64 k3) := fun o1 o2 o3 o4 => cell_alloc (cell_alloc (cell_alloc (cell_alloc c3 o1) o2) o3) o4
        have hS15 : ∀ o1 o2 o3 o4, Sep ((((w11.alloc o1).alloc o2).alloc o3).alloc o4) _ := fun o1 o2 o3 o4 => (((hS11.allocBeside o1).allocBeside o2).allocBeside o3).allocBeside o4
        have s7' := fun o1 o2 o3 o4 => cell_of_blk ((hS15 o1 o2 o3 o4).pick 1).get 7
        have fz' := fun o1 o2 o3 o4 => frozen_of_blk ((hS15 o1 o2 o3 o4).pick 1).get
        simp at s7'
        clear hS15
        have hg := World.block_lt_of_cell? w11 _ c3
        have hg6 := hl_lt (hS11.pick 1).get
        have hD := (((hS11.alloc (.cells #[] 68)).alloc (.cells #[i64 0, i64 1] 68)).alloc (.cells #[i64 0, i64 2, i64 1, i64 2] 68)).allocBeside (.cells #[.slice (some ⟨w11.heap.size, 0, none⟩) 0 0, .slice (some ⟨w11.heap.size + 1, 0, none⟩) 1 1, .slice (some ⟨w11.heap.size + 1 + 1, 0, none⟩) 2 2] 27)
        simp only [World.size_alloc] at hD
        have HD := Lib.hid (hD.pick 4)
        clear hD
        have HGY : Hid (-80 ≤ -(k2 / 36 % 3) * 40 ∧ -(k2 / 36 % 3) * 40 ≤ 0) := Lib.hid (by omega)
        have HS11 := Lib.hid (And.intro HS6.out.1 (And.intro hS11 hst11))
        generalize hGY : -(k2 / 36 % 3) * 40 = GY at *
        clear hkc hS11 hst11 HS6 hGY k20 k21
        have hk3 : k3 % 3 = 0 ∨ k3 % 3 = 1 ∨ k3 % 3 = 2 := by omega
        have HK3 := Lib.hid hk3
        clear hk3
        go_cut [] from 78 to 91 (fun wx => ∃ P F PU DR RE RO GY ra rc da dc ds, (1 ≤ P ∧ P ≤ 3 ∧ 4000 ≤ F ∧ F ≤ 12000 ∧ 0 ≤ PU ∧ PU ≤ 400 ∧ 0 ≤ DR ∧ DR ≤ 300 ∧ 0 ≤ RE ∧ RE ≤ 1024 ∧ 1 ≤ RO ∧ RO ≤ 3) ∧ (-80 ≤ GY ∧ GY ≤ 0) ∧ someDoors ds ∧
          Sep wx [pts b6 (.cells #[i64 P, .slice none 0 0, i64 (-12000), i64 (-9000), i64 12000, i64 9000, .slice ra 3 rc, .slice da ds.length dc, i64 F, i64 0, i64 GY, i64 PU, i64 DR, i64 RE, i64 RO, i64 60] 31),
            held 4 (.slice ra 3 rc) 3 (bcells theRooms), held 2 (.slice da ds.length dc) ds.length (dcells ds),
            rowI (.slice (some ⟨g, 0, none⟩) 24 cap) ks, pts w.heap.size (.cells #[i64 0, .slice none 0 0, i64 0, i64 0, i64 0, i64 0, .slice none 0 0, .slice none 0 0, i64 0, i64 0, i64 0, i64 0, i64 0, i64 0, i64 0, i64 0] 31), old w] ∧ Stable w wx)
        case first =>
          rcases HK3.out with h | h | h
          · have h1 := HD.out.setCell 7 (.slice (some ⟨w11.heap.size, 0, none⟩) 0 0)
            simp only [List.setIfInBounds_toArray, List.set_cons_succ, List.set_cons_zero] at h1
            have h2 := h1 |>.pick 1 |>.drop |>.pick 1 |>.drop |>.pick 2 |>.lit (size := 4) (n := 3) rfl (by decide) |>.pick 2 |>.lit (size := 2) (n := 0) rfl (by decide) |>.pick 1 |>.pick 2
            have hst12 := ((((HS11.out.2.2.alloc (.cells #[] 68)).alloc (.cells #[i64 0, i64 1] 68)).alloc (.cells #[i64 0, i64 2, i64 1, i64 2] 68)).alloc (.cells #[.slice (some ⟨w11.heap.size, 0, none⟩) 0 0, .slice (some ⟨w11.heap.size + 1, 0, none⟩) 1 1, .slice (some ⟨w11.heap.size + 1 + 1, 0, none⟩) 2 2] 27)).setCell ⟨b6, 7, none⟩ (.slice (some ⟨w11.heap.size, 0, none⟩) 0 0)
            have H2 := Lib.hid h2
            have HST := Lib.hid hst12
            clear h1 h2 hst12
            go_wp2_with fail
            go_meet
            exact ⟨_, _, _, _, _, _, GY, _, _, _, _, [], HS11.out.1, HGY.out, .inl rfl, H2.out, HST.out⟩
          · have h1 := HD.out.setCell 7 (.slice (some ⟨w11.heap.size + 1, 0, none⟩) 1 1)
            simp only [List.setIfInBounds_toArray, List.set_cons_succ, List.set_cons_zero] at h1
            have h2 := h1 |>.pick 1 |>.drop |>.pick 2 |>.drop |>.pick 2 |>.lit (size := 4) (n := 3) rfl (by decide) |>.pick 2 |>.lit (size := 2) (n := 1) rfl (by decide) |>.pick 1 |>.pick 2
            have hst12 := ((((HS11.out.2.2.alloc (.cells #[] 68)).alloc (.cells #[i64 0, i64 1] 68)).alloc (.cells #[i64 0, i64 2, i64 1, i64 2] 68)).alloc (.cells #[.slice (some ⟨w11.heap.size, 0, none⟩) 0 0, .slice (some ⟨w11.heap.size + 1, 0, none⟩) 1 1, .slice (some ⟨w11.heap.size + 1 + 1, 0, none⟩) 2 2] 27)).setCell ⟨b6, 7, none⟩ (.slice (some ⟨w11.heap.size + 1, 0, none⟩) 1 1)
            have H2 := Lib.hid h2
            have HST := Lib.hid hst12
            clear h1 h2 hst12
            go_wp2_with fail
            go_meet
            exact ⟨_, _, _, _, _, _, GY, _, _, _, _, [(0, 1)], HS11.out.1, HGY.out, .inr (.inl rfl), H2.out, HST.out⟩
          · have h1 := HD.out.setCell 7 (.slice (some ⟨w11.heap.size + 1 + 1, 0, none⟩) 2 2)
            simp only [List.setIfInBounds_toArray, List.set_cons_succ, List.set_cons_zero] at h1
            have h2 := h1 |>.pick 2 |>.drop |>.pick 2 |>.drop |>.pick 2 |>.lit (size := 4) (n := 3) rfl (by decide) |>.pick 2 |>.lit (size := 2) (n := 2) rfl (by decide) |>.pick 1 |>.pick 2
            have hst12 := ((((HS11.out.2.2.alloc (.cells #[] 68)).alloc (.cells #[i64 0, i64 1] 68)).alloc (.cells #[i64 0, i64 2, i64 1, i64 2] 68)).alloc (.cells #[.slice (some ⟨w11.heap.size, 0, none⟩) 0 0, .slice (some ⟨w11.heap.size + 1, 0, none⟩) 1 1, .slice (some ⟨w11.heap.size + 1 + 1, 0, none⟩) 2 2] 27)).setCell ⟨b6, 7, none⟩ (.slice (some ⟨w11.heap.size + 1 + 1, 0, none⟩) 2 2)
            have H2 := Lib.hid h2
            have HST := Lib.hid hst12
            clear h1 h2 hst12
            go_wp2_with fail
            go_meet
            exact ⟨_, _, _, _, _, _, GY, _, _, _, _, [(0, 2), (1, 2)], HS11.out.1, HGY.out, .inr (.inr rfl), H2.out, HST.out⟩
        case rest =>
          obtain ⟨P, F, PU, DR, RE, RO, GY, ra, rc, da, dc, ds, hb, hgy, hds, hS12, hst12⟩ := hcut
          have HB := Lib.hid (And.intro hb (And.intro hgy hds))
          have hP := hb.1
          have hP3 := hb.2.1
          clear hb hgy hds hne hne2 hg hg6 c3 c3' s7 s7' fz fz' HD HS11 HGY HK3 k30 k31
          obtain ⟨k30, k31⟩ := HKB.out 3 (by omega)
          have hwl : wc.heap.size = wc.heap.size := rfl
          clear hwl
          have H12 := Lib.hid (And.intro hS12 hst12)
          clear hS12 hst12
          go_wp2_with fail
          go_loopw [7, 8, 9, 10] (fun i n m bp wr => ∃ (j : Nat) (bs : List Bd) (bv : Value), (j : Int) ≤ P + ks.getD 3 0 / 3 % 3 ∧ i = .int .i64 j ∧ bs.length = j ∧ (∀ b ∈ bs, b.Good) ∧
            Sep wr [pts b6 (.cells #[i64 P, bv, i64 (-12000), i64 (-9000), i64 12000, i64 9000, .slice ra 3 rc, .slice da ds.length dc, i64 F, i64 0, i64 GY, i64 PU, i64 DR, i64 RE, i64 RO, i64 60] 31),
              row 52 9 bv bs.length (bdcells bs), polys bs, held 4 (.slice ra 3 rc) 3 (bcells theRooms), held 2 (.slice da ds.length dc) ds.length (dcells ds),
              rowI (.slice (some ⟨g, 0, none⟩) 24 cap) ks, pts w.heap.size (.cells #[i64 0, .slice none 0 0, i64 0, i64 0, i64 0, i64 0, .slice none 0 0, .slice none 0 0, i64 0, i64 0, i64 0, i64 0, i64 0, i64 0, i64 0, i64 0] 31), old w] ∧ Stable w wr) (fun i _ _ _ _ => 10 - (intOf i).toNat)
          case atStart => exact ⟨0, [], .slice none 0 0, by omega, rfl, rfl, by simp, (((H12.out.1.add (A := polys []) (fun b hb => by cases hb)).addNil _ _).pick 2), H12.out.2⟩
          case round =>
            obtain ⟨j, bs, bv, hj, rfl, hbl, hbg, hSr, hst⟩ := hrel
            have kc : ∀ i, i < 24 → wr.cell? ⟨g, i, none⟩ = some (i64 (ks.getD i 0)) := fun i hi => by
              have hl : i < ks.length := by have := HKL.out; omega
              exact ((hSr.pick 5).rowCell (by rw [ints_length]; exact hl)).trans (ints_get ks i hl)
            have kc3 := kc 3 (by omega)
            have KC := Lib.hid kc
            have p0 := cell_of_blk hSr.get 0
            have p1 := cell_of_blk hSr.get 1
            simp at p0 p1
            have HK := Lib.hid (And.intro hbl (And.intro hbg (And.intro hSr hst)))
            clear kc hbl hbg hSr hst
            generalize hk3 : ks.getD 3 0 = k3 at kc3 k30 k31 hj
            have HK3 := Lib.hid hk3
            clear hk3
            have q1 : IntKind.i64.wrap (k3.tdiv 3) = k3 / 3 := by rw [Int.tdiv_eq_ediv_of_nonneg k30]; exact wr_in (by omega)
            have q2 : (k3 / 3).tmod 3 = k3 / 3 % 3 := Int.tmod_eq_emod_of_nonneg (by omega)
            have q3 : IntKind.i64.wrap (P + k3 / 3 % 3) = P + k3 / 3 % 3 := wr_in (by omega)
            by_cases hlt : (j : Int) < P + k3 / 3 % 3
            · have hj4 : j ≤ 4 := by omega
              have kn := KC.out (4 + 2 * j) (by omega)
              have km := KC.out (5 + 2 * j) (by omega)
              obtain ⟨n0, n1⟩ := HKB.out (4 + 2 * j) (by omega)
              obtain ⟨m0, m1⟩ := HKB.out (5 + 2 * j) (by omega)
              generalize ks.getD (4 + 2 * j) 0 = n at kn n0 n1
              generalize ks.getD (5 + 2 * j) 0 = m at km m0 m1
              have hsh := fun W => ShapeOf_spec n ⟨by omega, by omega⟩ W
              have HSH := Lib.hid hsh
              clear hsh
              go_wp2_with fail
              go_quiet (fail)
              clear q1 q2 q3
              go_wp2_with fail
              refine (HSH.out _).mono ?_
              rintro e w2 ⟨sh, rfl, hsg, hS2, hst2⟩
              have hpick : ∃ p : Int, 0 ≤ p ∧ p ≤ 2048 ∧ ∀ W : World, (W.alloc (.cells #[i64 1024, i64 1024, i64 512, i64 2048, i64 0] 3)).cell? ⟨W.heap.size, (m / 5000 % 5).toNat, none⟩ = some (i64 p) := by
                rcases (by omega : m / 5000 % 5 = 0 ∨ m / 5000 % 5 = 1 ∨ m / 5000 % 5 = 2 ∨ m / 5000 % 5 = 3 ∨ m / 5000 % 5 = 4) with h | h | h | h | h
                · exact ⟨1024, by omega, by omega, fun W => by rw [h]; simp⟩
                · exact ⟨1024, by omega, by omega, fun W => by rw [h]; simp⟩
                · exact ⟨512, by omega, by omega, fun W => by rw [h]; simp⟩
                · exact ⟨2048, by omega, by omega, fun W => by rw [h]; simp⟩
                · exact ⟨0, by omega, by omega, fun W => by rw [h]; simp⟩
              obtain ⟨im, im0, im1, hp⟩ := hpick
              obtain ⟨rad, pl, pa, pc⟩ := sh
              have hS3 := (HK.out.2.2.1.drewN nq).mount (hS2.pick 1)
              have hst3 := (HK.out.2.2.2.drewN nq).trans hst2
              clear hS2 hst2 kn km kc3 p0 p1
              have hpp : ∀ o, ((w2.alloc o).alloc (.cells #[i64 1024, i64 1024, i64 512, i64 2048, i64 0] 3)).cell? ⟨w2.heap.size + 1, (m / 5000 % 5).toNat, none⟩ = some (i64 im) := fun o => by
                have := hp (w2.alloc o)
                rwa [World.size_alloc] at this
              clear hp
              have H3 := Lib.hid (And.intro hsg (And.intro hS3 hst3))
              clear hsg hS3 hst3
              go_upto_region 20 with fail
              have hS4 := (H3.out.2.1.alloc (.cells #[i64 rad, .slice pa pl.length pc, i64 ((n / 1000 % 13 - 6) * 900), i64 ((m / 50 % 11 - 5) * 800), i64 ((m / 550 % 9 - 4) * 300), i64 ((n / 13000 % 9 - 4) * 300), i64 im, i64 (m % 50), i64 (n % 7)] 52)).allocBeside (.cells #[i64 1024, i64 1024, i64 512, i64 2048, i64 0] 3)
              have hst4 := (H3.out.2.2.alloc (.cells #[i64 rad, .slice pa pl.length pc, i64 ((n / 1000 % 13 - 6) * 900), i64 ((m / 50 % 11 - 5) * 800), i64 ((m / 550 % 9 - 4) * 300), i64 ((n / 13000 % 9 - 4) * 300), i64 im, i64 (m % 50), i64 (n % 7)] 52)).alloc (.cells #[i64 1024, i64 1024, i64 512, i64 2048, i64 0] 3)
              have bX : -5400 ≤ (n / 1000 % 13 - 6) * 900 ∧ (n / 1000 % 13 - 6) * 900 ≤ 5400 := by omega
              have bY : -4000 ≤ (m / 50 % 11 - 5) * 800 ∧ (m / 50 % 11 - 5) * 800 ≤ 4000 := by omega
              have bU : -1200 ≤ (m / 550 % 9 - 4) * 300 ∧ (m / 550 % 9 - 4) * 300 ≤ 1200 := by omega
              have bV : -1200 ≤ (n / 13000 % 9 - 4) * 300 ∧ (n / 13000 % 9 - 4) * 300 ≤ 1200 := by omega
              have bA : 0 ≤ m % 50 ∧ m % 50 < 50 := by omega
              have bB : 0 ≤ n % 7 ∧ n % 7 < 7 := by omega
              generalize (n / 1000 % 13 - 6) * 900 = X at *
              generalize (m / 50 % 11 - 5) * 800 = Y at *
              generalize (m / 550 % 9 - 4) * 300 = U at *
              generalize (n / 13000 % 9 - 4) * 300 = V at *
              generalize m % 50 = A at *
              generalize n % 7 = B at *
              clear hpp
              generalize World.alloc (World.alloc w2 _) _ = w4 at *
              generalize w2.heap.size = b10 at *
              have HN := Lib.hid (And.intro (And.intro bX (And.intro bY (And.intro bU bV))) (And.intro (And.intro bA bB) (And.intro im0 im1)))
              clear bX bY bU bV bA bB im0 im1 n0 n1 m0 m1 k30 k31
              have hlen4 : bs.length ≤ 4 := by have := HK.out.1; omega
              have a0 := cell_of_blk hS4.get 0
              have a1 := cell_of_blk hS4.get 1
              have a2 := cell_of_blk hS4.get 2
              have a3 := cell_of_blk hS4.get 3
              have a4 := cell_of_blk hS4.get 4
              have a5 := cell_of_blk hS4.get 5
              have a6 := cell_of_blk hS4.get 6
              have a7 := cell_of_blk hS4.get 7
              have a8 := cell_of_blk hS4.get 8
              have p1 := cell_of_blk (hS4.pick 2).get 1
              simp at a0 a1 a2 a3 a4 a5 a6 a7 a8 p1
              have hS5 := (hS4.pick 3).allocBeside (.cells #[i64 rad, .slice pa pl.length pc, i64 X, i64 Y, i64 U, i64 V, i64 im, i64 A, i64 B] 52)
              have H4 := Lib.hid (And.intro H3.out.1 hst4)
              clear hS4 hst4 H3
              obtain ⟨iB, hB, hB0, hB1, hB2⟩ := info_parts infoBd
              go_wp2_with (at_builtin; refine wpList_append_sep rfl (.tmp 154) (.tmp 156) 23 23 rfl 52 iB _ 9 88 Try.underlying23 hB hB0 hB1 hB2 rfl _ _ _ rfl hS5 1 (Bd.mk ⟨rad, pl, pa, pc⟩ X Y U V im A B).cells (Src.ofSlice _ Try.underlying23 ⟨_, 0, none⟩ 1 1 _ rfl (fun j u hu => by rw [Addr.add_lit]; simpa using hu) (by simp [Value.oneCell'])) (by unfold maxLen; omega) (by omega) ?_; intro v3 w5 hS6 hst6 hn6; obtain ⟨na, nc, rfl, _⟩ := hS6.rowShape; have s1 := cell_of_blk (hS6.pick 3).get 1; simp at s1; have fz := frozen_of_blk (hS6.pick 3).get)
              have hS7 := (hS6.pick 3).setCell 1 (.slice na (bs.length + 1) nc)
              simp only [List.setIfInBounds_toArray, List.set_cons_succ, List.set_cons_zero] at hS7
              have hS8 := polys_snoc (b := Bd.mk ⟨rad, pl, pa, pc⟩ X Y U V im A B) (hS7 |>.pick 2 |>.drop |>.pick 2 |>.pick 3)
              have hS9 := hS8 |>.pick 2 |>.pick 2
              refine ⟨⟨j + 1, bs ++ [Bd.mk ⟨rad, pl, pa, pc⟩ X Y U V im A B], .slice na (bs.length + 1) nc, by omega, by go_num, by rw [List.length_append, HK.out.1]; rfl, fun b hb => ?_, ?_, (H4.out.2.trans (((Stable.refl _).alloc _).trans hst6)).setCell _ _⟩, by simp [intOf]; omega⟩
              · rcases List.mem_append.1 hb with hb | hb
                · exact HK.out.2.1 b hb
                · obtain rfl : b = _ := by simpa using hb
                  exact ⟨H4.out.1, HN.out.1.1, HN.out.1.2.1, HN.out.1.2.2.1, HN.out.1.2.2.2, HN.out.2.2, HN.out.2.1.1, HN.out.2.1.2⟩
              · rw [bdcells_snoc, List.length_append]
                exact hS9
            · have hj5 : j ≤ 5 := by omega
              have hP : P ≤ j := by omega
              obtain ⟨ba, bc, rfl, _⟩ := (HK.out.2.2.1.pick 1).rowShape
              have a0 := fun n => cell_of_blk (w := wr.drewN n) HK.out.2.2.1.get 0
              have a1 := fun n => cell_of_blk (w := wr.drewN n) HK.out.2.2.1.get 1
              have a2 := fun n => cell_of_blk (w := wr.drewN n) HK.out.2.2.1.get 2
              have a3 := fun n => cell_of_blk (w := wr.drewN n) HK.out.2.2.1.get 3
              have a4 := fun n => cell_of_blk (w := wr.drewN n) HK.out.2.2.1.get 4
              have a5 := fun n => cell_of_blk (w := wr.drewN n) HK.out.2.2.1.get 5
              have a6 := fun n => cell_of_blk (w := wr.drewN n) HK.out.2.2.1.get 6
              have a7 := fun n => cell_of_blk (w := wr.drewN n) HK.out.2.2.1.get 7
              have a8 := fun n => cell_of_blk (w := wr.drewN n) HK.out.2.2.1.get 8
              have a9 := fun n => cell_of_blk (w := wr.drewN n) HK.out.2.2.1.get 9
              have a10 := fun n => cell_of_blk (w := wr.drewN n) HK.out.2.2.1.get 10
              have a11 := fun n => cell_of_blk (w := wr.drewN n) HK.out.2.2.1.get 11
              have a12 := fun n => cell_of_blk (w := wr.drewN n) HK.out.2.2.1.get 12
              have a13 := fun n => cell_of_blk (w := wr.drewN n) HK.out.2.2.1.get 13
              have a14 := fun n => cell_of_blk (w := wr.drewN n) HK.out.2.2.1.get 14
              have a15 := fun n => cell_of_blk (w := wr.drewN n) HK.out.2.2.1.get 15
              have r0 := fun n => cell_of_blk (w := wr.drewN n) (HK.out.2.2.1.pick 6).get 0
              have r1 := fun n => cell_of_blk (w := wr.drewN n) (HK.out.2.2.1.pick 6).get 1
              have r2 := fun n => cell_of_blk (w := wr.drewN n) (HK.out.2.2.1.pick 6).get 2
              have r3 := fun n => cell_of_blk (w := wr.drewN n) (HK.out.2.2.1.pick 6).get 3
              have r4 := fun n => cell_of_blk (w := wr.drewN n) (HK.out.2.2.1.pick 6).get 4
              have r5 := fun n => cell_of_blk (w := wr.drewN n) (HK.out.2.2.1.pick 6).get 5
              have r6 := fun n => cell_of_blk (w := wr.drewN n) (HK.out.2.2.1.pick 6).get 6
              have r7 := fun n => cell_of_blk (w := wr.drewN n) (HK.out.2.2.1.pick 6).get 7
              have r8 := fun n => cell_of_blk (w := wr.drewN n) (HK.out.2.2.1.pick 6).get 8
              have r9 := fun n => cell_of_blk (w := wr.drewN n) (HK.out.2.2.1.pick 6).get 9
              have r10 := fun n => cell_of_blk (w := wr.drewN n) (HK.out.2.2.1.pick 6).get 10
              have r11 := fun n => cell_of_blk (w := wr.drewN n) (HK.out.2.2.1.pick 6).get 11
              have r12 := fun n => cell_of_blk (w := wr.drewN n) (HK.out.2.2.1.pick 6).get 12
              have r13 := fun n => cell_of_blk (w := wr.drewN n) (HK.out.2.2.1.pick 6).get 13
              have r14 := fun n => cell_of_blk (w := wr.drewN n) (HK.out.2.2.1.pick 6).get 14
              have r15 := fun n => cell_of_blk (w := wr.drewN n) (HK.out.2.2.1.pick 6).get 15
              have fz := fun n => frozen_of_blk (w := wr.drewN n) (HK.out.2.2.1.pick 6).get
              simp at a0 a1 a2 a3 a4 a5 a6 a7 a8 a9 a10 a11 a12 a13 a14 a15 r0 r1 r2 r3 r4 r5 r6 r7 r8 r9 r10 r11 r12 r13 r14 r15
              go_wp2_with fail
              go_quiet (fail)
              go_wp2_with fail
              have hSf := ((((((((((((((((((HK.out.2.2.1.drewN nq).pick 6).setCell 0 (i64 P)).setCell 1 (.slice ba bs.length bc)).setCell 2 (i64 (-12000))).setCell 3 (i64 (-9000))).setCell 4 (i64 12000)).setCell 5 (i64 9000)).setCell 6 (.slice ra 3 rc)).setCell 7 (.slice da ds.length dc)).setCell 8 (i64 F)).setCell 9 (i64 0)).setCell 10 (i64 GY)).setCell 11 (i64 PU)).setCell 12 (i64 DR)).setCell 13 (i64 RE)).setCell 14 (i64 RO)).setCell 15 (i64 60))
              have hstf := (((((((((((((((((HK.out.2.2.2.drewN nq).setCell ⟨w.heap.size, 0, none⟩ (i64 P)).setCell ⟨w.heap.size, 1, none⟩ (.slice ba bs.length bc)).setCell ⟨w.heap.size, 2, none⟩ (i64 (-12000))).setCell ⟨w.heap.size, 3, none⟩ (i64 (-9000))).setCell ⟨w.heap.size, 4, none⟩ (i64 12000)).setCell ⟨w.heap.size, 5, none⟩ (i64 9000)).setCell ⟨w.heap.size, 6, none⟩ (.slice ra 3 rc)).setCell ⟨w.heap.size, 7, none⟩ (.slice da ds.length dc)).setCell ⟨w.heap.size, 8, none⟩ (i64 F)).setCell ⟨w.heap.size, 9, none⟩ (i64 0)).setCell ⟨w.heap.size, 10, none⟩ (i64 GY)).setCell ⟨w.heap.size, 11, none⟩ (i64 PU)).setCell ⟨w.heap.size, 12, none⟩ (i64 DR)).setCell ⟨w.heap.size, 13, none⟩ (i64 RE)).setCell ⟨w.heap.size, 14, none⟩ (i64 RO)).setCell ⟨w.heap.size, 15, none⟩ (i64 60))
              simp only [List.setIfInBounds_toArray, List.set_cons_succ, List.set_cons_zero] at hSf
              clear a0 a1 a2 a3 a4 a5 a6 a7 a8 a9 a10 a11 a12 a13 a14 a15 r0 r1 r2 r3 r4 r5 r6 r7 r8 r9 r10 r11 r12 r13 r14 r15 fz
              generalize World.setCell _ _ _ = wf at *
              have r0 := cell_of_blk hSf.get 0
              have r1 := cell_of_blk hSf.get 1
              have r2 := cell_of_blk hSf.get 2
              have r3 := cell_of_blk hSf.get 3
              have r4 := cell_of_blk hSf.get 4
              have r5 := cell_of_blk hSf.get 5
              have r6 := cell_of_blk hSf.get 6
              have r7 := cell_of_blk hSf.get 7
              have r8 := cell_of_blk hSf.get 8
              have r9 := cell_of_blk hSf.get 9
              have r10 := cell_of_blk hSf.get 10
              have r11 := cell_of_blk hSf.get 11
              have r12 := cell_of_blk hSf.get 12
              have r13 := cell_of_blk hSf.get 13
              have r14 := cell_of_blk hSf.get 14
              have r15 := cell_of_blk hSf.get 15
              simp at r0 r1 r2 r3 r4 r5 r6 r7 r8 r9 r10 r11 r12 r13 r14 r15
              refine bodyPost_ret (v := .agg #[i64 P, .slice ba bs.length bc, i64 (-12000), i64 (-9000), i64 12000, i64 9000, .slice ra 3 rc, .slice da ds.length dc, i64 F, i64 0, i64 GY, i64 PU, i64 DR, i64 RE, i64 RO, i64 60]) (by simp [results, Try.results11, go_sem, r0, r1, r2, r3, r4, r5, r6, r7, r8, r9, r10, r11, r12, r13, r14, r15]) rfl ?_
              exact ⟨⟨⟨P, bs.length, ba, bc, -12000, -9000, 12000, 9000, theRooms, ra, rc, ds, da, dc, F, 0, GY, PU, DR, RE, RO, 60⟩, bs⟩, rfl,
                ⟨⟨rfl, ⟨HB.out.1.1, HB.out.1.2.1⟩, by have := HK.out.1; show P ≤ (bs.length : Int); omega, by have := HK.out.1; show bs.length ≤ 5; omega, ⟨rfl, rfl, rfl, rfl⟩, rfl, HB.out.2.1, ⟨HB.out.1.2.2.2.2.1, HB.out.1.2.2.2.2.2.1⟩, ⟨HB.out.1.2.2.2.2.2.2.1, HB.out.1.2.2.2.2.2.2.2.1⟩,
                  ⟨HB.out.1.2.2.2.2.2.2.2.2.1, HB.out.1.2.2.2.2.2.2.2.2.2.1⟩, HB.out.1.2.2.2.2.2.2.2.2.2.2, rfl, HK.out.2.1⟩, ⟨HB.out.1.2.2.1, HB.out.1.2.2.2.1⟩, rfl, HB.out.2.2⟩,
                (hSf.drop.drop.rowHeld |>.pick 4 |>.drop), hstf⟩

end Go.Proofs.Ytkalpgngoijdmaa
