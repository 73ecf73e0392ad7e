/- Contracts: Rewind. -/
import Derived.Test.YtfhjdfllkjjldaaPush
namespace Go.Proofs.Ytfhjdfllkjjldaa
open Go.RowKit Go.Sl

variable {w : World} {L : List Asn} {p mp : Value} {keep : Int} {es : List (Int × Int)} {cs : List Int} {base : Int} {log : List (Int × Int)}

set_option maxHeartbeats 1000000 in
theorem RewC_spec (b3 : Nat) (tick x y : Int) (hS : Sep w (pts b3 (.cells #[i64 tick] 3) :: L)) :
    Calls Try.prog 36 #[.agg #[i64 x, i64 y], .pointer (some ⟨b3, 0, none⟩)] w fun e w' => e = .returned (.bool (x == tick)) ∧ Sep w' (pts b3 (.cells #[i64 tick] 3) :: L) ∧ Stable w w' := by
  have c3 : w.cell? ⟨b3, 0, none⟩ = some (i64 tick) := cell_of_blk hS.get 0
  have c3a := fun o => cell_alloc c3 o
  have H := Lib.hid (And.intro (hS.allocBeside (.cells #[i64 x, i64 y] 59)) ((Stable.refl w).alloc (.cells #[i64 x, i64 y] 59)))
  clear hS
  go_enter Try.func36, Try.ntmps36
  go_wp2_with fail
  go_ret
  exact ⟨rfl, H.out.1, H.out.2⟩

/-- The index of the first entry of a tick, or -1. -/
def findT (es : List (Int × Int)) (tick : Int) : Int := match (List.range es.length).find? fun i => (es.getD i (0, 0)).1 == tick with
  | some i => (i : Int)
  | none => -1
theorem findT_at {k : Nat} {tick : Int} (hk : k < es.length) (h : ∀ i, i < k → ((es.getD i (0, 0)).1 == tick) = false) (hb : ((es.getD k (0, 0)).1 == tick) = true) : findT es tick = k := by
  unfold findT
  have : (List.range es.length).find? (fun i => (es.getD i (0, 0)).1 == tick) = some k := by
    rw [List.find?_range_eq_some]
    exact ⟨hb, by simpa using hk, fun i hi => by simpa using h i hi⟩
  rw [this]
theorem findT_none {tick : Int} (h : ∀ i, i < es.length → ((es.getD i (0, 0)).1 == tick) = false) : findT es tick = -1 := by
  unfold findT
  have : (List.range es.length).find? (fun i => (es.getD i (0, 0)).1 == tick) = none := by
    rw [List.find?_range_eq_none]
    exact fun i hi => by simpa using h i hi
  rw [this]

set_option maxHeartbeats 2000000 in
theorem IndexFunc_spec {ev : Value} (b3 : Nat) (tick : Int) (hS : Sep w (pts b3 (.cells #[i64 tick] 3) :: rowR ev es :: L)) (hl : es.length ≤ 1000000) :
    Calls Try.prog 35 #[ev, .func (.func 36) #[] #[.pointer (some ⟨b3, 0, none⟩)]] w fun e w' => e = .returned (i64 (findT es tick)) ∧
      Sep w' (pts b3 (.cells #[i64 tick] 3) :: rowR ev es :: L) ∧ Stable w w' := by
  obtain ⟨ea, cap, rfl, _, _, _⟩ := (hS.pick 1).shapeG
  have HS := Lib.hid hS
  clear hS
  go_enter Try.func35, Try.ntmps35
  go_wp2_with fail
  go_loopw [5, 8] (fun j i wr => ∃ k : Nat, k ≤ es.length ∧ i = .int .i64 k ∧ (∀ i, i < k → ((es.getD i (0, 0)).1 == tick) = false) ∧ Sep wr (pts b3 (.cells #[i64 tick] 3) :: rowR (.slice ea es.length cap) es :: L) ∧ Stable w wr) (fun _ i _ => es.length - (intOf i).toNat)
  case atStart => exact ⟨0, Nat.zero_le _, rfl, by simp, HS.out, Stable.refl w⟩
  case round =>
    obtain ⟨k, hk, rfl, hno, hSr, hst⟩ := hrel
    by_cases hlt : k < es.length
    · obtain ⟨b, off, rfl, hc⟩ := ents_cell (hSr.pick 1).readsG (by omega)
      obtain ⟨c0, c1⟩ := hc k hlt
      have hat := findT_at hlt hno
      have hx : (es.getD k (0, 0)).1 = (es.getD k (0, 0)).1 := rfl
      clear hx
      generalize hex : es.getD k (0, 0) = ex at *
      obtain ⟨x, y⟩ := ex
      dsimp only at c0 c1 hat
      have hC := RewC_spec b3 tick x y hSr
      have HR := Lib.hid (And.intro hno (And.intro hat (And.intro hst (And.intro hC hex))))
      clear hno hat hst hC hex hSr hc
      go_wp2_with fail
      refine HR.out.2.2.2.1.mono ?_
      rintro e w2 ⟨rfl, hS2, hst2⟩
      have H2 := Lib.hid (And.intro hS2 (HR.out.2.2.1.trans hst2))
      clear hS2 hst2 c0 c1
      cases hb : (x == tick) with
      | true =>
        have HB := Lib.hid (HR.out.2.1 hb)
        clear hb
        go_wp2_with fail
        go_ret
        exact ⟨by rw [HB.out]; rfl, H2.out.1, H2.out.2⟩
      | false =>
        have HB := Lib.hid hb
        clear hb
        go_wp2_with fail
        refine ⟨⟨k + 1, by omega, by go_num, fun j hj => ?_, H2.out.1, H2.out.2⟩, by simp [intOf]; omega⟩
        rcases Nat.lt_or_ge j k with h | h
        · exact HR.out.1 j h
        · obtain rfl : j = k := by omega
          rw [HR.out.2.2.2.2]; exact HB.out
    · obtain rfl : k = es.length := by omega
      have hn := findT_none hno
      have H2 := Lib.hid (And.intro hSr (And.intro hst hn))
      clear hSr hst hn hno hlt
      go_wp2_with fail
      go_ret
      exact ⟨by rw [H2.out.2.2]; rfl, H2.out.1, H2.out.2.1⟩

set_option maxRecDepth 100000 in
set_option maxHeartbeats 4000000 in
theorem Rew_none (hS : Sep w (ring p mp keep es :: mem mp cs base log :: L)) (hb : Small cs base log) (hl : es.length ≤ 1000000) (tick : Int) (h0 : es.length = 0) :
    Calls Try.prog 16 #[p, i64 tick] w fun e w' => e = .returned (i64 24) ∧ Sep w' (ring p mp keep es :: mem mp cs base log :: L) ∧ Stable w w' := by
  have H0h := Lib.hid h0
  clear h0
  have hI := fun (b3 : Nat) (W : World) (M : List Asn) (ev : Value) (hW : Sep W (pts b3 (.cells #[i64 tick] 3) :: rowR ev es :: M)) => IndexFunc_spec b3 tick hW hl
  obtain ⟨m0, _, _, _, _, rfl, _⟩ := mem_cells (hS.pick 1)
  obtain ⟨p0, ev, rfl, hS1⟩ := ring_open hS
  obtain ⟨ea, cap, rfl, hc1, hc2, _⟩ := (hS1.pick 1).shapeG
  have hS2 := hS1.alloc (.cells #[i64 tick] 3)
  have c2 : (w.alloc (.cells #[i64 tick] 3)).cell? ⟨p0, 2, none⟩ = some (.slice ea es.length cap) := cell_of_blk (hS2.pick 1).get 2
  have H1 := Lib.hid (And.intro hS2 ((Stable.refl w).alloc (.cells #[i64 tick] 3)))
  have HI := Lib.hid hI
  have HB := Lib.hid hb
  clear hS hS1 hS2 hI hb
  go_enter Try.func16, Try.ntmps16
  go_wp2_with fail
  obtain ⟨b3, hb3⟩ : ∃ b3, b3 = w.heap.size := ⟨_, rfl⟩
  rw [← hb3] at H1 ⊢
  clear hb3
  refine (HI.out b3 _ _ _ ((H1.out.1.pick 2).pick 1)).mono ?_
  rintro e w2 ⟨rfl, hS2, hst2⟩
  have H2 := Lib.hid (And.intro (show Sep w2 (pts b3 (.cells #[i64 tick] 3) :: pts p0 (.cells #[.pointer (some ⟨m0, 0, none⟩), i64 keep, .slice ea es.length cap] 57) :: rowR (.slice ea es.length cap) es :: mem (.pointer (some ⟨m0, 0, none⟩)) cs base log :: L) from (hS2.pick 2).pick 1) (H1.out.2.trans hst2))
  clear hS2 hst2 H1 c2
  go_upto_region 2 with fail
  go_cut [13] from 14 to 25 (fun x13 wx => x13 = .bool true ∧ Sep wx (pts b3 (.cells #[i64 tick] 3) :: pts p0 (.cells #[.pointer (some ⟨m0, 0, none⟩), i64 keep, .slice ea es.length cap] 57) :: rowR (.slice ea es.length cap) es :: mem (.pointer (some ⟨m0, 0, none⟩)) cs base log :: L) ∧ Stable w wx)
  case first =>
    have g1 : ((es.length : Int) == 0) = true := by have := H0h.out; rw [beq_iff_eq]; omega
    have g2 : (es.length == 0) = true := by have := H0h.out; rw [beq_iff_eq]; omega
    refine wp_region_dag (w0 := w) 13 [some 14, some 15, some 16, some 17, some 18, some 19, some 20, some 21, some 22, some 23, some 24, some 25, some 13] [.det [] (.pointer (some ⟨p0, 0, none⟩)), .det [0] (.pointer (some ⟨p0, 0, none⟩)), .det [1] (.pointer (some ⟨p0, 2, none⟩)), .det [2] (.slice ea es.length cap), .det [3] (i64 es.length), .det [4] (.bool true), .det [5] (.bool true), .det [6] undef, .det [6] undef, .det [6] undef, .det [6] undef, .det [6] (.bool true), .det [11] (.bool true)] (pts b3 (.cells #[i64 tick] 3) :: pts p0 (.cells #[.pointer (some ⟨m0, 0, none⟩), i64 keep, .slice ea es.length cap] 57) :: rowR (.slice ea es.length cap) es :: mem (.pointer (some ⟨m0, 0, none⟩)) cs base log :: L) [] rfl (by kernel_rfl) (by kernel_rfl) (by kernel_rfl) (by kernel_rfl) (H2.out.1) (H2.out.2) ⟨⟨⟨⟨⟨⟨⟨⟨⟨⟨⟨⟨⟨trivial, ?_⟩, ?_⟩, ?_⟩, ?_⟩, ?_⟩, ?_⟩, ?_⟩, ?_⟩, ?_⟩, ?_⟩, ?_⟩, ?_⟩, ?_⟩ ?_
    · refine all13 fun z0 z1 z2 z3 z4 z5 z6 z7 z8 z9 z10 z11 z12 W L hv hS hst a ha K hK => ?_
      simp only [dagPut, Act.put, List.setIfInBounds_toArray, List.set_cons_zero, List.set_cons_succ] at ha
      subst ha
      refine wpOp_plain rfl rfl ?_
      simp only [Act.put, List.setIfInBounds_toArray, List.set_cons_zero, List.set_cons_succ, List.getD_cons_zero] at hK
      go_simp
      exact hK.out _ _ rfl (sepEmp hS) hst
    · refine all13 fun z0 z1 z2 z3 z4 z5 z6 z7 z8 z9 z10 z11 z12 W L hv hS hst a ha K hK => ?_
      obtain ⟨v0, _⟩ := hv
      obtain rfl : z0 = _ := v0
      simp only [dagPut, Act.put, List.setIfInBounds_toArray, List.set_cons_zero, List.set_cons_succ] at ha
      subst ha
      refine wpOp_plain rfl rfl ?_
      simp only [Act.put, List.setIfInBounds_toArray, List.set_cons_zero, List.set_cons_succ, List.getD_cons_succ, List.getD_cons_zero] at hK
      go_simp
      exact hK.out _ _ rfl (sepEmp hS) hst
    · refine all13 fun z0 z1 z2 z3 z4 z5 z6 z7 z8 z9 z10 z11 z12 W L hv hS hst a ha K hK => ?_
      obtain ⟨v1, _⟩ := hv
      obtain rfl : z1 = _ := v1
      simp only [dagPut, Act.put, List.setIfInBounds_toArray, List.set_cons_zero, List.set_cons_succ] at ha
      subst ha
      refine wpOp_plain rfl rfl ?_
      simp only [Act.put, List.setIfInBounds_toArray, List.set_cons_zero, List.set_cons_succ, List.getD_cons_succ, List.getD_cons_zero] at hK
      go_simp
      exact hK.out _ _ rfl (sepEmp hS) hst
    · refine all13 fun z0 z1 z2 z3 z4 z5 z6 z7 z8 z9 z10 z11 z12 W L hv hS hst a ha K hK => ?_
      obtain ⟨v2, _⟩ := hv
      obtain rfl : z2 = _ := v2
      have c0 := (show W.cell? ⟨p0, 2, none⟩ = some (.slice ea es.length cap) from cell_of_blk (Sep.get (L := _) (Sep.pick 1 hS)) 2)
      simp only [dagPut, Act.put, List.setIfInBounds_toArray, List.set_cons_zero, List.set_cons_succ] at ha
      subst ha
      refine wpOp_plain rfl rfl ?_
      simp only [Act.put, List.setIfInBounds_toArray, List.set_cons_zero, List.set_cons_succ, List.getD_cons_succ, List.getD_cons_zero] at hK
      go_simp
      exact hK.out _ _ rfl (sepEmp hS) hst
    · refine all13 fun z0 z1 z2 z3 z4 z5 z6 z7 z8 z9 z10 z11 z12 W L hv hS hst a ha K hK => ?_
      obtain ⟨v3, _⟩ := hv
      obtain rfl : z3 = _ := v3
      simp only [dagPut, Act.put, List.setIfInBounds_toArray, List.set_cons_zero, List.set_cons_succ] at ha
      subst ha
      refine wpOp_plain rfl rfl ?_
      simp only [Act.put, List.setIfInBounds_toArray, List.set_cons_zero, List.set_cons_succ, List.getD_cons_succ, List.getD_cons_zero] at hK
      go_simp
      exact hK.out _ _ rfl (sepEmp hS) hst
    · refine all13 fun z0 z1 z2 z3 z4 z5 z6 z7 z8 z9 z10 z11 z12 W L hv hS hst a ha K hK => ?_
      obtain ⟨v4, _⟩ := hv
      obtain rfl : z4 = _ := v4
      simp only [dagPut, Act.put, List.setIfInBounds_toArray, List.set_cons_zero, List.set_cons_succ] at ha
      subst ha
      refine wpOp_plain rfl rfl ?_
      simp only [Act.put, List.setIfInBounds_toArray, List.set_cons_zero, List.set_cons_succ, List.getD_cons_succ, List.getD_cons_zero] at hK
      go_simp
      exact hK.out _ _ rfl (sepEmp hS) hst
    · refine all13 fun z0 z1 z2 z3 z4 z5 z6 z7 z8 z9 z10 z11 z12 W L hv hS hst a ha K hK => ?_
      obtain ⟨v5, _⟩ := hv
      obtain rfl : z5 = _ := v5
      simp only [dagPut, Act.put, List.setIfInBounds_toArray, List.set_cons_zero, List.set_cons_succ] at ha
      subst ha
      refine wpOp_plain rfl rfl ?_
      simp only [Act.put, List.setIfInBounds_toArray, List.set_cons_zero, List.set_cons_succ, List.getD_cons_succ, List.getD_cons_zero] at hK
      go_simp
      exact hK.out _ _ rfl (sepEmp hS) hst
    · refine all13 fun z0 z1 z2 z3 z4 z5 z6 z7 z8 z9 z10 z11 z12 W L hv hS hst a ha K hK => ?_
      obtain ⟨v6, _⟩ := hv
      obtain rfl : z6 = _ := v6
      simp only [dagPut, Act.put, List.setIfInBounds_toArray, List.set_cons_zero, List.set_cons_succ] at ha
      subst ha
      refine wpOp_off rfl rfl ?_
      simp only [Act.put, List.setIfInBounds_toArray, List.set_cons_zero, List.set_cons_succ, List.getD_cons_succ, List.getD_cons_zero] at hK
      exact hK.out undef _ rfl (sepEmp hS) hst
    · refine all13 fun z0 z1 z2 z3 z4 z5 z6 z7 z8 z9 z10 z11 z12 W L hv hS hst a ha K hK => ?_
      obtain ⟨v6, _⟩ := hv
      obtain rfl : z6 = _ := v6
      simp only [dagPut, Act.put, List.setIfInBounds_toArray, List.set_cons_zero, List.set_cons_succ] at ha
      subst ha
      refine wpOp_off rfl rfl ?_
      simp only [Act.put, List.setIfInBounds_toArray, List.set_cons_zero, List.set_cons_succ, List.getD_cons_succ, List.getD_cons_zero] at hK
      exact hK.out undef _ rfl (sepEmp hS) hst
    · refine all13 fun z0 z1 z2 z3 z4 z5 z6 z7 z8 z9 z10 z11 z12 W L hv hS hst a ha K hK => ?_
      obtain ⟨v6, _⟩ := hv
      obtain rfl : z6 = _ := v6
      simp only [dagPut, Act.put, List.setIfInBounds_toArray, List.set_cons_zero, List.set_cons_succ] at ha
      subst ha
      refine wpOp_off rfl rfl ?_
      simp only [Act.put, List.setIfInBounds_toArray, List.set_cons_zero, List.set_cons_succ, List.getD_cons_succ, List.getD_cons_zero] at hK
      exact hK.out undef _ rfl (sepEmp hS) hst
    · refine all13 fun z0 z1 z2 z3 z4 z5 z6 z7 z8 z9 z10 z11 z12 W L hv hS hst a ha K hK => ?_
      obtain ⟨v6, _⟩ := hv
      obtain rfl : z6 = _ := v6
      simp only [dagPut, Act.put, List.setIfInBounds_toArray, List.set_cons_zero, List.set_cons_succ] at ha
      subst ha
      refine wpOp_off rfl rfl ?_
      simp only [Act.put, List.setIfInBounds_toArray, List.set_cons_zero, List.set_cons_succ, List.getD_cons_succ, List.getD_cons_zero] at hK
      exact hK.out undef _ rfl (sepEmp hS) hst
    · refine all13 fun z0 z1 z2 z3 z4 z5 z6 z7 z8 z9 z10 z11 z12 W L hv hS hst a ha K hK => ?_
      obtain ⟨v6, _⟩ := hv
      obtain rfl : z6 = _ := v6
      simp only [dagPut, Act.put, List.setIfInBounds_toArray, List.set_cons_zero, List.set_cons_succ] at ha
      subst ha
      refine wpOp_plain rfl rfl ?_
      simp only [Act.put, List.setIfInBounds_toArray, List.set_cons_zero, List.set_cons_succ, List.getD_cons_succ, List.getD_cons_zero] at hK
      go_simp
      exact hK.out _ _ rfl (sepEmp hS) hst
    · refine all13 fun z0 z1 z2 z3 z4 z5 z6 z7 z8 z9 z10 z11 z12 W L hv hS hst a ha K hK => ?_
      obtain ⟨v11, _⟩ := hv
      obtain rfl : z11 = _ := v11
      simp only [dagPut, Act.put, List.setIfInBounds_toArray, List.set_cons_zero, List.set_cons_succ] at ha
      subst ha
      refine wpOp_plain rfl rfl ?_
      simp only [Act.put, List.setIfInBounds_toArray, List.set_cons_zero, List.set_cons_succ, List.getD_cons_succ, List.getD_cons_zero] at hK
      go_simp
      exact hK.out _ _ rfl (sepEmp hS) hst
    · refine all13 fun z0 z1 z2 z3 z4 z5 z6 z7 z8 z9 z10 z11 z12 W hv hS hst a ha => ?_
      obtain ⟨⟨⟨⟨⟨⟨⟨⟨⟨⟨⟨⟨⟨_, v0⟩, v1⟩, v2⟩, v3⟩, v4⟩, v5⟩, v6⟩, v7⟩, v8⟩, v9⟩, v10⟩, v11⟩, v12⟩ := hv
      obtain rfl : z0 = _ := v0
      obtain rfl : z1 = _ := v1
      obtain rfl : z2 = _ := v2
      obtain rfl : z3 = _ := v3
      obtain rfl : z4 = _ := v4
      obtain rfl : z5 = _ := v5
      obtain rfl : z6 = _ := v6
      obtain rfl : z7 = _ := v7
      obtain rfl : z8 = _ := v8
      obtain rfl : z9 = _ := v9
      obtain rfl : z10 = _ := v10
      obtain rfl : z11 = _ := v11
      obtain rfl : z12 = _ := v12
      simp only [dagPut, Act.put, List.setIfInBounds_toArray, List.set_cons_zero, List.set_cons_succ] at ha; subst ha
      go_wp2_with fail
      go_meet
      exact ⟨rfl, hS, hst⟩
  case rest =>
    obtain ⟨rfl, hS, hst⟩ := hcut
    have H3 := Lib.hid (And.intro hS hst)
    clear hS hst H2
    go_wp2_with fail
    go_ret
    exact ⟨rfl, ring_shut H3.out.1.drop, H3.out.2⟩

set_option maxRecDepth 100000 in
set_option maxHeartbeats 4000000 in
theorem Rew_old (hS : Sep w (ring p mp keep es :: mem mp cs base log :: L)) (hb : Small cs base log) (hl : es.length ≤ 1000000) (tick : Int) (h0 : 0 < es.length) (ho : tick < oldest es) :
    Calls Try.prog 16 #[p, i64 tick] w fun e w' => e = .returned (i64 24) ∧ Sep w' (ring p mp keep es :: mem mp cs base log :: L) ∧ Stable w w' := by
  have hI := fun (b3 : Nat) (W : World) (M : List Asn) (ev : Value) (hW : Sep W (pts b3 (.cells #[i64 tick] 3) :: rowR ev es :: M)) => IndexFunc_spec b3 tick hW hl
  obtain ⟨m0, _, _, _, _, rfl, _⟩ := mem_cells (hS.pick 1)
  obtain ⟨p0, ev, rfl, hS1⟩ := ring_open hS
  obtain ⟨ea, cap, rfl, hc1, hc2, _⟩ := (hS1.pick 1).shapeG
  have hS2 := hS1.alloc (.cells #[i64 tick] 3)
  have c2 : (w.alloc (.cells #[i64 tick] 3)).cell? ⟨p0, 2, none⟩ = some (.slice ea es.length cap) := cell_of_blk (hS2.pick 1).get 2
  have H1 := Lib.hid (And.intro hS2 ((Stable.refl w).alloc (.cells #[i64 tick] 3)))
  have HI := Lib.hid hI
  have HB := Lib.hid hb
  clear hS hS1 hS2 hI hb
  go_enter Try.func16, Try.ntmps16
  go_wp2_with fail
  obtain ⟨b3, hb3⟩ : ∃ b3, b3 = w.heap.size := ⟨_, rfl⟩
  rw [← hb3] at H1 ⊢
  clear hb3
  refine (HI.out b3 _ _ _ ((H1.out.1.pick 2).pick 1)).mono ?_
  rintro e w2 ⟨rfl, hS2, hst2⟩
  have H2 := Lib.hid (And.intro (show Sep w2 (pts b3 (.cells #[i64 tick] 3) :: pts p0 (.cells #[.pointer (some ⟨m0, 0, none⟩), i64 keep, .slice ea es.length cap] 57) :: rowR (.slice ea es.length cap) es :: mem (.pointer (some ⟨m0, 0, none⟩)) cs base log :: L) from (hS2.pick 2).pick 1) (H1.out.2.trans hst2))
  clear hS2 hst2 H1 c2
  go_upto_region 2 with fail
  go_cut [13] from 14 to 25 (fun x13 wx => x13 = .bool true ∧ Sep wx (pts b3 (.cells #[i64 tick] 3) :: pts p0 (.cells #[.pointer (some ⟨m0, 0, none⟩), i64 keep, .slice ea es.length cap] 57) :: rowR (.slice ea es.length cap) es :: mem (.pointer (some ⟨m0, 0, none⟩)) cs base log :: L) ∧ Stable w wx)
  case first =>
    have g1 : ((es.length : Int) == 0) = false := by rw [beq_eq_false_iff_ne]; omega
    have g2 : (es.length == 0) = false := by rw [beq_eq_false_iff_ne]; omega
    have g3 : decide (tick < oldest es) = true := by rw [decide_eq_true_iff]; exact ho
    refine wp_region_dag (w0 := w) 13 [some 14, some 15, some 16, some 17, some 18, some 19, some 20, some 21, some 22, some 23, some 24, some 25, some 13] [.det [] (.pointer (some ⟨p0, 0, none⟩)), .det [0] (.pointer (some ⟨p0, 0, none⟩)), .det [1] (.pointer (some ⟨p0, 2, none⟩)), .det [2] (.slice ea es.length cap), .det [3] (i64 es.length), .det [4] (.bool false), .det [5] (.bool false), .det [6] (i64 tick), .det [6] (.pointer (some ⟨p0, 0, none⟩)), .det [8, 6] (i64 (oldest es)), .det [7, 9, 6] (.bool true), .det [6, 10] (.bool true), .det [11] (.bool true)] (pts b3 (.cells #[i64 tick] 3) :: pts p0 (.cells #[.pointer (some ⟨m0, 0, none⟩), i64 keep, .slice ea es.length cap] 57) :: rowR (.slice ea es.length cap) es :: mem (.pointer (some ⟨m0, 0, none⟩)) cs base log :: L) [] rfl (by kernel_rfl) (by kernel_rfl) (by kernel_rfl) (by kernel_rfl) (H2.out.1) (H2.out.2) ⟨⟨⟨⟨⟨⟨⟨⟨⟨⟨⟨⟨⟨trivial, ?_⟩, ?_⟩, ?_⟩, ?_⟩, ?_⟩, ?_⟩, ?_⟩, ?_⟩, ?_⟩, ?_⟩, ?_⟩, ?_⟩, ?_⟩ ?_
    · refine all13 fun z0 z1 z2 z3 z4 z5 z6 z7 z8 z9 z10 z11 z12 W L hv hS hst a ha K hK => ?_
      simp only [dagPut, Act.put, List.setIfInBounds_toArray, List.set_cons_zero, List.set_cons_succ] at ha
      subst ha
      refine wpOp_plain rfl rfl ?_
      simp only [Act.put, List.setIfInBounds_toArray, List.set_cons_zero, List.set_cons_succ, List.getD_cons_zero] at hK
      go_simp
      exact hK.out _ _ rfl (sepEmp hS) hst
    · refine all13 fun z0 z1 z2 z3 z4 z5 z6 z7 z8 z9 z10 z11 z12 W L hv hS hst a ha K hK => ?_
      obtain ⟨v0, _⟩ := hv
      obtain rfl : z0 = _ := v0
      simp only [dagPut, Act.put, List.setIfInBounds_toArray, List.set_cons_zero, List.set_cons_succ] at ha
      subst ha
      refine wpOp_plain rfl rfl ?_
      simp only [Act.put, List.setIfInBounds_toArray, List.set_cons_zero, List.set_cons_succ, List.getD_cons_succ, List.getD_cons_zero] at hK
      go_simp
      exact hK.out _ _ rfl (sepEmp hS) hst
    · refine all13 fun z0 z1 z2 z3 z4 z5 z6 z7 z8 z9 z10 z11 z12 W L hv hS hst a ha K hK => ?_
      obtain ⟨v1, _⟩ := hv
      obtain rfl : z1 = _ := v1
      simp only [dagPut, Act.put, List.setIfInBounds_toArray, List.set_cons_zero, List.set_cons_succ] at ha
      subst ha
      refine wpOp_plain rfl rfl ?_
      simp only [Act.put, List.setIfInBounds_toArray, List.set_cons_zero, List.set_cons_succ, List.getD_cons_succ, List.getD_cons_zero] at hK
      go_simp
      exact hK.out _ _ rfl (sepEmp hS) hst
    · refine all13 fun z0 z1 z2 z3 z4 z5 z6 z7 z8 z9 z10 z11 z12 W L hv hS hst a ha K hK => ?_
      obtain ⟨v2, _⟩ := hv
      obtain rfl : z2 = _ := v2
      have c0 := (show W.cell? ⟨p0, 2, none⟩ = some (.slice ea es.length cap) from cell_of_blk (Sep.get (L := _) (Sep.pick 1 hS)) 2)
      simp only [dagPut, Act.put, List.setIfInBounds_toArray, List.set_cons_zero, List.set_cons_succ] at ha
      subst ha
      refine wpOp_plain rfl rfl ?_
      simp only [Act.put, List.setIfInBounds_toArray, List.set_cons_zero, List.set_cons_succ, List.getD_cons_succ, List.getD_cons_zero] at hK
      go_simp
      exact hK.out _ _ rfl (sepEmp hS) hst
    · refine all13 fun z0 z1 z2 z3 z4 z5 z6 z7 z8 z9 z10 z11 z12 W L hv hS hst a ha K hK => ?_
      obtain ⟨v3, _⟩ := hv
      obtain rfl : z3 = _ := v3
      simp only [dagPut, Act.put, List.setIfInBounds_toArray, List.set_cons_zero, List.set_cons_succ] at ha
      subst ha
      refine wpOp_plain rfl rfl ?_
      simp only [Act.put, List.setIfInBounds_toArray, List.set_cons_zero, List.set_cons_succ, List.getD_cons_succ, List.getD_cons_zero] at hK
      go_simp
      exact hK.out _ _ rfl (sepEmp hS) hst
    · refine all13 fun z0 z1 z2 z3 z4 z5 z6 z7 z8 z9 z10 z11 z12 W L hv hS hst a ha K hK => ?_
      obtain ⟨v4, _⟩ := hv
      obtain rfl : z4 = _ := v4
      simp only [dagPut, Act.put, List.setIfInBounds_toArray, List.set_cons_zero, List.set_cons_succ] at ha
      subst ha
      refine wpOp_plain rfl rfl ?_
      simp only [Act.put, List.setIfInBounds_toArray, List.set_cons_zero, List.set_cons_succ, List.getD_cons_succ, List.getD_cons_zero] at hK
      go_simp
      exact hK.out _ _ rfl (sepEmp hS) hst
    · refine all13 fun z0 z1 z2 z3 z4 z5 z6 z7 z8 z9 z10 z11 z12 W L hv hS hst a ha K hK => ?_
      obtain ⟨v5, _⟩ := hv
      obtain rfl : z5 = _ := v5
      simp only [dagPut, Act.put, List.setIfInBounds_toArray, List.set_cons_zero, List.set_cons_succ] at ha
      subst ha
      refine wpOp_plain rfl rfl ?_
      simp only [Act.put, List.setIfInBounds_toArray, List.set_cons_zero, List.set_cons_succ, List.getD_cons_succ, List.getD_cons_zero] at hK
      go_simp
      exact hK.out _ _ rfl (sepEmp hS) hst
    · refine all13 fun z0 z1 z2 z3 z4 z5 z6 z7 z8 z9 z10 z11 z12 W L hv hS hst a ha K hK => ?_
      obtain ⟨v6, _⟩ := hv
      obtain rfl : z6 = _ := v6
      have c0 := (show W.cell? ⟨b3, 0, none⟩ = some (i64 tick) from cell_of_blk (Sep.get (L := _) hS) 0)
      simp only [dagPut, Act.put, List.setIfInBounds_toArray, List.set_cons_zero, List.set_cons_succ] at ha
      subst ha
      refine wpOp_on rfl rfl ?_
      simp only [Act.put, List.setIfInBounds_toArray, List.set_cons_zero, List.set_cons_succ, List.getD_cons_succ, List.getD_cons_zero] at hK
      go_simp
      exact hK.out _ _ rfl (sepEmp hS) hst
    · refine all13 fun z0 z1 z2 z3 z4 z5 z6 z7 z8 z9 z10 z11 z12 W L hv hS hst a ha K hK => ?_
      obtain ⟨v6, _⟩ := hv
      obtain rfl : z6 = _ := v6
      simp only [dagPut, Act.put, List.setIfInBounds_toArray, List.set_cons_zero, List.set_cons_succ] at ha
      subst ha
      refine wpOp_on rfl rfl ?_
      simp only [Act.put, List.setIfInBounds_toArray, List.set_cons_zero, List.set_cons_succ, List.getD_cons_succ, List.getD_cons_zero] at hK
      go_simp
      exact hK.out _ _ rfl (sepEmp hS) hst
    · refine all13 fun z0 z1 z2 z3 z4 z5 z6 z7 z8 z9 z10 z11 z12 W L hv hS hst a ha K hK => ?_
      obtain ⟨v8, v6, _⟩ := hv
      obtain rfl : z8 = _ := v8
      obtain rfl : z6 = _ := v6
      simp only [dagPut, Act.put, List.setIfInBounds_toArray, List.set_cons_zero, List.set_cons_succ] at ha
      subst ha
      refine wpOp_on rfl rfl ?_
      simp only [Act.put, List.setIfInBounds_toArray, List.set_cons_zero, List.set_cons_succ, List.getD_cons_succ, List.getD_cons_zero] at hK
      go_simp
      refine (Oldest_spec (ring_shut (Sep.drop hS)) (by omega)).mono ?_
      rintro e w3 ⟨rfl, rfl⟩
      exact hK.out _ _ rfl (sepEmp hS) hst
    · refine all13 fun z0 z1 z2 z3 z4 z5 z6 z7 z8 z9 z10 z11 z12 W L hv hS hst a ha K hK => ?_
      obtain ⟨v7, v9, v6, _⟩ := hv
      obtain rfl : z7 = _ := v7
      obtain rfl : z9 = _ := v9
      obtain rfl : z6 = _ := v6
      simp only [dagPut, Act.put, List.setIfInBounds_toArray, List.set_cons_zero, List.set_cons_succ] at ha
      subst ha
      refine wpOp_on rfl rfl ?_
      simp only [Act.put, List.setIfInBounds_toArray, List.set_cons_zero, List.set_cons_succ, List.getD_cons_succ, List.getD_cons_zero] at hK
      go_simp
      exact hK.out _ _ rfl (sepEmp hS) hst
    · refine all13 fun z0 z1 z2 z3 z4 z5 z6 z7 z8 z9 z10 z11 z12 W L hv hS hst a ha K hK => ?_
      obtain ⟨v6, v10, _⟩ := hv
      obtain rfl : z6 = _ := v6
      obtain rfl : z10 = _ := v10
      simp only [dagPut, Act.put, List.setIfInBounds_toArray, List.set_cons_zero, List.set_cons_succ] at ha
      subst ha
      refine wpOp_plain rfl rfl ?_
      simp only [Act.put, List.setIfInBounds_toArray, List.set_cons_zero, List.set_cons_succ, List.getD_cons_succ, List.getD_cons_zero] at hK
      go_simp
      exact hK.out _ _ rfl (sepEmp hS) hst
    · refine all13 fun z0 z1 z2 z3 z4 z5 z6 z7 z8 z9 z10 z11 z12 W L hv hS hst a ha K hK => ?_
      obtain ⟨v11, _⟩ := hv
      obtain rfl : z11 = _ := v11
      simp only [dagPut, Act.put, List.setIfInBounds_toArray, List.set_cons_zero, List.set_cons_succ] at ha
      subst ha
      refine wpOp_plain rfl rfl ?_
      simp only [Act.put, List.setIfInBounds_toArray, List.set_cons_zero, List.set_cons_succ, List.getD_cons_succ, List.getD_cons_zero] at hK
      go_simp
      exact hK.out _ _ rfl (sepEmp hS) hst
    · refine all13 fun z0 z1 z2 z3 z4 z5 z6 z7 z8 z9 z10 z11 z12 W hv hS hst a ha => ?_
      obtain ⟨⟨⟨⟨⟨⟨⟨⟨⟨⟨⟨⟨⟨_, v0⟩, v1⟩, v2⟩, v3⟩, v4⟩, v5⟩, v6⟩, v7⟩, v8⟩, v9⟩, v10⟩, v11⟩, v12⟩ := hv
      obtain rfl : z0 = _ := v0
      obtain rfl : z1 = _ := v1
      obtain rfl : z2 = _ := v2
      obtain rfl : z3 = _ := v3
      obtain rfl : z4 = _ := v4
      obtain rfl : z5 = _ := v5
      obtain rfl : z6 = _ := v6
      obtain rfl : z7 = _ := v7
      obtain rfl : z8 = _ := v8
      obtain rfl : z9 = _ := v9
      obtain rfl : z10 = _ := v10
      obtain rfl : z11 = _ := v11
      obtain rfl : z12 = _ := v12
      simp only [dagPut, Act.put, List.setIfInBounds_toArray, List.set_cons_zero, List.set_cons_succ] at ha; subst ha
      go_wp2_with fail
      go_meet
      exact ⟨rfl, hS, hst⟩
  case rest =>
    obtain ⟨rfl, hS, hst⟩ := hcut
    have H3 := Lib.hid (And.intro hS hst)
    clear hS hst H2
    go_wp2_with fail
    go_ret
    exact ⟨rfl, ring_shut H3.out.1.drop, H3.out.2⟩

set_option maxRecDepth 100000 in
set_option maxHeartbeats 4000000 in
theorem Rew_range (hS : Sep w (ring p mp keep es :: mem mp cs base log :: L)) (hb : Small cs base log) (hl : es.length ≤ 1000000) (tick : Int) (h0 : 0 < es.length) (ho : oldest es ≤ tick) (hf : findT es tick = -1) :
    Calls Try.prog 16 #[p, i64 tick] w fun e w' => e = .returned (i64 6) ∧ Sep w' (ring p mp keep es :: mem mp cs base log :: L) ∧ Stable w w' := by
  have hI := fun (b3 : Nat) (W : World) (M : List Asn) (ev : Value) (hW : Sep W (pts b3 (.cells #[i64 tick] 3) :: rowR ev es :: M)) => IndexFunc_spec b3 tick hW hl
  rw [hf] at hI
  have HF := Lib.hid hf
  clear hf
  obtain ⟨m0, _, _, _, _, rfl, _⟩ := mem_cells (hS.pick 1)
  obtain ⟨p0, ev, rfl, hS1⟩ := ring_open hS
  obtain ⟨ea, cap, rfl, hc1, hc2, _⟩ := (hS1.pick 1).shapeG
  have hS2 := hS1.alloc (.cells #[i64 tick] 3)
  have c2 : (w.alloc (.cells #[i64 tick] 3)).cell? ⟨p0, 2, none⟩ = some (.slice ea es.length cap) := cell_of_blk (hS2.pick 1).get 2
  have H1 := Lib.hid (And.intro hS2 ((Stable.refl w).alloc (.cells #[i64 tick] 3)))
  have HI := Lib.hid hI
  have HB := Lib.hid hb
  clear hS hS1 hS2 hI hb
  go_enter Try.func16, Try.ntmps16
  go_wp2_with fail
  obtain ⟨b3, hb3⟩ : ∃ b3, b3 = w.heap.size := ⟨_, rfl⟩
  rw [← hb3] at H1 ⊢
  clear hb3
  refine (HI.out b3 _ _ _ ((H1.out.1.pick 2).pick 1)).mono ?_
  rintro e w2 ⟨rfl, hS2, hst2⟩
  have H2 := Lib.hid (And.intro (show Sep w2 (pts b3 (.cells #[i64 tick] 3) :: pts p0 (.cells #[.pointer (some ⟨m0, 0, none⟩), i64 keep, .slice ea es.length cap] 57) :: rowR (.slice ea es.length cap) es :: mem (.pointer (some ⟨m0, 0, none⟩)) cs base log :: L) from (hS2.pick 2).pick 1) (H1.out.2.trans hst2))
  clear hS2 hst2 H1 c2
  go_upto_region 2 with fail
  go_cut [13] from 14 to 25 (fun x13 wx => x13 = .bool false ∧ Sep wx (pts b3 (.cells #[i64 tick] 3) :: pts p0 (.cells #[.pointer (some ⟨m0, 0, none⟩), i64 keep, .slice ea es.length cap] 57) :: rowR (.slice ea es.length cap) es :: mem (.pointer (some ⟨m0, 0, none⟩)) cs base log :: L) ∧ Stable w wx)
  case first =>
    have g1 : ((es.length : Int) == 0) = false := by rw [beq_eq_false_iff_ne]; omega
    have g2 : (es.length == 0) = false := by rw [beq_eq_false_iff_ne]; omega
    have g3 : decide (tick < oldest es) = false := by rw [decide_eq_false_iff_not]; omega
    refine wp_region_dag (w0 := w) 13 [some 14, some 15, some 16, some 17, some 18, some 19, some 20, some 21, some 22, some 23, some 24, some 25, some 13] [.det [] (.pointer (some ⟨p0, 0, none⟩)), .det [0] (.pointer (some ⟨p0, 0, none⟩)), .det [1] (.pointer (some ⟨p0, 2, none⟩)), .det [2] (.slice ea es.length cap), .det [3] (i64 es.length), .det [4] (.bool false), .det [5] (.bool false), .det [6] (i64 tick), .det [6] (.pointer (some ⟨p0, 0, none⟩)), .det [8, 6] (i64 (oldest es)), .det [7, 9, 6] (.bool false), .det [6, 10] (.bool false), .det [11] (.bool false)] (pts b3 (.cells #[i64 tick] 3) :: pts p0 (.cells #[.pointer (some ⟨m0, 0, none⟩), i64 keep, .slice ea es.length cap] 57) :: rowR (.slice ea es.length cap) es :: mem (.pointer (some ⟨m0, 0, none⟩)) cs base log :: L) [] rfl (by kernel_rfl) (by kernel_rfl) (by kernel_rfl) (by kernel_rfl) (H2.out.1) (H2.out.2) ⟨⟨⟨⟨⟨⟨⟨⟨⟨⟨⟨⟨⟨trivial, ?_⟩, ?_⟩, ?_⟩, ?_⟩, ?_⟩, ?_⟩, ?_⟩, ?_⟩, ?_⟩, ?_⟩, ?_⟩, ?_⟩, ?_⟩ ?_
    · refine all13 fun z0 z1 z2 z3 z4 z5 z6 z7 z8 z9 z10 z11 z12 W L hv hS hst a ha K hK => ?_
      simp only [dagPut, Act.put, List.setIfInBounds_toArray, List.set_cons_zero, List.set_cons_succ] at ha
      subst ha
      refine wpOp_plain rfl rfl ?_
      simp only [Act.put, List.setIfInBounds_toArray, List.set_cons_zero, List.set_cons_succ, List.getD_cons_zero] at hK
      go_simp
      exact hK.out _ _ rfl (sepEmp hS) hst
    · refine all13 fun z0 z1 z2 z3 z4 z5 z6 z7 z8 z9 z10 z11 z12 W L hv hS hst a ha K hK => ?_
      obtain ⟨v0, _⟩ := hv
      obtain rfl : z0 = _ := v0
      simp only [dagPut, Act.put, List.setIfInBounds_toArray, List.set_cons_zero, List.set_cons_succ] at ha
      subst ha
      refine wpOp_plain rfl rfl ?_
      simp only [Act.put, List.setIfInBounds_toArray, List.set_cons_zero, List.set_cons_succ, List.getD_cons_succ, List.getD_cons_zero] at hK
      go_simp
      exact hK.out _ _ rfl (sepEmp hS) hst
    · refine all13 fun z0 z1 z2 z3 z4 z5 z6 z7 z8 z9 z10 z11 z12 W L hv hS hst a ha K hK => ?_
      obtain ⟨v1, _⟩ := hv
      obtain rfl : z1 = _ := v1
      simp only [dagPut, Act.put, List.setIfInBounds_toArray, List.set_cons_zero, List.set_cons_succ] at ha
      subst ha
      refine wpOp_plain rfl rfl ?_
      simp only [Act.put, List.setIfInBounds_toArray, List.set_cons_zero, List.set_cons_succ, List.getD_cons_succ, List.getD_cons_zero] at hK
      go_simp
      exact hK.out _ _ rfl (sepEmp hS) hst
    · refine all13 fun z0 z1 z2 z3 z4 z5 z6 z7 z8 z9 z10 z11 z12 W L hv hS hst a ha K hK => ?_
      obtain ⟨v2, _⟩ := hv
      obtain rfl : z2 = _ := v2
      have c0 := (show W.cell? ⟨p0, 2, none⟩ = some (.slice ea es.length cap) from cell_of_blk (Sep.get (L := _) (Sep.pick 1 hS)) 2)
      simp only [dagPut, Act.put, List.setIfInBounds_toArray, List.set_cons_zero, List.set_cons_succ] at ha
      subst ha
      refine wpOp_plain rfl rfl ?_
      simp only [Act.put, List.setIfInBounds_toArray, List.set_cons_zero, List.set_cons_succ, List.getD_cons_succ, List.getD_cons_zero] at hK
      go_simp
      exact hK.out _ _ rfl (sepEmp hS) hst
    · refine all13 fun z0 z1 z2 z3 z4 z5 z6 z7 z8 z9 z10 z11 z12 W L hv hS hst a ha K hK => ?_
      obtain ⟨v3, _⟩ := hv
      obtain rfl : z3 = _ := v3
      simp only [dagPut, Act.put, List.setIfInBounds_toArray, List.set_cons_zero, List.set_cons_succ] at ha
      subst ha
      refine wpOp_plain rfl rfl ?_
      simp only [Act.put, List.setIfInBounds_toArray, List.set_cons_zero, List.set_cons_succ, List.getD_cons_succ, List.getD_cons_zero] at hK
      go_simp
      exact hK.out _ _ rfl (sepEmp hS) hst
    · refine all13 fun z0 z1 z2 z3 z4 z5 z6 z7 z8 z9 z10 z11 z12 W L hv hS hst a ha K hK => ?_
      obtain ⟨v4, _⟩ := hv
      obtain rfl : z4 = _ := v4
      simp only [dagPut, Act.put, List.setIfInBounds_toArray, List.set_cons_zero, List.set_cons_succ] at ha
      subst ha
      refine wpOp_plain rfl rfl ?_
      simp only [Act.put, List.setIfInBounds_toArray, List.set_cons_zero, List.set_cons_succ, List.getD_cons_succ, List.getD_cons_zero] at hK
      go_simp
      exact hK.out _ _ rfl (sepEmp hS) hst
    · refine all13 fun z0 z1 z2 z3 z4 z5 z6 z7 z8 z9 z10 z11 z12 W L hv hS hst a ha K hK => ?_
      obtain ⟨v5, _⟩ := hv
      obtain rfl : z5 = _ := v5
      simp only [dagPut, Act.put, List.setIfInBounds_toArray, List.set_cons_zero, List.set_cons_succ] at ha
      subst ha
      refine wpOp_plain rfl rfl ?_
      simp only [Act.put, List.setIfInBounds_toArray, List.set_cons_zero, List.set_cons_succ, List.getD_cons_succ, List.getD_cons_zero] at hK
      go_simp
      exact hK.out _ _ rfl (sepEmp hS) hst
    · refine all13 fun z0 z1 z2 z3 z4 z5 z6 z7 z8 z9 z10 z11 z12 W L hv hS hst a ha K hK => ?_
      obtain ⟨v6, _⟩ := hv
      obtain rfl : z6 = _ := v6
      have c0 := (show W.cell? ⟨b3, 0, none⟩ = some (i64 tick) from cell_of_blk (Sep.get (L := _) hS) 0)
      simp only [dagPut, Act.put, List.setIfInBounds_toArray, List.set_cons_zero, List.set_cons_succ] at ha
      subst ha
      refine wpOp_on rfl rfl ?_
      simp only [Act.put, List.setIfInBounds_toArray, List.set_cons_zero, List.set_cons_succ, List.getD_cons_succ, List.getD_cons_zero] at hK
      go_simp
      exact hK.out _ _ rfl (sepEmp hS) hst
    · refine all13 fun z0 z1 z2 z3 z4 z5 z6 z7 z8 z9 z10 z11 z12 W L hv hS hst a ha K hK => ?_
      obtain ⟨v6, _⟩ := hv
      obtain rfl : z6 = _ := v6
      simp only [dagPut, Act.put, List.setIfInBounds_toArray, List.set_cons_zero, List.set_cons_succ] at ha
      subst ha
      refine wpOp_on rfl rfl ?_
      simp only [Act.put, List.setIfInBounds_toArray, List.set_cons_zero, List.set_cons_succ, List.getD_cons_succ, List.getD_cons_zero] at hK
      go_simp
      exact hK.out _ _ rfl (sepEmp hS) hst
    · refine all13 fun z0 z1 z2 z3 z4 z5 z6 z7 z8 z9 z10 z11 z12 W L hv hS hst a ha K hK => ?_
      obtain ⟨v8, v6, _⟩ := hv
      obtain rfl : z8 = _ := v8
      obtain rfl : z6 = _ := v6
      simp only [dagPut, Act.put, List.setIfInBounds_toArray, List.set_cons_zero, List.set_cons_succ] at ha
      subst ha
      refine wpOp_on rfl rfl ?_
      simp only [Act.put, List.setIfInBounds_toArray, List.set_cons_zero, List.set_cons_succ, List.getD_cons_succ, List.getD_cons_zero] at hK
      go_simp
      refine (Oldest_spec (ring_shut (Sep.drop hS)) (by omega)).mono ?_
      rintro e w3 ⟨rfl, rfl⟩
      exact hK.out _ _ rfl (sepEmp hS) hst
    · refine all13 fun z0 z1 z2 z3 z4 z5 z6 z7 z8 z9 z10 z11 z12 W L hv hS hst a ha K hK => ?_
      obtain ⟨v7, v9, v6, _⟩ := hv
      obtain rfl : z7 = _ := v7
      obtain rfl : z9 = _ := v9
      obtain rfl : z6 = _ := v6
      simp only [dagPut, Act.put, List.setIfInBounds_toArray, List.set_cons_zero, List.set_cons_succ] at ha
      subst ha
      refine wpOp_on rfl rfl ?_
      simp only [Act.put, List.setIfInBounds_toArray, List.set_cons_zero, List.set_cons_succ, List.getD_cons_succ, List.getD_cons_zero] at hK
      go_simp
      exact hK.out _ _ rfl (sepEmp hS) hst
    · refine all13 fun z0 z1 z2 z3 z4 z5 z6 z7 z8 z9 z10 z11 z12 W L hv hS hst a ha K hK => ?_
      obtain ⟨v6, v10, _⟩ := hv
      obtain rfl : z6 = _ := v6
      obtain rfl : z10 = _ := v10
      simp only [dagPut, Act.put, List.setIfInBounds_toArray, List.set_cons_zero, List.set_cons_succ] at ha
      subst ha
      refine wpOp_plain rfl rfl ?_
      simp only [Act.put, List.setIfInBounds_toArray, List.set_cons_zero, List.set_cons_succ, List.getD_cons_succ, List.getD_cons_zero] at hK
      go_simp
      exact hK.out _ _ rfl (sepEmp hS) hst
    · refine all13 fun z0 z1 z2 z3 z4 z5 z6 z7 z8 z9 z10 z11 z12 W L hv hS hst a ha K hK => ?_
      obtain ⟨v11, _⟩ := hv
      obtain rfl : z11 = _ := v11
      simp only [dagPut, Act.put, List.setIfInBounds_toArray, List.set_cons_zero, List.set_cons_succ] at ha
      subst ha
      refine wpOp_plain rfl rfl ?_
      simp only [Act.put, List.setIfInBounds_toArray, List.set_cons_zero, List.set_cons_succ, List.getD_cons_succ, List.getD_cons_zero] at hK
      go_simp
      exact hK.out _ _ rfl (sepEmp hS) hst
    · refine all13 fun z0 z1 z2 z3 z4 z5 z6 z7 z8 z9 z10 z11 z12 W hv hS hst a ha => ?_
      obtain ⟨⟨⟨⟨⟨⟨⟨⟨⟨⟨⟨⟨⟨_, v0⟩, v1⟩, v2⟩, v3⟩, v4⟩, v5⟩, v6⟩, v7⟩, v8⟩, v9⟩, v10⟩, v11⟩, v12⟩ := hv
      obtain rfl : z0 = _ := v0
      obtain rfl : z1 = _ := v1
      obtain rfl : z2 = _ := v2
      obtain rfl : z3 = _ := v3
      obtain rfl : z4 = _ := v4
      obtain rfl : z5 = _ := v5
      obtain rfl : z6 = _ := v6
      obtain rfl : z7 = _ := v7
      obtain rfl : z8 = _ := v8
      obtain rfl : z9 = _ := v9
      obtain rfl : z10 = _ := v10
      obtain rfl : z11 = _ := v11
      obtain rfl : z12 = _ := v12
      simp only [dagPut, Act.put, List.setIfInBounds_toArray, List.set_cons_zero, List.set_cons_succ] at ha; subst ha
      go_wp2_with fail
      go_meet
      exact ⟨rfl, hS, hst⟩
  case rest =>
    obtain ⟨rfl, hS, hst⟩ := hcut
    have H3 := Lib.hid (And.intro hS hst)
    clear hS hst H2
    go_wp2_with fail
    go_ret
    exact ⟨rfl, ring_shut H3.out.1.drop, H3.out.2⟩

set_option maxRecDepth 100000 in
set_option maxHeartbeats 4000000 in
theorem Rew_ok (hS : Sep w (ring p mp keep es :: mem mp cs base log :: L)) (hb : Small cs base log) (hl : es.length ≤ 1000000) (tick : Int) (k : Nat) (hkl : k < es.length) (ho : oldest es ≤ tick) (hf : findT es tick = (k : Int)) (hm1 : base ≤ (es.getD k (0, 0)).2) (hm2 : (es.getD k (0, 0)).2 ≤ base + log.length) :
    Calls Try.prog 16 #[p, i64 tick] w fun e w' => (e = .returned (i64 0) ∧ Sep w' (ring p mp keep (es.take (k + 1)) :: mem mp (undoC cs (log.drop ((es.getD k (0, 0)).2 - base).toNat)) base (log.take ((es.getD k (0, 0)).2 - base).toNat) :: L)) ∧ Stable w w' := by
  have hI := fun (b3 : Nat) (W : World) (M : List Asn) (ev : Value) (hW : Sep W (pts b3 (.cells #[i64 tick] 3) :: rowR ev es :: M)) => IndexFunc_spec b3 tick hW hl
  rw [hf] at hI
  have HF := Lib.hid hf
  clear hf
  obtain ⟨m0, _, _, _, _, rfl, _⟩ := mem_cells (hS.pick 1)
  obtain ⟨p0, ev, rfl, hS1⟩ := ring_open hS
  obtain ⟨ea, cap, rfl, hc1, hc2, _⟩ := (hS1.pick 1).shapeG
  have hS2 := hS1.alloc (.cells #[i64 tick] 3)
  have c2 : (w.alloc (.cells #[i64 tick] 3)).cell? ⟨p0, 2, none⟩ = some (.slice ea es.length cap) := cell_of_blk (hS2.pick 1).get 2
  have H1 := Lib.hid (And.intro hS2 ((Stable.refl w).alloc (.cells #[i64 tick] 3)))
  have HI := Lib.hid hI
  have HB := Lib.hid hb
  clear hS hS1 hS2 hI hb
  go_enter Try.func16, Try.ntmps16
  go_wp2_with fail
  obtain ⟨b3, hb3⟩ : ∃ b3, b3 = w.heap.size := ⟨_, rfl⟩
  rw [← hb3] at H1 ⊢
  clear hb3
  refine (HI.out b3 _ _ _ ((H1.out.1.pick 2).pick 1)).mono ?_
  rintro e w2 ⟨rfl, hS2, hst2⟩
  have H2 := Lib.hid (And.intro (show Sep w2 (pts b3 (.cells #[i64 tick] 3) :: pts p0 (.cells #[.pointer (some ⟨m0, 0, none⟩), i64 keep, .slice ea es.length cap] 57) :: rowR (.slice ea es.length cap) es :: mem (.pointer (some ⟨m0, 0, none⟩)) cs base log :: L) from (hS2.pick 2).pick 1) (H1.out.2.trans hst2))
  clear hS2 hst2 H1 c2
  go_upto_region 2 with fail
  go_cut [13] from 14 to 25 (fun x13 wx => x13 = .bool false ∧ Sep wx (pts b3 (.cells #[i64 tick] 3) :: pts p0 (.cells #[.pointer (some ⟨m0, 0, none⟩), i64 keep, .slice ea es.length cap] 57) :: rowR (.slice ea es.length cap) es :: mem (.pointer (some ⟨m0, 0, none⟩)) cs base log :: L) ∧ Stable w wx)
  case first =>
    have g1 : ((es.length : Int) == 0) = false := by rw [beq_eq_false_iff_ne]; omega
    have g2 : (es.length == 0) = false := by rw [beq_eq_false_iff_ne]; omega
    have g3 : decide (tick < oldest es) = false := by rw [decide_eq_false_iff_not]; omega
    refine wp_region_dag (w0 := w) 13 [some 14, some 15, some 16, some 17, some 18, some 19, some 20, some 21, some 22, some 23, some 24, some 25, some 13] [.det [] (.pointer (some ⟨p0, 0, none⟩)), .det [0] (.pointer (some ⟨p0, 0, none⟩)), .det [1] (.pointer (some ⟨p0, 2, none⟩)), .det [2] (.slice ea es.length cap), .det [3] (i64 es.length), .det [4] (.bool false), .det [5] (.bool false), .det [6] (i64 tick), .det [6] (.pointer (some ⟨p0, 0, none⟩)), .det [8, 6] (i64 (oldest es)), .det [7, 9, 6] (.bool false), .det [6, 10] (.bool false), .det [11] (.bool false)] (pts b3 (.cells #[i64 tick] 3) :: pts p0 (.cells #[.pointer (some ⟨m0, 0, none⟩), i64 keep, .slice ea es.length cap] 57) :: rowR (.slice ea es.length cap) es :: mem (.pointer (some ⟨m0, 0, none⟩)) cs base log :: L) [] rfl (by kernel_rfl) (by kernel_rfl) (by kernel_rfl) (by kernel_rfl) (H2.out.1) (H2.out.2) ⟨⟨⟨⟨⟨⟨⟨⟨⟨⟨⟨⟨⟨trivial, ?_⟩, ?_⟩, ?_⟩, ?_⟩, ?_⟩, ?_⟩, ?_⟩, ?_⟩, ?_⟩, ?_⟩, ?_⟩, ?_⟩, ?_⟩ ?_
    · refine all13 fun z0 z1 z2 z3 z4 z5 z6 z7 z8 z9 z10 z11 z12 W L hv hS hst a ha K hK => ?_
      simp only [dagPut, Act.put, List.setIfInBounds_toArray, List.set_cons_zero, List.set_cons_succ] at ha
      subst ha
      refine wpOp_plain rfl rfl ?_
      simp only [Act.put, List.setIfInBounds_toArray, List.set_cons_zero, List.set_cons_succ, List.getD_cons_zero] at hK
      go_simp
      exact hK.out _ _ rfl (sepEmp hS) hst
    · refine all13 fun z0 z1 z2 z3 z4 z5 z6 z7 z8 z9 z10 z11 z12 W L hv hS hst a ha K hK => ?_
      obtain ⟨v0, _⟩ := hv
      obtain rfl : z0 = _ := v0
      simp only [dagPut, Act.put, List.setIfInBounds_toArray, List.set_cons_zero, List.set_cons_succ] at ha
      subst ha
      refine wpOp_plain rfl rfl ?_
      simp only [Act.put, List.setIfInBounds_toArray, List.set_cons_zero, List.set_cons_succ, List.getD_cons_succ, List.getD_cons_zero] at hK
      go_simp
      exact hK.out _ _ rfl (sepEmp hS) hst
    · refine all13 fun z0 z1 z2 z3 z4 z5 z6 z7 z8 z9 z10 z11 z12 W L hv hS hst a ha K hK => ?_
      obtain ⟨v1, _⟩ := hv
      obtain rfl : z1 = _ := v1
      simp only [dagPut, Act.put, List.setIfInBounds_toArray, List.set_cons_zero, List.set_cons_succ] at ha
      subst ha
      refine wpOp_plain rfl rfl ?_
      simp only [Act.put, List.setIfInBounds_toArray, List.set_cons_zero, List.set_cons_succ, List.getD_cons_succ, List.getD_cons_zero] at hK
      go_simp
      exact hK.out _ _ rfl (sepEmp hS) hst
    · refine all13 fun z0 z1 z2 z3 z4 z5 z6 z7 z8 z9 z10 z11 z12 W L hv hS hst a ha K hK => ?_
      obtain ⟨v2, _⟩ := hv
      obtain rfl : z2 = _ := v2
      have c0 := (show W.cell? ⟨p0, 2, none⟩ = some (.slice ea es.length cap) from cell_of_blk (Sep.get (L := _) (Sep.pick 1 hS)) 2)
      simp only [dagPut, Act.put, List.setIfInBounds_toArray, List.set_cons_zero, List.set_cons_succ] at ha
      subst ha
      refine wpOp_plain rfl rfl ?_
      simp only [Act.put, List.setIfInBounds_toArray, List.set_cons_zero, List.set_cons_succ, List.getD_cons_succ, List.getD_cons_zero] at hK
      go_simp
      exact hK.out _ _ rfl (sepEmp hS) hst
    · refine all13 fun z0 z1 z2 z3 z4 z5 z6 z7 z8 z9 z10 z11 z12 W L hv hS hst a ha K hK => ?_
      obtain ⟨v3, _⟩ := hv
      obtain rfl : z3 = _ := v3
      simp only [dagPut, Act.put, List.setIfInBounds_toArray, List.set_cons_zero, List.set_cons_succ] at ha
      subst ha
      refine wpOp_plain rfl rfl ?_
      simp only [Act.put, List.setIfInBounds_toArray, List.set_cons_zero, List.set_cons_succ, List.getD_cons_succ, List.getD_cons_zero] at hK
      go_simp
      exact hK.out _ _ rfl (sepEmp hS) hst
    · refine all13 fun z0 z1 z2 z3 z4 z5 z6 z7 z8 z9 z10 z11 z12 W L hv hS hst a ha K hK => ?_
      obtain ⟨v4, _⟩ := hv
      obtain rfl : z4 = _ := v4
      simp only [dagPut, Act.put, List.setIfInBounds_toArray, List.set_cons_zero, List.set_cons_succ] at ha
      subst ha
      refine wpOp_plain rfl rfl ?_
      simp only [Act.put, List.setIfInBounds_toArray, List.set_cons_zero, List.set_cons_succ, List.getD_cons_succ, List.getD_cons_zero] at hK
      go_simp
      exact hK.out _ _ rfl (sepEmp hS) hst
    · refine all13 fun z0 z1 z2 z3 z4 z5 z6 z7 z8 z9 z10 z11 z12 W L hv hS hst a ha K hK => ?_
      obtain ⟨v5, _⟩ := hv
      obtain rfl : z5 = _ := v5
      simp only [dagPut, Act.put, List.setIfInBounds_toArray, List.set_cons_zero, List.set_cons_succ] at ha
      subst ha
      refine wpOp_plain rfl rfl ?_
      simp only [Act.put, List.setIfInBounds_toArray, List.set_cons_zero, List.set_cons_succ, List.getD_cons_succ, List.getD_cons_zero] at hK
      go_simp
      exact hK.out _ _ rfl (sepEmp hS) hst
    · refine all13 fun z0 z1 z2 z3 z4 z5 z6 z7 z8 z9 z10 z11 z12 W L hv hS hst a ha K hK => ?_
      obtain ⟨v6, _⟩ := hv
      obtain rfl : z6 = _ := v6
      have c0 := (show W.cell? ⟨b3, 0, none⟩ = some (i64 tick) from cell_of_blk (Sep.get (L := _) hS) 0)
      simp only [dagPut, Act.put, List.setIfInBounds_toArray, List.set_cons_zero, List.set_cons_succ] at ha
      subst ha
      refine wpOp_on rfl rfl ?_
      simp only [Act.put, List.setIfInBounds_toArray, List.set_cons_zero, List.set_cons_succ, List.getD_cons_succ, List.getD_cons_zero] at hK
      go_simp
      exact hK.out _ _ rfl (sepEmp hS) hst
    · refine all13 fun z0 z1 z2 z3 z4 z5 z6 z7 z8 z9 z10 z11 z12 W L hv hS hst a ha K hK => ?_
      obtain ⟨v6, _⟩ := hv
      obtain rfl : z6 = _ := v6
      simp only [dagPut, Act.put, List.setIfInBounds_toArray, List.set_cons_zero, List.set_cons_succ] at ha
      subst ha
      refine wpOp_on rfl rfl ?_
      simp only [Act.put, List.setIfInBounds_toArray, List.set_cons_zero, List.set_cons_succ, List.getD_cons_succ, List.getD_cons_zero] at hK
      go_simp
      exact hK.out _ _ rfl (sepEmp hS) hst
    · refine all13 fun z0 z1 z2 z3 z4 z5 z6 z7 z8 z9 z10 z11 z12 W L hv hS hst a ha K hK => ?_
      obtain ⟨v8, v6, _⟩ := hv
      obtain rfl : z8 = _ := v8
      obtain rfl : z6 = _ := v6
      simp only [dagPut, Act.put, List.setIfInBounds_toArray, List.set_cons_zero, List.set_cons_succ] at ha
      subst ha
      refine wpOp_on rfl rfl ?_
      simp only [Act.put, List.setIfInBounds_toArray, List.set_cons_zero, List.set_cons_succ, List.getD_cons_succ, List.getD_cons_zero] at hK
      go_simp
      refine (Oldest_spec (ring_shut (Sep.drop hS)) (by omega)).mono ?_
      rintro e w3 ⟨rfl, rfl⟩
      exact hK.out _ _ rfl (sepEmp hS) hst
    · refine all13 fun z0 z1 z2 z3 z4 z5 z6 z7 z8 z9 z10 z11 z12 W L hv hS hst a ha K hK => ?_
      obtain ⟨v7, v9, v6, _⟩ := hv
      obtain rfl : z7 = _ := v7
      obtain rfl : z9 = _ := v9
      obtain rfl : z6 = _ := v6
      simp only [dagPut, Act.put, List.setIfInBounds_toArray, List.set_cons_zero, List.set_cons_succ] at ha
      subst ha
      refine wpOp_on rfl rfl ?_
      simp only [Act.put, List.setIfInBounds_toArray, List.set_cons_zero, List.set_cons_succ, List.getD_cons_succ, List.getD_cons_zero] at hK
      go_simp
      exact hK.out _ _ rfl (sepEmp hS) hst
    · refine all13 fun z0 z1 z2 z3 z4 z5 z6 z7 z8 z9 z10 z11 z12 W L hv hS hst a ha K hK => ?_
      obtain ⟨v6, v10, _⟩ := hv
      obtain rfl : z6 = _ := v6
      obtain rfl : z10 = _ := v10
      simp only [dagPut, Act.put, List.setIfInBounds_toArray, List.set_cons_zero, List.set_cons_succ] at ha
      subst ha
      refine wpOp_plain rfl rfl ?_
      simp only [Act.put, List.setIfInBounds_toArray, List.set_cons_zero, List.set_cons_succ, List.getD_cons_succ, List.getD_cons_zero] at hK
      go_simp
      exact hK.out _ _ rfl (sepEmp hS) hst
    · refine all13 fun z0 z1 z2 z3 z4 z5 z6 z7 z8 z9 z10 z11 z12 W L hv hS hst a ha K hK => ?_
      obtain ⟨v11, _⟩ := hv
      obtain rfl : z11 = _ := v11
      simp only [dagPut, Act.put, List.setIfInBounds_toArray, List.set_cons_zero, List.set_cons_succ] at ha
      subst ha
      refine wpOp_plain rfl rfl ?_
      simp only [Act.put, List.setIfInBounds_toArray, List.set_cons_zero, List.set_cons_succ, List.getD_cons_succ, List.getD_cons_zero] at hK
      go_simp
      exact hK.out _ _ rfl (sepEmp hS) hst
    · refine all13 fun z0 z1 z2 z3 z4 z5 z6 z7 z8 z9 z10 z11 z12 W hv hS hst a ha => ?_
      obtain ⟨⟨⟨⟨⟨⟨⟨⟨⟨⟨⟨⟨⟨_, v0⟩, v1⟩, v2⟩, v3⟩, v4⟩, v5⟩, v6⟩, v7⟩, v8⟩, v9⟩, v10⟩, v11⟩, v12⟩ := hv
      obtain rfl : z0 = _ := v0
      obtain rfl : z1 = _ := v1
      obtain rfl : z2 = _ := v2
      obtain rfl : z3 = _ := v3
      obtain rfl : z4 = _ := v4
      obtain rfl : z5 = _ := v5
      obtain rfl : z6 = _ := v6
      obtain rfl : z7 = _ := v7
      obtain rfl : z8 = _ := v8
      obtain rfl : z9 = _ := v9
      obtain rfl : z10 = _ := v10
      obtain rfl : z11 = _ := v11
      obtain rfl : z12 = _ := v12
      simp only [dagPut, Act.put, List.setIfInBounds_toArray, List.set_cons_zero, List.set_cons_succ] at ha; subst ha
      go_wp2_with fail
      go_meet
      exact ⟨rfl, hS, hst⟩
  case rest =>
    obtain ⟨rfl, hS, hst⟩ := hcut
    obtain ⟨b, off, rfl, hcc⟩ := ents_cell (hS.pick 2).readsG (by omega)
    have hoff : off = 0 := by
      rcases (hS.pick 2).casesG with ⟨hv, _⟩ | ⟨g', c', cur, hv, _⟩
      · simp at hv
      · simp at hv; exact hv.1.2
    subst hoff
    have d1 := (hcc k hkl).2
    rw [Nat.zero_add] at d1
    have c2 : wc.cell? ⟨p0, 2, none⟩ = some (.slice (some ⟨b, 0, none⟩) es.length cap) := cell_of_blk (hS.pick 1).get 2
    have c0 : wc.cell? ⟨p0, 0, none⟩ = some (.pointer (some ⟨m0, 0, none⟩)) := cell_of_blk (hS.pick 1).get 0
    have hcut2 := (hS.pick 2).cutG (k := k + 1) (by omega) (by omega)
    rw [ents_take] at hcut2
    have hst0 := hst
    generalize hmk : (es.getD k (0, 0)).2 = mk at *
    have hU := fun (W : World) (M : List Asn) (hW : Sep W (mem (.pointer (some ⟨m0, 0, none⟩)) cs base log :: M)) => Undo_ok hW HB.out mk hm1 hm2
    have HU := Lib.hid hU
    have hlk : (es.take (k + 1)).length = k + 1 := by rw [List.length_take]; omega
    have H3 := Lib.hid (And.intro (hcut2.pick 2) (And.intro hst0 hlk))
    have hkc : (k : Int) + 1 ≤ (cap : Int) := by omega
    have HMK := Lib.hid hmk
    clear hS hst hst0 hcc H2 hcut2 hU hlk hmk HI
    go_upto_region 8 with (refine wpList_store_cell rfl _ _ _ rfl H3.out.1 2 (.slice (some ⟨b, 0, none⟩) (k + 1) (k + 1)) rfl rfl rfl (by simp) (by kernel_rfl) ?_; intro w5 hS5 hst5)
    simp only [List.setIfInBounds_toArray, List.set_cons_succ, List.set_cons_zero] at hS5
    have c0c : w5.cell? ⟨p0, 0, none⟩ = some (.pointer (some ⟨m0, 0, none⟩)) := cell_of_blk hS5.get 0
    have H5 := Lib.hid (And.intro hS5 (H3.out.2.1.trans hst5))
    clear hS5 hst5 c0 c2 d1
    go_wp2_with fail
    refine (HU.out _ _ (H5.out.1.pick 3)).mono ?_
    rintro e w6 ⟨rfl, hS6, hst6⟩
    have H6 := Lib.hid (And.intro hS6 (H5.out.2.trans hst6))
    clear hS6 hst6
    go_wp2_with fail
    go_ret
    refine ⟨⟨rfl, ?_⟩, H6.out.2⟩
    have h6 := (H6.out.1.pick 3).drop
    have h7 := (h6.pick 2).pick 2
    exact ring_shut (ev := .slice (some ⟨b, 0, none⟩) (k + 1) (k + 1)) (by rw [rowR, H3.out.2.2, HMK.out]; exact h7)

end Go.Proofs.Ytfhjdfllkjjldaa
