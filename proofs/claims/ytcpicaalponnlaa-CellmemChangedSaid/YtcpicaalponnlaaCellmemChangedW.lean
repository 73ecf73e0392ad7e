/- The walk of the law CellmemChanged. -/
import Derived.Test.YtcpicaalponnlaaCellmemNestedW
namespace Go.Proofs.Ytcpicaalponnlaa
open Go.RowKit Go.Sl

variable {w : World} {L : List Asn}

def keysL (more : List (Int × Int)) (k : Nat) : List Int := (more.take k).map fun x => around x.1 6
theorem keysL_succ (more : List (Int × Int)) (k : Nat) (h : k < more.length) : keysL more (k + 1) = keysL more k ++ [around (more.getD k (0, 0)).1 6] := by
  unfold keysL
  rw [List.take_succ_eq_append_getElem h, List.map_append]; simp only [List.map_cons, List.map_nil, List.getD, List.getElem?_eq_getElem h, Option.getD_some]
theorem keysL_length (more : List (Int × Int)) (k : Nat) (h : k ≤ more.length) : (keysL more k).length = k := by simp [keysL]; omega

/-- The log grows by the keys; what is not among them keeps its value. -/
theorem setsS_keys (s : MS) (more : List (Int × Int)) (h6 : s.1.length = 6) : ∀ k, k ≤ more.length →
    (setsS s more k).1.length = 6 ∧ (∃ l, (setsS s more k).2.2 = s.2.2 ++ l ∧ l.map (·.1) = keysL more k) ∧ ∀ i : Nat, (i : Int) ∉ keysL more k → (setsS s more k).1.getD i 0 = s.1.getD i 0
  | 0, _ => by
    have : setsS s more 0 = s := by simp [setsS]
    rw [this]; exact ⟨h6, ⟨[], by simp, by simp [keysL]⟩, fun i _ => rfl⟩
  | k + 1, h => by
    obtain ⟨i1, ⟨l, i2, i3⟩, i4⟩ := setsS_keys s more h6 k (by omega)
    rw [setsS_succ s more k (by omega), keysL_succ more k (by omega)]
    have hz0 : 0 ≤ around (more.getD k (0, 0)).1 6 := around_lo (by omega)
    have hz1 : around (more.getD k (0, 0)).1 6 < 6 := around_hi (by omega)
    generalize around (more.getD k (0, 0)).1 6 = z at *
    generalize (more.getD k (0, 0)).2 = y at *
    have hb : hasB (setsS s more k).1 z = true := by rw [hasB_iff]; omega
    refine ⟨?_, ⟨l ++ [(z, (setsS s more k).1.getD z.toNat 0)], ?_, by simp [i3]⟩, fun i hi => ?_⟩
    · simp only [setS]; rw [setC_length]; exact i1
    · simp [setS, setL, hb, i2]
    · have hi1 : (i : Int) ∉ keysL more k := fun hh => hi (List.mem_append_left _ hh)
      have hi2 : (i : Int) ≠ z := fun hh => hi (List.mem_append_right _ (by simp [hh]))
      rw [← i4 i hi1]
      simp only [setS, setC, hb, if_true, List.getD, List.getElem?_set]
      rw [if_neg (by omega)]

theorem upTo_mem (es : List (Int × Int)) (k : Nat) (x : Int) : x ∈ upTo es k ↔ 0 ≤ x ∧ x < k ∧ x ∈ es.map (·.1) := by
  simp only [upTo, List.mem_map, List.mem_filter, List.mem_range, List.any_eq_true, beq_iff_eq]
  constructor
  · rintro ⟨j, ⟨hj, ⟨y, hy, e⟩⟩, rfl⟩
    exact ⟨Int.natCast_nonneg _, by simpa using hj, ⟨y, hy, e⟩⟩
  · rintro ⟨h0, h1, ⟨y, hy, e⟩⟩
    exact ⟨x.toNat, ⟨by omega, ⟨y, hy, by omega⟩⟩, by simp; omega⟩
theorem upTo_sorted (es : List (Int × Int)) (k : Nat) : (upTo es k).Pairwise (· < ·) := by
  unfold upTo
  rw [List.pairwise_map]
  refine List.Pairwise.imp ?_ (List.Pairwise.filter _ (List.pairwise_lt_range (n := k)))
  intro a b h; simpa using h

set_option maxRecDepth 100000 in
set_option maxHeartbeats 8000000 in
theorem cellmemChanged_walk {u v x : Value} {cells l : List Int} {more : List (Int × Int)} (hu : readsI w u cells) (bu : cells.length ≤ 9223372036854775807) (_ : ∀ x ∈ cells, inI64 x)
    (hv : readsI w v l) (bv : l.length ≤ 9223372036854775807) (wv : ∀ x ∈ l, inI64 x) (hx : readsP w x more) (bx : more.length ≤ 9223372036854775807) (wx : ∀ x ∈ more, inI64 x.1 ∧ inI64 x.2) :
    Calls Try.prog 7 #[u, v, x] w fun e w' => e = .returned (.bool true) ∧ Below w.heap.size w w' := by
  obtain ⟨iI, hiI, hI0, hI1, hI2⟩ := info_parts infoI
  obtain ⟨au, cu, rfl⟩ := readsI_len hu
  obtain ⟨av, cv, rfl⟩ := readsI_len hv
  obtain ⟨ax, cx, rfl⟩ := readsP_len hx
  have HU := Lib.hid hu
  have HV := Lib.hid hv
  have HX := Lib.hid hx
  have WX := Lib.hid wx
  have hinv := built_inv cells l
  clear hu hv hx wx
  go_enter Try.func7, Try.ntmps7
  go_wp2_with fail
  refine (built_spec HU.out bu HV.out bv wv).mono ?_
  rintro e w1 ⟨p0, rfl, hS1, hst1⟩
  generalize builtS cells l = s0 at *
  have hsm := hinv.small (by omega)
  have hlen6 := hinv.1
  clear HU HV bu bv wv
  go_wp2_with fail
  refine (Cells_spec hS1 hsm).mono ?_
  rintro e w2 ⟨v2, rfl, hS2, hst2⟩
  have hS2 := hS2.pick 1
  have hst2 := hst1.trans hst2
  clear hS1 hst1
  go_wp2_with fail
  refine (Mark_spec hS2 hsm).mono ?_
  rintro e w3 ⟨rfl, n3, rfl⟩
  have hS3 := hS2.drewN n3
  have hst3 := hst2.drewN n3
  clear hS2 hst2
  generalize w2.drewN n3 = w3 at hS3 hst3 ⊢
  go_wp2_with fail
  go_loopw [10, 11] (fun vk i wr => ∃ k : Nat, k ≤ more.length ∧ k ≤ 20 ∧ i = .int .i64 k ∧ Sep wr [memS (.pointer (some ⟨p0, 0, none⟩)) (setsS s0 more k), rowI vk (keysL more k), rowI v2 s0.1, old w] ∧ Stable w wr) (fun _ i _ => 20 - (intOf i).toNat)
  case atStart => exact ⟨0, Nat.zero_le _, by omega, rfl, (hS3.addNil _ _).pick 1, hst3⟩
  case round =>
    clear hS3 hst3
    obtain ⟨k, hk, hk20, rfl, hSr, hst⟩ := hrel
    have hext := setsS_ext s0 more k hk
    have hpos := hinv.2.2.1
    have hlow := hinv.2.1
    have hkl := keysL_length more k hk
    have hsmk : SmallS (setsS s0 more k) := by
      have := hext.1.small (base := s0.2.1) hsm (by omega)
      rw [← hext.2] at this; exact this
    by_cases hlt : k < more.length ∧ k < 20
    · obtain ⟨hlt, hlt20⟩ := hlt
      obtain ⟨b, off, cap, hv, _, _, hc⟩ := readsP_at HX.out (by omega)
      obtain ⟨rfl, rfl⟩ : ax = some ⟨b, off, none⟩ ∧ cx = cap := by simpa using hv
      obtain ⟨hc1, hc2⟩ := hc k hlt
      have hbl := World.block_lt_of_cell? w _ hc1
      have hold := (hSr.pick 3).oldGet b hbl
      have c1 : wr.cell? ⟨b, off + k * 2, none⟩ = _ := (World.cell?_of_block (a := ⟨b, off + k * 2, none⟩) hold).trans hc1
      have hxw := WX.out (more.getD k (0, 0)) (by rw [show more.getD k (0, 0) = more[k] by simp [List.getD, hlt]]; exact List.getElem_mem hlt)
      have HSM := Lib.hid hsmk
      have hll : (setsS s0 more k).2.2.length < 1000000000000 := by have := hext.1.len.2.2; omega
      have HLL := Lib.hid hll
      have hsuc := setsS_succ s0 more k hlt
      have HSUC := Lib.hid hsuc
      have hsuk := keysL_succ more k hlt
      have HSUK := Lib.hid hsuk
      have HST := Lib.hid hst
      have HC2 := Lib.hid hc2
      have HKL := Lib.hid hkl
      clear hv hc hc1 hc2 hold hsuc hsuk hll hst hsmk hext hkl
      generalize more.getD k (0, 0) = y at *
      obtain ⟨y1, y2⟩ := y
      dsimp only at *
      have har := Around_spec y1 6 wr (by omega) (by omega) hxw.1
      have HAR := Lib.hid har
      clear har
      generalize around y1 6 = z at *
      have hS4 := (hSr.pick 1).allocBeside (.cells #[i64 z] 3)
      go_wp2_with fail
      refine HAR.out.mono ?_
      rintro e w4 ⟨rfl, rfl⟩
      go_wp2_with (at_builtin; refine wpList_append_sep rfl _ _ 22 22 rfl 3 iI _ 1 8 Try.underlying22 hiI hI0 hI1 hI2 rfl _ _ _ rfl hS4 1 [i64 z] (Src.ofSlice _ Try.underlying22 ⟨_, 0, none⟩ 1 1 _ rfl (fun j u hu => by rw [Addr.add_lit]; simpa using hu) (ints_one [z])) (by rw [HKL.out]; unfold maxLen; omega) (by rw [HKL.out]; omega) ?_; intro v5 w5 hS5 hst5 hn5; have hc2' : w5.cell? ⟨b, off + k * 2 + 1, none⟩ = some (i64 y2) := (World.cell?_of_block (a := ⟨b, off + k * 2 + 1, none⟩) ((hS5.pick 3).oldGet b hbl)).trans HC2.out)
      have hS5 := rowI_app (l' := [z]) hS5 rfl rfl
      refine (Set_spec (hS5.pick 1) HSM.out HLL.out z y2).mono ?_
      rintro e w6 ⟨rfl, hS6, hst6⟩
      have hst6 := ((HST.out.alloc _).trans hst5).trans hst6
      go_wp2_with fail
      refine ⟨⟨k + 1, by omega, by omega, by go_num, ?_, hst6⟩, by simp [intOf]; omega⟩
      rw [HSUC.out, HSUK.out]
      exact hS6
    · obtain ⟨k1, ⟨lk, k2, k3⟩, k4⟩ := setsS_keys s0 more hlen6 k hk
      have hb2 := hext.2
      have hz : chk (setsS s0 more k).2.1 (setsS s0 more k).2.2 (s0.2.1 + s0.2.2.length) = 0 := by
        have hll := hext.1.len
        unfold chk; rw [hb2, if_neg (by omega), if_neg (by omega)]
      have hch : chgS (setsS s0 more k) (s0.2.1 + s0.2.2.length) = upTo lk 6 := by
        unfold chgS
        rw [if_pos hz, hb2, show (s0.2.1 + (s0.2.2.length : Int) - s0.2.1).toNat = s0.2.2.length by omega, k2, List.drop_left, changedL, k1]
      have hchg := ChgS_spec hSr hsmk (s0.2.1 + s0.2.2.length)
      rw [hz, hch] at hchg
      have h1 : ∀ i : Nat, i < 6 → hasE (upTo lk 6) i = hasE (keysL more k) i := fun i hi => by
        rw [Bool.eq_iff_iff, hasE_iff, hasE_iff, upTo_mem, k3]
        exact ⟨fun h => h.2.2, fun h => ⟨by omega, by omega, h⟩⟩
      have h2 : ∀ i : Nat, i < 6 → hasE (upTo lk 6) i = false → getC (setsS s0 more k).1 i = s0.1.getD i 0 := fun i hi hf => by
        rw [← k4 i (by rw [h1 i hi] at hf; intro hh; rw [hasE_iff.2 hh] at hf; cases hf), getC, if_pos (by rw [hasB_iff]; omega)]; rfl
      have h3 : ∀ i : Nat, 1 ≤ i → i < (upTo lk 6).length → (upTo lk 6).getD (i - 1) 0 < (upTo lk 6).getD i 0 := fun i hi hl => by
        have := List.pairwise_iff_getElem.1 (upTo_sorted lk 6) (i - 1) i (by omega) hl (by omega)
        simpa [List.getD, hl, show i - 1 < (upTo lk 6).length by omega] using this
      have h4 := upTo_length lk 6
      have HCH := Lib.hid hchg
      have H1 := Lib.hid h1
      have H2 := Lib.hid h2
      have H3 := Lib.hid h3
      have HKL := Lib.hid hkl
      clear hchg h1 h2 h3 hkl k1 k2 k3 k4 hb2 hz hch hext
      generalize upTo lk 6 = ch at *
      have hcase : (k < more.length ∧ k = 20) ∨ (k = more.length ∧ k ≤ 20) := by omega
      clear hlt HX WX
      rcases hcase with ⟨hd1, hd2⟩ | ⟨hd1, hd2⟩
      all_goals
        go_wp2_with fail
        refine HCH.out.mono ?_
        rintro e w5 ⟨v5, rfl, hS5, hst5⟩
        replace hst5 := hst.trans hst5
        clear hd1 hd2 hst HCH
        obtain ⟨a5, c5, rfl, _⟩ := hS5.rowShape
        obtain ⟨a6, c6, rfl, _⟩ := (hS5.pick 2).rowShape
        obtain ⟨a7, c7, rfl, _⟩ := (hS5.pick 3).rowShape
        go_wp2_with fail
        go_loopw [15] (fun i wr => (∃ j : Nat, j ≤ 6 ∧ i = .int .i64 j) ∧ ∃ n, wr = w5.drewN n) (fun i _ => 6 - (intOf i).toNat)
        case atStart => exact ⟨⟨0, by omega, rfl⟩, 0, rfl⟩
        case round =>
          obtain ⟨⟨j, hj, rfl⟩, nj, rfl⟩ := hrel
          have hSj := hS5.drewN nj
          by_cases hlt : j < 6
          · have h1 := H1.out j hlt
            have h2 := H2.out j hlt
            have hhas := fun n => Has_spec (j : Int) (hSj.drewN n).reads (by omega)
            have hhas1 := Has_spec (j : Int) hSj.reads (by omega)
            have hhas2 := Has_spec (j : Int) (hSj.pick 2).reads (by rw [HKL.out]; omega)
            rw [← h1] at hhas2
            obtain ⟨gf, cf, hvf, _, _, hcf, _, _, _⟩ := (hSj.pick 3).rowAt (by omega)
            obtain rfl : a7 = some ⟨gf, 0, none⟩ := by simpa using congrArg (fun v => match v with | Value.slice a _ _ => a | _ => none) hvf
            have xk := (hcf j (by rw [ints_length]; omega)).trans (ints_get _ _ (by omega))
            have hget := fun n => Get_spec ((hSj.drewN n).pick 1) hsmk (j : Int)
            clear hvf hcf h1
            cases hb : hasE ch j
            · simp only [hb] at hhas hhas1 hhas2
              rw [h2 hb] at hget
              generalize s0.1.getD j 0 = x at *
              have HH := Lib.hid hhas
              have HH1 := Lib.hid hhas1
              have HH2 := Lib.hid hhas2
              have HG := Lib.hid hget
              have HSJ := Lib.hid hSj
              clear hhas hhas1 hhas2 hget h2 hb hSj
              generalize hwj : w5.drewN nj = wj at *
              have HWJ := Lib.hid hwj
              clear hwj
              go_wp2_with fail
              refine HH1.out.mono ?_
              rintro e w6 ⟨rfl, rfl⟩
              go_wp2_with fail
              refine HH2.out.mono ?_
              rintro e w6 ⟨rfl, rfl⟩
              go_wp2_with fail
              go_quiet (first | (go_at_call 28; exact quiet_of_eq (HH.out _)) | (go_at_call 21; exact quiet_of_eq (HG.out _)))
              go_wp2_with fail
              rw [← HWJ.out]
              exact ⟨⟨⟨j + 1, by omega, by go_num⟩, _, World.drewN_drewN _ _ _⟩, by simp [intOf]; omega⟩
            · simp only [hb] at hhas hhas1 hhas2
              have HH := Lib.hid hhas
              have HH1 := Lib.hid hhas1
              have HH2 := Lib.hid hhas2
              have HSJ := Lib.hid hSj
              clear hhas hhas1 hhas2 hget h2 hb hSj xk
              generalize hwj : w5.drewN nj = wj at *
              have HWJ := Lib.hid hwj
              clear hwj
              go_wp2_with fail
              refine HH1.out.mono ?_
              rintro e w6 ⟨rfl, rfl⟩
              go_wp2_with fail
              refine HH2.out.mono ?_
              rintro e w6 ⟨rfl, rfl⟩
              go_wp2_with fail
              go_quiet ((go_at_call 28; exact quiet_of_eq (HH.out _)))
              go_wp2_with fail
              rw [← HWJ.out]
              exact ⟨⟨⟨j + 1, by omega, by go_num⟩, _, World.drewN_drewN _ _ _⟩, by simp [intOf]; omega⟩
          · obtain rfl : j = 6 := by omega
            clear hlt
            go_wp2_with fail
            have hstj := hst5.drewN nj
            generalize w5.drewN nj = w8 at *
            go_loopw [16] (fun i wr => (∃ m : Nat, (m < ch.length ∨ m = 0) ∧ i = .int .i64 ((m : Int) + 1)) ∧ ∃ n, wr = w8.drewN n) (fun i _ => ch.length - (intOf i).toNat)
            case atStart => exact ⟨⟨0, .inr rfl, rfl⟩, 0, rfl⟩
            case round =>
              obtain ⟨⟨m, hm, rfl⟩, nm, rfl⟩ := hrel
              have hSm := hSj.drewN nm
              by_cases hlt : m + 1 < ch.length
              · obtain ⟨gf, cf, hvf, _, _, hcf, _, _, _⟩ := hSm.rowAt (by omega)
                obtain rfl : a5 = some ⟨gf, 0, none⟩ := by simpa using congrArg (fun v => match v with | Value.slice a _ _ => a | _ => none) hvf
                have x1 := (hcf m (by rw [ints_length]; omega)).trans (ints_get _ _ (by omega))
                have x2 := (hcf (m + 1) (by rw [ints_length]; omega)).trans (ints_get _ _ (by omega))
                have hxy := H3.out (m + 1) (by omega) hlt
                rw [Nat.add_sub_cancel] at hxy
                have hdec : decide (ch.getD (m + 1) 0 ≤ ch.getD m 0) = false := by rw [decide_eq_false_iff_not]; omega
                clear hvf hcf hxy
                generalize ch.getD (m + 1) 0 = y2 at *
                generalize ch.getD m 0 = y1 at *
                have HSM := Lib.hid hSm
                clear hSm
                generalize hwm : w8.drewN nm = wm at *
                have HWM := Lib.hid hwm
                clear hwm
                go_wp2_with fail
                go_quiet (fail)
                go_wp2_with fail
                rw [← HWM.out]
                exact ⟨⟨⟨m + 1, by omega, by go_num⟩, _, World.drewN_drewN _ _ _⟩, by simp [intOf]; omega⟩
              · go_wp2_with fail
                refine (lives_spec hSm).mono ?_
                rintro e w9 ⟨rfl, hS9, hst9⟩
                go_wp2_with fail
                go_ret
                exact ⟨rfl, (hS9.pick 4).below ((hstj.drewN nm).trans hst9)⟩

end Go.Proofs.Ytcpicaalponnlaa
