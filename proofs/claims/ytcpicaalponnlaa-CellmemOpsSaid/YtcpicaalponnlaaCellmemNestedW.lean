/- The walk of the law CellmemNested. -/
import Derived.Test.YtcpicaalponnlaaCellmemUndoW
import Derived.Deep.RegionHeld3
namespace Go.Proofs.Ytcpicaalponnlaa
open Go.RowKit Go.Sl

variable {w : World} {L : List Asn}

theorem _root_.Go.Sl.Sep.one' {A : Asn} (h : Sep w (A :: L)) : Sep w [A] := by
  have h2 : Sep w (A :: (L ++ [])) := by simpa using h
  have : Sep w ((A :: L) ++ []) := by simpa using h
  clear h2
  have h3 := (Sep.perm (w := w) (L := A :: L) (L' := L ++ [A]) (by simpa using (List.perm_append_singleton A L).symm) h)
  clear this h
  induction L with
  | nil => exact h3
  | cons B L ih => exact ih h3.drop
theorem _root_.Go.Sl.Sep.mem' {A : Asn} (h : Sep w L) (hA : A ∈ L) : Sep w [A] := by
  obtain ⟨s, t, rfl⟩ := List.append_of_mem hA
  exact Go.Sl.Sep.one' (L := s ++ t) (h.perm List.perm_middle)

theorem infoV : (Try.prog.info? 22).map (fun i => (i.zero, i.size, i.bytes)) = some (some (.slice none 0 0), 1, 24) := by kernel_rfl
abbrev rowV (v : Value) (vs : List Value) : Asn := row 22 1 v vs.length vs
/-- The rows of the states. -/
def stA (vs : List Value) (css : List (List Int)) : List Asn := List.zipWith rowI vs css
theorem stA_snoc (vs : List Value) (css : List (List Int)) (v : Value) (cs : List Int) (h : vs.length = css.length) : stA (vs ++ [v]) (css ++ [cs]) = stA vs css ++ [rowI v cs] := by
  unfold stA; rw [List.zipWith_append h]; rfl
theorem stA_mem (vs : List Value) (css : List (List Int)) (i : Nat) (h1 : i < vs.length) (h2 : i < css.length) : rowI (vs.getD i (.slice none 0 0)) (css.getD i []) ∈ stA vs css := by
  unfold stA
  rw [List.mem_iff_getElem]
  exact ⟨i, by simp; omega, by simp [List.getD, h1, h2]⟩

theorem rowV_snoc (v : Value) (vs : List Value) (x : Value) : rowV v (vs ++ [x]) = row 22 1 v (vs.length + 1) (vs ++ [x]) := by simp [rowV]
theorem setsS_back (s : MS) (more : List (Int × Int)) (j : Nat) (h : j < more.length) :
    chk (setsS s more (j + 1)).2.1 (setsS s more (j + 1)).2.2 (s.2.1 + ((setsS s more j).2.2.length : Int)) = 0 ∧ undoS (setsS s more (j + 1)) (s.2.1 + ((setsS s more j).2.2.length : Int)) = setsS s more j := by
  have hb := (setsS_ext s more j (by omega)).2
  have hb1 := (setsS_ext s more (j + 1) (by omega)).2
  have hsuc := setsS_succ s more j h
  have he := (Ext.refl (setsS s more j).1 (setsS s more j).2.2).set (around (more.getD j (0, 0)).1 6) (more.getD j (0, 0)).2
  have he1 : Ext (setsS s more j).1 (setsS s more j).2.2 (setsS s more (j + 1)).1 (setsS s more (j + 1)).2.2 1 := by rw [hsuc]; exact he
  have hundo := he1.undo (k := (setsS s more j).2.2.length) rfl
  have hll := he1.len
  have hz : chk (setsS s more (j + 1)).2.1 (setsS s more (j + 1)).2.2 (s.2.1 + ((setsS s more j).2.2.length : Int)) = 0 := by
    unfold chk; rw [hb1, if_neg (by omega), if_neg (by omega)]
  refine ⟨hz, ?_⟩
  unfold undoS
  rw [if_pos hz, hb1, show (s.2.1 + ((setsS s more j).2.2.length : Int) - s.2.1).toNat = (setsS s more j).2.2.length by omega, hundo.1, hundo.2, ← hb]

theorem _root_.Go.Sl.Sep.rowCell {w : World} {L : List Asn} {e : TypeId} {size g n n' cap : Nat} {xs : List Value} (h : Sep w (row e size (.slice (some ⟨g, 0, none⟩) n cap) n' xs :: L)) {i : Nat} (hi : i < xs.length) : w.cell? ⟨g, i, none⟩ = xs[i]? := by
  have hl := h.rowLen
  have hn : 0 < n' := by rcases Nat.eq_zero_or_pos n' with rfl | h; · simp at hl; rw [hl] at hi; simp at hi
                         · exact h
  obtain ⟨g', cap', hv, _, _, hc, _⟩ := h.rowAt hn
  obtain rfl : g = g' := by have := congrArg (fun v => match v with | Value.slice (some a) _ _ => a.block | _ => 0) hv; simpa using this
  exact hc i hi
def stateL (s : MS) (sets : List (Int × Int)) (k : Nat) : List (List Int) := (List.range k).map fun i => (setsS s sets i).1
def markL (s : MS) (sets : List (Int × Int)) (k : Nat) : List Int := (List.range k).map fun i => s.2.1 + ((setsS s sets i).2.2.length : Int)
theorem stateL_length (s : MS) (sets : List (Int × Int)) (k : Nat) : (stateL s sets k).length = k := by simp [stateL]
theorem markL_length (s : MS) (sets : List (Int × Int)) (k : Nat) : (markL s sets k).length = k := by simp [markL]
theorem stateL_succ (s : MS) (sets : List (Int × Int)) (k : Nat) : stateL s sets (k + 1) = stateL s sets k ++ [(setsS s sets k).1] := by simp [stateL, List.range_succ]
theorem markL_succ (s : MS) (sets : List (Int × Int)) (k : Nat) : markL s sets (k + 1) = markL s sets k ++ [s.2.1 + ((setsS s sets k).2.2.length : Int)] := by simp [markL, List.range_succ]
theorem stateL_get (s : MS) (sets : List (Int × Int)) (k i : Nat) (h : i < k) : (stateL s sets k).getD i [] = (setsS s sets i).1 := by simp [stateL, List.getD, h]
theorem markL_get (s : MS) (sets : List (Int × Int)) (k i : Nat) (h : i < k) : (markL s sets k).getD i 0 = s.2.1 + ((setsS s sets i).2.2.length : Int) := by simp [markL, List.getD, h]

set_option maxRecDepth 100000 in
set_option maxHeartbeats 8000000 in
theorem cellmemNested_walk {u x : Value} {cells : List Int} {more : List (Int × Int)} (hu : readsI w u cells) (bu : cells.length ≤ 9223372036854775807) (_ : ∀ x ∈ cells, inI64 x)
    (hx : readsP w x more) (bx : more.length ≤ 9223372036854775807) (wx : ∀ x ∈ more, inI64 x.1 ∧ inI64 x.2) :
    Calls Try.prog 5 #[u, x] w fun e w' => e = .returned (.bool true) ∧ Below w.heap.size w w' := by
  obtain ⟨iV, hiV, hV0, hV1, hV2⟩ := info_parts infoV
  obtain ⟨iI, hiI, hI0, hI1, hI2⟩ := info_parts infoI
  obtain ⟨au, cu, rfl⟩ := readsI_len hu
  obtain ⟨ax, cx, rfl⟩ := readsP_len hx
  have HU := Lib.hid hu
  have HX := Lib.hid hx
  have WX := Lib.hid wx
  clear hu hx wx
  go_enter Try.func5, Try.ntmps5
  go_wp2_with fail
  refine (six_spec HU.out bu).mono ?_
  rintro e w1 ⟨v1, rfl, hS1, hst1⟩
  go_wp2_with fail
  refine (New_spec hS1.reads (by rw [sixL_length]; omega)).mono ?_
  rintro e w2 ⟨p, rfl, hS2, hst2, hp⟩
  have hS2 := (hS1.mount hS2)
  have hS2 := (hS2.pick 1).drop
  have hst2 := hst1.trans hst2
  obtain ⟨p0, _, _, _, _, rfl, _⟩ := mem_cells hS2
  have hlen6 := sixL_length cells
  clear hp hS1 hst1 HU bu
  obtain ⟨s0, hs0⟩ : ∃ s0 : MS, s0 = (sixL cells, 0, []) := ⟨_, rfl⟩
  have hb0 : s0.2.1 = 0 := by rw [hs0]
  have hl0 : s0.2.2.length = 0 := by rw [hs0]; rfl
  have hc0 : s0.1.length = 6 := by rw [hs0]; exact hlen6
  have hsm : SmallS s0 := by rw [hs0]; exact ⟨by show (sixL cells).length ≤ _; omega, by simp, by simp, by simp⟩
  have hS2 : Sep w2 [memS (.pointer (some ⟨p0, 0, none⟩)) s0, old w] := by rw [hs0]; exact hS2
  have HL0 := Lib.hid hl0
  have hbnd : s0.2.1 + (s0.2.2.length : Int) ≤ 5 ∧ 0 ≤ s0.2.1 := by omega
  clear hs0 hlen6 hb0 hl0
  go_wp2_with fail
  go_loopw [6, 7, 8] (fun vS vM i wr => ∃ (k : Nat) (vs : List Value), k ≤ more.length ∧ k ≤ 12 ∧ i = .int .i64 k ∧ vs.length = k ∧
    Sep wr (memS (.pointer (some ⟨p0, 0, none⟩)) (setsS s0 more k) :: rowV vS vs :: rowI vM (markL s0 more k) :: old w :: stA vs (stateL s0 more k)) ∧ Stable w wr) (fun _ _ i _ => 12 - (intOf i).toNat)
  case atStart => exact ⟨0, [], Nat.zero_le _, by omega, rfl, rfl, ((hS2.addNil _ _).addNil 22 1).pick 2, hst2⟩
  case round =>
    clear hS2 hst2
    obtain ⟨k, vs, hk, hk12, rfl, hvs, hSr, hst⟩ := hrel
    have hext := setsS_ext s0 more k hk
    have hsmk : SmallS (setsS s0 more k) := by
      have := hext.1.small (base := s0.2.1) hsm (by omega)
      rw [← hext.2] at this; exact this
    by_cases hlt : k < more.length ∧ k < 12
    · obtain ⟨hlt, hlt12⟩ := hlt
      obtain ⟨b, off, cap, hv, _, _, hc⟩ := readsP_at HX.out (by omega)
      obtain ⟨rfl, rfl⟩ : ax = some ⟨b, off, none⟩ ∧ cx = cap := by simpa using hv
      obtain ⟨hc1, hc2⟩ := hc k hlt
      have hbl := World.block_lt_of_cell? w _ hc1
      have hxw := WX.out (more.getD k (0, 0)) (by rw [show more.getD k (0, 0) = more[k] by simp [List.getD, hlt]]; exact List.getElem_mem hlt)
      have HSM := Lib.hid hsmk
      have hll : (setsS s0 more k).2.2.length < 1000000000000 := by have := hext.1.len.2.2; omega
      have HLL := Lib.hid hll
      have hsuc := setsS_succ s0 more k hlt
      have HSUC := Lib.hid hsuc
      have HST := Lib.hid hst
      have HC1 := Lib.hid hc1
      have HC2 := Lib.hid hc2
      have HVS := Lib.hid hvs
      have HB := Lib.hid hext.2
      have hml := markL_length s0 more k
      have HML := Lib.hid hml
      clear hv hc hc1 hc2 hsuc hll hst hsmk hext hvs hml
      generalize more.getD k (0, 0) = y at *
      obtain ⟨y1, y2⟩ := y
      dsimp only at *
      have har := fun w => Around_spec y1 6 w (by omega) (by omega) hxw.1
      have HAR := Lib.hid har
      clear har
      generalize around y1 6 = z at *
      go_wp2_with fail
      refine (Cells_spec hSr HSM.out).mono ?_
      rintro e w4 ⟨v4, rfl, hS4, hst4⟩
      have hst4 := HST.out.trans hst4
      have hS5 := (hS4.pick 2).allocBeside (.cells #[v4] 22)
      obtain ⟨a4, c4, rfl, _⟩ := hS4.rowShape
      go_wp2_with (at_builtin; refine wpList_append_sep rfl _ _ 40 40 rfl 22 iV _ 1 24 Try.underlying40 hiV hV0 hV1 hV2 rfl _ _ _ rfl hS5 1 [.slice a4 (setsS s0 more k).1.length c4] (Src.ofSlice _ Try.underlying40 ⟨_, 0, none⟩ 1 1 _ rfl (fun j u hu => by rw [Addr.add_lit]; simpa using hu) (by simp [Value.oneCell'])) (by rw [HVS.out]; unfold maxLen; omega) (by rw [HVS.out]; omega) ?_; intro v' w5 hS5 hst5 hn5)
      refine (Mark_spec (hS5.pick 2) HSM.out).mono ?_
      rintro e w6 ⟨rfl, n6, rfl⟩
      have hst6 := ((hst4.alloc _).trans hst5).drewN n6
      have hS6 := hS5.drewN n6
      clear hS5 hst5 hn5 hst4 hS4 HST hSr
      rw [HB.out]
      generalize w5.drewN n6 = w6 at *
      have hS7 := (hS6.pick 3).allocBeside (.cells #[i64 (s0.2.1 + ((setsS s0 more k).2.2.length : Int))] 3)
      go_wp2_with (at_builtin; go_loud (refine wpList_append_sep rfl _ _ 22 22 rfl 3 iI _ 1 8 Try.underlying22 hiI hI0 hI1 hI2 rfl _ _ _ rfl hS7 1 [i64 (s0.2.1 + ((setsS s0 more k).2.2.length : Int))] (Src.ofSlice _ Try.underlying22 ⟨_, 0, none⟩ 1 1 _ rfl (fun j u hu => by rw [Addr.add_lit]; simpa using hu) (ints_one [_])) (by rw [HML.out]; unfold maxLen; omega) (by rw [HML.out]; omega) ?_; intro v8 w8 hS8 hst8 hn8))
      have hS8 := rowI_app (l' := [_]) hS8 rfl rfl
      rw [← markL_succ] at hS8
      have hst8 := (hst6.alloc _).trans hst8
      clear hS6 hst6 hS7 hn8
      have hS9 := hS8.pick 3
      have hold := (hS8.pick 4).oldGet b hbl
      have c1 : w8.cell? ⟨b, off + k * 2, none⟩ = _ := (World.cell?_of_block (a := ⟨b, off + k * 2, none⟩) hold).trans HC1.out
      have c2 : w8.cell? ⟨b, off + k * 2 + 1, none⟩ = _ := (World.cell?_of_block (a := ⟨b, off + k * 2 + 1, none⟩) hold).trans HC2.out
      clear hold
      go_wp2_with fail
      go_still_tail 12, (by kernel_rfl)
      still_call (still_of_eq (HAR.out w8.drew))
      repeat still_step
      refine wpStill_nil ?_
      change wpList _ _ _ _ _ w8.drew
      have HSET2 := Lib.hid (Set_spec hS9.drew HSM.out HLL.out z y2)
      go_wp2_with fail
      refine HSET2.out.mono ?_
      rintro e w9 ⟨rfl, hS10, hst10⟩
      have hst10 := hst8.drew.trans hst10
      go_wp2_with fail
      refine ⟨⟨k + 1, vs ++ [.slice a4 (setsS s0 more k).1.length c4], by omega, by omega, by go_num, by simp [HVS.out], ?_, hst10⟩, by simp [intOf]; omega⟩
      rw [HSUC.out, stateL_succ, stA_snoc _ _ _ _ (by rw [HVS.out, stateL_length])]
      have hS11 := hS10.perm (List.Perm.cons _ ((List.Perm.swap _ _ _).trans (List.Perm.cons _ (List.Perm.cons _ (List.perm_append_singleton _ (old w :: stA vs (stateL s0 more k))).symm))))
      rw [rowV_snoc]
      exact hS11
    · have hml := markL_length s0 more k
      have hsl := stateL_length s0 more k
      obtain ⟨aM, cM, rfl, _⟩ := (hSr.pick 2).rowShape
      obtain ⟨aV, cV, rfl, _⟩ := (hSr.pick 1).rowShape
      rw [hml, hvs]
      rw [hml, hvs] at hSr
      clear HX WX
      have hcase : (k < more.length ∧ k = 12) ∨ (k = more.length ∧ k ≤ 12) := by omega
      clear hlt
      obtain ⟨wo, rfl⟩ : ∃ wo : World, wo = wr := ⟨_, rfl⟩
      rcases hcase with ⟨hd1, hd2⟩ | ⟨hd1, hd2⟩
      all_goals
        have HVS := Lib.hid hvs
        have HML := Lib.hid hml
        have HSL := Lib.hid hsl
        clear hvs hml hsl hext hsmk
        go_wp2_with fail
        go_loopw [9] (fun i wr => ∃ j : Nat, j ≤ k ∧ i = .int .i64 ((j : Int) - 1) ∧
          Sep wr (memS (.pointer (some ⟨p0, 0, none⟩)) (setsS s0 more j) :: rowV (.slice aV k cV) vs :: rowI (.slice aM k cM) (markL s0 more k) :: old w :: stA vs (stateL s0 more k)) ∧ Stable w wr) (fun i _ => (intOf i + 1).toNat)
        case atStart => exact ⟨k, by omega, by go_num, hSr, hst⟩
        case round =>
          clear hSr hst hd1 hd2
          obtain ⟨j, hj, hi, hSr, hst⟩ := hrel
          have hextj := setsS_ext s0 more j (by omega)
          have hsmj : SmallS (setsS s0 more j) := by
            have := hextj.1.small (base := s0.2.1) hsm (by omega)
            rw [← hextj.2] at this; exact this
          rcases Nat.eq_zero_or_pos j with rfl | hjp
          · subst hi
            have e0 : setsS s0 more 0 = s0 := by simp [setsS]
            rw [e0] at hSr
            clear hextj hsmj e0
            go_wp2_with fail
            refine (Logged_spec hSr hsm).mono ?_
            rintro e w9 ⟨rfl, rfl⟩
            rw [HL0.out]
            go_wp2_with fail
            refine (lives_spec hSr).mono ?_
            rintro e w10 ⟨rfl, hS10, hst10⟩
            have hst10 := hst.trans hst10
            go_wp2_with fail
            go_ret
            exact ⟨rfl, (hS10.pick 3).below hst10⟩
          · obtain ⟨j, rfl⟩ : ∃ j', j = j' + 1 := ⟨j - 1, by omega⟩
            replace hi := hi.trans (show Value.int .i64 (((j + 1 : Nat) : Int) - 1) = .int .i64 (j : Int) by congr 1; omega)
            subst hi
            have hback := setsS_back s0 more j (by omega)
            have hsmj0 : SmallS (setsS s0 more j) := by
              have he := setsS_ext s0 more j (by omega)
              have := he.1.small (base := s0.2.1) hsm (by omega)
              rw [← he.2] at this; exact this
            have hl6 : (setsS s0 more j).1.length ≤ 6 := by have := (setsS_ext s0 more j (by omega)).1.len.1; omega
            have hund := UndoS_spec hSr.drew hsmj (s0.2.1 + ((setsS s0 more j).2.2.length : Int))
            rw [hback.1, hback.2] at hund
            have HUND := Lib.hid hund
            obtain ⟨gM, capM, hvM, _, _, _⟩ := (hSr.pick 2).rowAt (by rw [HML.out]; omega)
            obtain ⟨rfl, rfl⟩ : aM = some ⟨gM, 0, none⟩ ∧ cM = capM := by rw [HML.out] at hvM; simpa using hvM
            obtain ⟨gV, capV, hvV, _, _, _⟩ := (hSr.pick 1).rowAt (by rw [HVS.out]; omega)
            obtain ⟨rfl, rfl⟩ : aV = some ⟨gV, 0, none⟩ ∧ cV = capV := by rw [HVS.out] at hvV; simpa using hvV
            have hcM : wr.cell? ⟨gM, j, none⟩ = some (i64 (s0.2.1 + ((setsS s0 more j).2.2.length : Int))) := by
              rw [(hSr.pick 2).rowCell (i := j) (by rw [ints_length, HML.out]; omega), ints_get _ _ (by rw [HML.out]; omega), markL_get _ _ _ _ (by omega)]
            have hmem := stA_mem vs (stateL s0 more k) j (by rw [HVS.out]; omega) (by rw [HSL.out]; omega)
            rw [stateL_get _ _ _ _ (by omega)] at hmem
            obtain ⟨aj, cj, hvj, _⟩ := (hSr.mem' (List.mem_append_right [_, _, _, _] hmem)).rowShape
            rw [hvj] at hmem
            have hcV : ∀ w' : World, Sep w' (memS (.pointer (some ⟨p0, 0, none⟩)) (setsS s0 more j) :: rowV (.slice (some ⟨gV, 0, none⟩) k cV) vs :: rowI (.slice (some ⟨gM, 0, none⟩) k cM) (markL s0 more k) :: old w :: stA vs (stateL s0 more k)) →
                w'.cell? ⟨gV, j, none⟩ = some (.slice aj (setsS s0 more j).1.length cj) := fun w' hS' => by
              rw [(hS'.pick 1).rowCell (i := j) (by rw [HVS.out]; omega), ← hvj]
              have : j < vs.length := by rw [HVS.out]; omega
              simp [List.getD, this]
            have HCV := Lib.hid hcV
            have HMEM := Lib.hid hmem
            clear hcV hmem hvM hvV hvj hund hback hextj hsmj
            have HSM0 := Lib.hid hsmj0
            have HL6 := Lib.hid hl6
            clear hsmj0 hl6
            generalize hs1 : setsS s0 more j = s1 at *
            have HS1 := Lib.hid hs1
            clear hs1
            go_wp2_with fail
            go_region_with (first
              | (go_at_call 25; refine HUND.out.mono ?_; rintro e w5 ⟨rfl, hS5, hst5⟩; have hc5 := HCV.out _ hS5)
              | (go_at_call 14; refine (Cells_spec hS5 HSM0.out).mono ?_; rintro e w6 ⟨v6, rfl, hS6, hst6⟩; have hc6 := HCV.out _ hS6.drop)
              | (go_at_call 15; refine (SameInts_spec hS6.reads ((hS6.drop).mem' (List.mem_append_right [_, _, _, _] HMEM.out)).reads (Nat.le_trans HL6.out (by omega)) (Nat.le_trans HL6.out (by omega))).mono ?_; rintro e w7 ⟨rfl, n7, rfl⟩; rw [sameE_self]))
            all_goals
              have hst7 := ((hst.drew.trans hst5).trans hst6).drewN n7
              go_wp2_with fail
              exact ⟨⟨j, by omega, by go_num, by rw [HS1.out]; exact hS6.drop.drewN n7, hst7⟩, by simp [intOf]⟩

end Go.Proofs.Ytcpicaalponnlaa
