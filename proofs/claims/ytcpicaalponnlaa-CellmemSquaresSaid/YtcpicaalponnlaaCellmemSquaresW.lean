/- The walk of the law CellmemSquares. -/
import Derived.Test.YtcpicaalponnlaaLives
import Derived.Test.YtcpicaalponnlaaFixed
namespace Go.Proofs.Ytcpicaalponnlaa
open Go.RowKit Go.Sl

variable {w : World} {L : List Asn}

def fewTo (l : List Int) (k : Nat) : List Int := (l.take k).map fun x => around x 16777216
theorem fewTo_length (l : List Int) (k : Nat) (h : k ≤ l.length) : (fewTo l k).length = k := by simp [fewTo]; omega
theorem fewTo_succ (l : List Int) (k : Nat) (h : k < l.length) : fewTo l (k + 1) = fewTo l k ++ [around (l.getD k 0) 16777216] := by
  unfold fewTo
  rw [List.take_succ_eq_append_getElem h, List.map_append]; simp only [List.map_cons, List.map_nil, List.getD, List.getElem?_eq_getElem h, Option.getD_some]
theorem fewTo_ok (l : List Int) (k : Nat) : ∀ x ∈ fewTo l k, 0 ≤ x ∧ x < 16777216 := by
  intro x hx
  obtain ⟨y, _, rfl⟩ := List.mem_map.1 hx
  exact ⟨around_lo (by omega), around_hi (by omega)⟩
def sqTo (few : List Int) (k : Nat) : List Int := (List.range few.length).map fun i => if i < k then few.getD i 0 * few.getD i 0 / 1024 else few.getD i 0
theorem sqTo_length (few : List Int) (k : Nat) : (sqTo few k).length = few.length := by simp [sqTo]
theorem sqTo_zero (few : List Int) : sqTo few 0 = few := by
  apply List.ext_getElem
  · simp [sqTo]
  · intro i h1 h2
    simp [sqTo, List.getD, h2]
theorem sqTo_get (few : List Int) (k i : Nat) (hi : i < few.length) : (sqTo few k).getD i 0 = if i < k then few.getD i 0 * few.getD i 0 / 1024 else few.getD i 0 := by
  simp [sqTo, List.getD, hi]
theorem sqTo_succ (few : List Int) (k : Nat) : (sqTo few k).set k (few.getD k 0 * few.getD k 0 / 1024) = sqTo few (k + 1) := by
  apply List.ext_getElem
  · simp [sqTo]
  · intro i h1 h2
    simp only [sqTo, List.getElem_set, List.getElem_map, List.getElem_range]
    by_cases e : k = i
    · subst e; simp
    · simp only [e, if_false]
      by_cases e2 : i < k
      · simp [e2, Nat.lt_succ_of_lt e2]
      · simp [e2, show ¬ i < k + 1 by omega]

theorem sq_bound {x : Int} (h0 : 0 ≤ x) (h1 : x < 16777216) : 0 ≤ x * x ∧ x * x ≤ 281474976710656 := by
  have : x * x ≤ 16777216 * 16777216 := Int.mul_le_mul (by omega) (by omega) h0 (by omega)
  exact ⟨Int.mul_nonneg h0 h0, by omega⟩

set_option maxRecDepth 100000 in
set_option maxHeartbeats 4000000 in
theorem cellmemSquares_walk {u : Value} {l : List Int} (hu : readsI w u l) (bu : l.length ≤ 9223372036854775807) (wu : ∀ x ∈ l, inI64 x) :
    Calls Try.prog 8 #[u] w fun e w' => e = .returned (.bool true) ∧ Below w.heap.size w w' := by
  obtain ⟨iI, hiI, hI0, hI1, hI2⟩ := info_parts infoI
  obtain ⟨a, c, rfl⟩ := readsI_len hu
  have hS0 := (Sep.start w).addNil 3 1
  have H := Lib.hid hu
  have HW := Lib.hid wu
  clear hu wu
  go_enter Try.func8, Try.ntmps8
  go_wp2
  go_loopw [3, 4] (fun o i wr => ∃ k : Nat, k ≤ l.length ∧ k ≤ 8 ∧ i = .int .i64 k ∧ Sep wr [rowI o (fewTo l k), old w] ∧ Stable w wr) (fun _ i _ => 8 - (intOf i).toNat)
  case atStart => exact ⟨0, Nat.zero_le _, by omega, rfl, hS0, Stable.refl w⟩
  case round =>
    clear hS0
    obtain ⟨k, hk, hk8, rfl, hSr, hst⟩ := hrel
    have hfl := fewTo_length l k hk
    by_cases hlt : k < l.length ∧ k < 8
    · obtain ⟨hlt, hlt8⟩ := hlt
      obtain ⟨b, off, cap, hv, _, _, hc⟩ := readsI_at H.out (by omega)
      obtain ⟨rfl, rfl⟩ : a = some ⟨b, off, none⟩ ∧ c = cap := by simpa using hv
      have hck := hc k hlt
      have hbl := World.block_lt_of_cell? w _ hck
      have hck' : wr.cell? ⟨b, off + k, none⟩ = some (i64 (l.getD k 0)) := (World.cell?_of_block (a := ⟨b, off + k, none⟩) ((hSr.pick 1).oldGet b hbl)).trans hck
      have hxw : inI64 (l.getD k 0) := HW.out _ (by rw [show l.getD k 0 = l[k] by simp [List.getD, hlt]]; exact List.getElem_mem hlt)
      have hsuc := fewTo_succ l k hlt
      have HSUC := Lib.hid hsuc
      have HST := Lib.hid hst
      have HFL := Lib.hid hfl
      clear hv hc hck hst hsuc hfl
      generalize l.getD k 0 = x at *
      generalize fewTo l k = few at *
      have har := Around_spec x 16777216 wr (by omega) (by omega) hxw
      generalize around x 16777216 = y at *
      have hS2 := hSr.allocBeside (.cells #[.int .i64 y] 3)
      go_wp2_with fail
      refine har.mono ?_
      rintro e w' ⟨rfl, rfl⟩
      go_wp2_with (at_builtin; refine wpList_append_sep rfl _ _ 22 22 rfl 3 iI _ 1 8 Try.underlying22 hiI hI0 hI1 hI2 rfl _ _ _ rfl hS2 1 [i64 y] (Src.ofSlice _ Try.underlying22 ⟨_, 0, none⟩ 1 1 _ rfl (fun j u hu => by rw [Addr.add_lit]; simpa using hu) (ints_one [y])) (by rw [HFL.out]; unfold maxLen; omega) (by rw [HFL.out]; omega) ?_; intro v' w2 hS7 hst7 hn7)
      refine ⟨⟨k + 1, by omega, by omega, by go_num, ?_, (HST.out.alloc _).trans hst7⟩, by simp [intOf]; omega⟩
      rw [HSUC.out]
      exact rowI_app (l' := [y]) hS7 rfl rfl
    · have hok := fewTo_ok l k
      clear H HW
      generalize fewTo l k = few at *
      obtain ⟨ao, co, rfl, _⟩ := hSr.rowShape
      have hf8 : few.length ≤ 8 := by omega
      have HOK := Lib.hid hok
      have hsm : Small few 0 [] := ⟨by omega, by omega, by simp, by simp⟩
      have HR := Lib.hid hSr.reads
      have HFL := Lib.hid hfl
      clear hok hfl
      have hcase : (k < l.length ∧ k = 8) ∨ (k = l.length ∧ k ≤ 8) := by omega
      clear hlt
      rcases hcase with ⟨hd1, hd2⟩ | ⟨hd1, hd2⟩
      all_goals
        go_wp2_with fail
        refine (New_spec HR.out (by omega)).mono ?_
        rintro e w2 ⟨p, rfl, hS2, hst2, hp⟩
        have hS2 := hSr.mount hS2
        have hst2 := hst.trans hst2
        obtain ⟨p0, _, _, _, _, rfl, _⟩ := mem_cells hS2
        clear hp
        go_wp2_with fail
        refine (Mark_spec hS2 hsm).mono ?_
        rintro e w3 ⟨rfl, n3, rfl⟩
        rw [show (0 : Int) + (([] : List (Int × Int)).length : Int) = 0 from rfl]
        have hS3 := hS2.drewN n3
        have hst3 := hst2.drewN n3
        clear hS2 hst2
        generalize w2.drewN n3 = w3 at hS3 hst3 ⊢
        go_wp2_with fail
        go_loopw [7] (fun i wr => ∃ k2 : Nat, k2 ≤ few.length ∧ i = .int .i64 k2 ∧ (∃ log, Sep wr [mem (.pointer (some ⟨p0, 0, none⟩)) (sqTo few k2) 0 log, rowI (.slice ao few.length co) few, old w] ∧ Ext few [] (sqTo few k2) log k2) ∧ Stable w wr) (fun i _ => few.length - (intOf i).toNat)
        case atStart => exact ⟨0, Nat.zero_le _, rfl, ⟨[], by rw [sqTo_zero]; exact hS3, by rw [sqTo_zero]; exact Ext.refl _ _⟩, hst3⟩
        case round =>
          clear hS3 hst3 hSr hst
          obtain ⟨k2, hk2, rfl, ⟨log, hS4, hext⟩, hst4⟩ := hrel
          have hsm4 : Small (sqTo few k2) 0 log := hext.small hsm (by simp; omega)
          by_cases hlt2 : k2 < few.length
          · have hgk : getC (sqTo few k2) (k2 : Int) = few.getD k2 0 := by
              have hh : hasB (sqTo few k2) (k2 : Int) = true := by rw [hasB_iff, sqTo_length]; omega
              rw [getC, if_pos hh, Int.toNat_natCast, sqTo_get _ _ _ hlt2, if_neg (by omega)]
            have hxk := HOK.out (few.getD k2 0) (by rw [show few.getD k2 0 = few[k2] by simp [List.getD, hlt2]]; exact List.getElem_mem hlt2)
            have hsq := sq_bound hxk.1 hxk.2
            have hset : setC (sqTo few k2) (k2 : Int) (few.getD k2 0 * few.getD k2 0 / 1024) = sqTo few (k2 + 1) := by
              have hh : hasB (sqTo few k2) (k2 : Int) = true := by rw [hasB_iff, sqTo_length]; omega
              rw [setC, if_pos hh, Int.toNat_natCast, sqTo_succ]
            have hext2 := hext.set (k2 : Int) (few.getD k2 0 * few.getD k2 0 / 1024)
            rw [hset] at hext2
            have hll := hext.len.2.2
            have HG := Lib.hid (And.intro hgk (And.intro hset hext2))
            clear hgk hset hext2 hext
            generalize few.getD k2 0 = x at *
            go_wp2_with fail
            refine (Get_spec hS4 hsm4 _).mono ?_
            rintro e w5 ⟨rfl, rfl⟩
            rw [HG.out.1]
            go_wp2_with fail
            refine (Get_spec hS4 hsm4 _).mono ?_
            rintro e w5 ⟨rfl, rfl⟩
            rw [HG.out.1]
            go_wp2_with fail
            refine (Mul_spec x x _ ⟨by omega, by omega⟩).mono ?_
            rintro e w5 ⟨rfl, rfl⟩
            go_wp2_with fail
            refine (Set_spec hS4 hsm4 (by simp at hll; omega) _ _).mono ?_
            rintro e w6 ⟨rfl, hS6, hst6⟩
            rw [HG.out.2.1] at hS6
            have hst6 := hst4.trans hst6
            go_wp2_with fail
            exact ⟨⟨k2 + 1, by omega, by go_num, ⟨_, hS6, HG.out.2.2⟩, hst6⟩, by simp [intOf]; omega⟩
          · obtain rfl : k2 = few.length := by omega
            go_wp2_with fail
            clear hlt2
            have hundo := hext.undo (k := 0) rfl
            have hll := hext.len.2.2
            have HU := Lib.hid hundo
            clear hundo hext
            obtain ⟨wo, rfl⟩ : ∃ wo : World, wo = wr := ⟨_, rfl⟩
            go_loopw [8] (fun i wr' => ∃ k3 : Nat, k3 ≤ few.length ∧ i = .int .i64 k3 ∧ ∃ n, wr' = wo.drewN n) (fun i _ => few.length - (intOf i).toNat)
            case atStart => exact ⟨0, Nat.zero_le _, rfl, 0, rfl⟩
            case round =>
              obtain ⟨k3, hk3, rfl, hwr⟩ := hrel
              have hS5 : Sep wr [mem (.pointer (some ⟨p0, 0, none⟩)) (sqTo few few.length) 0 log, rowI (.slice ao few.length co) few, old w] := by
                obtain ⟨n4, rfl⟩ := hwr; exact hS4.drewN n4
              have hst5 : Stable w wr := by obtain ⟨n4, rfl⟩ := hwr; exact hst4.drewN n4
              have HWR := Lib.hid hwr
              clear hwr
              by_cases hlt3 : k3 < few.length
              · have hgk : getC (sqTo few few.length) (k3 : Int) = few.getD k3 0 * few.getD k3 0 / 1024 := by
                  have hh : hasB (sqTo few few.length) (k3 : Int) = true := by rw [hasB_iff, sqTo_length]; omega
                  rw [getC, if_pos hh, Int.toNat_natCast, sqTo_get _ _ _ hlt3, if_pos hlt3]
                have hxk := HOK.out (few.getD k3 0) (by rw [show few.getD k3 0 = few[k3] by simp [List.getD, hlt3]]; exact List.getElem_mem hlt3)
                obtain ⟨gf, cf, hvf, _, _, hcf, _, _, _⟩ := (hS5.pick 1).rowAt (by omega)
                obtain rfl : ao = some ⟨gf, 0, none⟩ := by simpa using congrArg (fun v => match v with | Value.slice a _ _ => a | _ => none) hvf
                have xk := (hcf k3 (by rw [ints_length]; omega)).trans (ints_get _ _ hlt3)
                have HG := Lib.hid hgk
                clear hgk hvf hcf
                generalize few.getD k3 0 = x at *
                have hsq := sq_bound hxk.1 hxk.2
                have hw1 : IntKind.i64.wrap (x * x) = x * x := IntWalk.i64_in _ (by omega)
                have hw2 : (x * x).tdiv 1024 = x * x / 1024 := Int.tdiv_eq_ediv_of_nonneg hsq.1
                have hq : 0 ≤ x * x / 1024 ∧ x * x / 1024 ≤ 281474976710656 := ⟨by omega, by omega⟩
                have hw3 : IntKind.i64.wrap (x * x / 1024) = x * x / 1024 := IntWalk.i64_in _ (by omega)
                have hget : ∀ n, Calls Try.prog 21 #[.pointer (some ⟨p0, 0, none⟩), i64 (k3 : Int)] (wr.drewN n) fun e w' => e = .returned (i64 (x * x / 1024)) ∧ wr.drewN n = w' := fun n => by
                  have := Get_spec (hS5.drewN n) hsm4 (k3 : Int)
                  rwa [HG.out] at this
                have HGET := Lib.hid hget
                clear hget
                go_wp2_with fail
                go_quiet ((go_at_call 21; exact quiet_of_eq (HGET.out _)))
                go_wp2_with fail
                obtain ⟨n4, h4⟩ := HWR.out
                exact ⟨⟨k3 + 1, by omega, by go_num, by rw [h4]; exact ⟨_, World.drewN_drewN _ _ _⟩⟩, by simp [intOf]; omega⟩
              · obtain rfl : k3 = few.length := by omega
                clear hlt3
                go_wp2_with fail
                refine (Undo_ok hS5 hsm4 0 (by omega) (by omega)).mono ?_
                rintro e w7 ⟨rfl, hS7, hst7⟩
                have hu := HU.out
                rw [show ((0 : Int) - 0).toNat = 0 from rfl, hu.1, hu.2] at hS7
                have hst7 := hst5.trans hst7
                clear hu
                go_wp2_with fail
                refine (Cells_spec hS7 hsm).mono ?_
                rintro e w8 ⟨vd, rfl, hS8, hst8⟩
                have hst8 := hst7.trans hst8
                go_wp2_with fail
                refine (SameInts_spec hS8.reads (hS8.pick 2).reads (by omega) (by omega)).mono ?_
                rintro e w9 ⟨rfl, n9, rfl⟩
                rw [sameE_self]
                have hS9 := hS8.drewN n9
                have hst9 := hst8.drewN n9
                generalize w8.drewN n9 = w9 at hS9 hst9 ⊢
                go_wp2_with fail
                refine (lives_spec hS9).mono ?_
                rintro e w10 ⟨rfl, hS10, hst10⟩
                have hst10 := hst9.trans hst10
                go_wp2_with fail
                go_ret
                exact ⟨rfl, (hS10.pick 3).below hst10⟩

end Go.Proofs.Ytcpicaalponnlaa
