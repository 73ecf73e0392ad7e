/- The walk of the law CellmemBounds. -/
import Derived.Test.YtcpicaalponnlaaLives
namespace Go.Proofs.Ytcpicaalponnlaa
open Go.RowKit Go.Sl

variable {w : World} {L : List Asn}

set_option maxRecDepth 100000 in
set_option maxHeartbeats 2000000 in
theorem bounds_in {u : Value} {cells : List Int} {i v : Int} (hu : readsI w u cells) (bu : cells.length ≤ 9223372036854775807) (h0 : 0 ≤ i) (h1 : i < (cells.take 8).length) :
    Calls Try.prog 4 #[u, i64 i, i64 v] w fun e w' => e = .returned (.bool true) ∧ Below w.heap.size w w' := by
  obtain ⟨au, cu, rfl⟩ := readsI_len hu
  have HU := Lib.hid hu
  clear hu
  have h8 : (cells.take 8).length ≤ 8 := by rw [List.length_take]; omega
  go_enter Try.func4, Try.ntmps4
  go_wp2_with fail
  refine (Ints_spec 8 HU.out bu (by omega)).mono ?_
  rintro e w1 ⟨v1, rfl, hS1, hst1⟩
  clear HU bu
  generalize cells.take 8 = few at *
  have hS1 := hS1.pick 1
  obtain ⟨g1, c1, rfl, _, _, hc1, _, _, _⟩ := hS1.rowAt (by omega)
  have x1 := (hc1 i.toNat (by rw [ints_length]; omega)).trans (ints_get _ _ (by omega))
  have hgv : getC few i = few.getD i.toNat 0 := by simp [getC, hasB, h0, h1]
  have hhas : hasB few i = true := by rw [hasB_iff]; omega
  have e1 : setC few i v = few.set i.toNat v := by simp [setC, hhas]
  have e2 : setL few [] i = [(i, few.getD i.toNat 0)] := by simp [setL, hhas]
  have hsm : Small few 0 [] := ⟨by omega, by omega, by simp, by simp⟩
  have hsm2 : Small (few.set i.toNat v) 0 [(i, few.getD i.toNat 0)] := ⟨by rw [List.length_set]; omega, by omega, by simp, by
    intro x hx
    obtain rfl : x = _ := by simpa using hx
    rw [hasB_iff, List.length_set]; omega⟩
  have hg2 : getC (few.set i.toNat v) i = v := by
    have : hasB (few.set i.toNat v) i = true := by rw [hasB_iff, List.length_set]; omega
    simp only [getC, this, if_true, List.getD]
    rw [List.getElem?_set_self (by omega)]; rfl
  have HE := Lib.hid (And.intro hgv (And.intro e1 (And.intro e2 hg2)))
  clear hc1 hgv e1 e2 hg2 hhas
  go_wp2_with fail
  refine (New_spec hS1.reads (by omega)).mono ?_
  rintro e w2 ⟨p, rfl, hS2, hst2, hp⟩
  have hS2 := hS1.mount hS2
  have hst2 := hst1.trans hst2
  obtain ⟨p0, _, _, _, _, rfl, _⟩ := mem_cells hS2
  have x2 : w2.cell? ⟨g1, i.toNat, none⟩ = some (i64 (few.getD i.toNat 0)) := by
    obtain ⟨g, c, hv, _, _, hc, _, _, _⟩ := (hS2.pick 1).rowAt (by omega)
    obtain rfl : g1 = g := by simpa using congrArg (fun v => match v with | Value.slice (some a) _ _ => a.block | _ => 0) hv
    exact (hc i.toNat (by rw [ints_length]; omega)).trans (ints_get _ _ (by omega))
  clear hp x1
  generalize hz : few.getD i.toNat 0 = z at *
  clear hz
  go_wp2_with fail
  refine (Get_spec hS2 hsm i).mono ?_
  rintro e w3 ⟨rfl, rfl⟩
  rw [HE.out.1]
  go_wp2_with fail
  refine (Set_spec hS2 hsm (by decide) i v).mono ?_
  rintro e w4 ⟨rfl, hS4, hst4⟩
  rw [HE.out.2.1, HE.out.2.2.1] at hS4
  have hst4 := hst2.trans hst4
  clear x2
  go_wp2_with fail
  refine (Len_spec hS4 hsm2).mono ?_
  rintro e w5 ⟨rfl, rfl⟩
  rw [List.length_set]
  go_wp2_with fail
  refine (Mark_spec hS4 hsm2).mono ?_
  rintro e w6 ⟨rfl, n6, rfl⟩
  rw [show (0 : Int) + (([(i, z)] : List (Int × Int)).length : Int) = 1 from rfl]
  have hS5 := hS4.drewN n6
  have hst5 := hst4.drewN n6
  generalize w4.drewN n6 = w5 at hS5 hst5 ⊢
  go_wp2_with fail
  refine (Mark_spec hS5 hsm2).mono ?_
  rintro e w6 ⟨rfl, n7, rfl⟩
  rw [show (0 : Int) + (([(i, z)] : List (Int × Int)).length : Int) = 1 from rfl]
  have hS6 := hS5.drewN n7
  have hst6 := hst5.drewN n7
  generalize w5.drewN n7 = w6 at hS6 hst6 ⊢
  go_wp2_with fail
  refine (Get_spec hS6 hsm2 i).mono ?_
  rintro e w7 ⟨rfl, rfl⟩
  rw [HE.out.2.2.2]
  go_wp2_with fail
  refine (lives_spec hS6).mono ?_
  rintro e w8 ⟨rfl, hS8, hst8⟩
  have hst8 := hst6.trans hst8
  go_wp2_with fail
  go_ret
  exact ⟨rfl, (hS8.pick 2).below hst8⟩

set_option maxRecDepth 100000 in
set_option maxHeartbeats 2000000 in
theorem bounds_out {u : Value} {cells : List Int} {i v : Int} (hu : readsI w u cells) (bu : cells.length ≤ 9223372036854775807) (hi : ¬ (0 ≤ i ∧ i < (cells.take 8).length)) :
    Calls Try.prog 4 #[u, i64 i, i64 v] w fun e w' => e = .returned (.bool true) ∧ Below w.heap.size w w' := by
  obtain ⟨au, cu, rfl⟩ := readsI_len hu
  have HU := Lib.hid hu
  clear hu
  have h8 : (cells.take 8).length ≤ 8 := by rw [List.length_take]; omega
  go_enter Try.func4, Try.ntmps4
  go_wp2_with fail
  refine (Ints_spec 8 HU.out bu (by omega)).mono ?_
  rintro e w1 ⟨v1, rfl, hS1, hst1⟩
  clear HU bu
  generalize cells.take 8 = few at *
  have hS1 := hS1.pick 1
  obtain ⟨a1, c1, rfl, _⟩ := hS1.rowShape
  have hhas : hasB few i = false := by simp only [hasB, decide_eq_false_iff_not]; exact hi
  have hgv : getC few i = 0 := by simp [getC, hhas]
  have e1 : setC few i v = few := by simp [setC, hhas]
  have e2 : setL few [] i = [] := by simp [setL, hhas]
  have hsm : Small few 0 [] := ⟨by omega, by omega, by simp, by simp⟩
  have HE := Lib.hid (And.intro hgv (And.intro e1 e2))
  have HR := Lib.hid hS1.reads
  clear hgv e1 e2 hhas
  have hcase : (i < 0 ∧ decide (0 ≤ i) = false) ∨ (0 ≤ i ∧ decide (i < (few.length : Int)) = false) := by simp only [decide_eq_false_iff_not]; omega
  clear hi
  rcases hcase with ⟨hs, hd⟩ | ⟨hs, hd⟩
  all_goals
    go_wp2_with fail
    refine (New_spec HR.out (by omega)).mono ?_
    rintro e w2 ⟨p, rfl, hS2, hst2, hp⟩
    have hS2 := hS1.mount hS2
    have hst2 := hst1.trans hst2
    obtain ⟨p0, _, _, _, _, rfl, _⟩ := mem_cells hS2
    clear hp
    go_wp2_with fail
    refine (Get_spec hS2 hsm i).mono ?_
    rintro e w3 ⟨rfl, rfl⟩
    rw [HE.out.1]
    go_wp2_with fail
    refine (Set_spec hS2 hsm (by decide) i v).mono ?_
    rintro e w4 ⟨rfl, hS4, hst4⟩
    rw [HE.out.2.1, HE.out.2.2] at hS4
    have hst4 := hst2.trans hst4
    go_wp2_with fail
    refine (Len_spec hS4 hsm).mono ?_
    rintro e w5 ⟨rfl, rfl⟩
    go_wp2_with fail
    refine (Mark_spec hS4 hsm).mono ?_
    rintro e w6 ⟨rfl, n6, rfl⟩
    rw [show (0 : Int) + (([] : List (Int × Int)).length : Int) = 0 from rfl]
    have hS5 := hS4.drewN n6
    have hst5 := hst4.drewN n6
    generalize w4.drewN n6 = w5 at hS5 hst5 ⊢
    go_wp2_with fail
    refine (Mark_spec hS5 hsm).mono ?_
    rintro e w6 ⟨rfl, n7, rfl⟩
    rw [show (0 : Int) + (([] : List (Int × Int)).length : Int) = 0 from rfl]
    have hS6 := hS5.drewN n7
    have hst6 := hst5.drewN n7
    generalize w5.drewN n7 = w6 at hS6 hst6 ⊢
    go_wp2_with fail
    refine (Cells_spec hS6 hsm).mono ?_
    rintro e w7 ⟨vd, rfl, hS7, hst7⟩
    have hst7 := hst6.trans hst7
    go_wp2_with fail
    refine (SameInts_spec hS7.reads (hS7.pick 2).reads (by omega) (by omega)).mono ?_
    rintro e w8 ⟨rfl, n8, rfl⟩
    rw [sameE_self]
    have hS8 := (hS7.pick 1).drewN n8
    have hst8 := hst7.drewN n8
    generalize w7.drewN n8 = w8 at hS8 hst8 ⊢
    go_wp2_with fail
    refine (Get_spec hS8 hsm i).mono ?_
    rintro e w9 ⟨rfl, rfl⟩
    rw [HE.out.1]
    go_wp2_with fail
    refine (lives_spec hS8).mono ?_
    rintro e w10 ⟨rfl, hS10, hst10⟩
    have hst10 := hst8.trans hst10
    go_wp2_with fail
    go_ret
    exact ⟨rfl, (hS10.pick 3).below hst10⟩

theorem cellmemBounds_walk {u : Value} {cells : List Int} {i v : Int} (hu : readsI w u cells) (bu : cells.length ≤ 9223372036854775807) (_ : ∀ x ∈ cells, inI64 x) (_ : inI64 i) (_ : inI64 v) :
    Calls Try.prog 4 #[u, i64 i, i64 v] w fun e w' => e = .returned (.bool true) ∧ Below w.heap.size w w' := by
  by_cases h : 0 ≤ i ∧ i < (cells.take 8).length
  · exact bounds_in hu bu h.1 h.2
  · exact bounds_out hu bu h

end Go.Proofs.Ytcpicaalponnlaa
