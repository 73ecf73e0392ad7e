/- The walk of the law CellmemUndo. -/
import Derived.Test.YtcpicaalponnlaaApply
import Derived.Test.YtcpicaalponnlaaOpen
namespace Go.Proofs.Ytcpicaalponnlaa
open Go.RowKit Go.Sl

variable {w : World} {L : List Asn}

theorem readsP_len {v : Value} {l : List (Int × Int)} (h : readsP w v l) : ∃ a c, v = .slice a l.length c := by
  obtain ⟨a, cap, hv, _⟩ := h.shape
  exact ⟨a, cap, hv⟩
theorem readsP_at {v : Value} {l : List (Int × Int)} (h : readsP w v l) (hl : 0 < l.length) : ∃ b off cap, v = .slice (some ⟨b, off, none⟩) l.length cap ∧ l.length ≤ cap ∧ cap ≤ maxLen ∧
    ∀ i, i < l.length → w.cell? ⟨b, off + i * 2, none⟩ = some (i64 (l.getD i (0, 0)).1) ∧ w.cell? ⟨b, off + i * 2 + 1, none⟩ = some (i64 (l.getD i (0, 0)).2) := by
  rcases h.2 with ⟨hn, _⟩ | ⟨b, off, cap, rfl, h1, h2, h3⟩
  · omega
  · refine ⟨b, off, cap, rfl, h1, h2, fun i hi => ?_⟩
    have e := ents_get l i hi
    exact ⟨(h3 (i * 2) (by rw [ents_length]; omega)).trans e.1, (h3 (i * 2 + 1) (by rw [ents_length]; omega)).trans e.2⟩

/-- The memory after the first k calls of Set that the numbers say. -/
def setsS (s : MS) (more : List (Int × Int)) (k : Nat) : MS := (more.take k).foldl (fun s x => setS s (around x.1 6) x.2) s
theorem setsS_succ (s : MS) (more : List (Int × Int)) (k : Nat) (h : k < more.length) : setsS s more (k + 1) = setS (setsS s more k) (around (more.getD k (0, 0)).1 6) (more.getD k (0, 0)).2 := by
  unfold setsS
  rw [List.take_succ_eq_append_getElem h, List.foldl_append]
  simp [List.getD, h]
theorem setsS_ext (s : MS) (more : List (Int × Int)) : ∀ k, k ≤ more.length → Ext s.1 s.2.2 (setsS s more k).1 (setsS s more k).2.2 k ∧ (setsS s more k).2.1 = s.2.1
  | 0, _ => by
    have : setsS s more 0 = s := by simp [setsS]
    rw [this]; exact ⟨Ext.refl _ _, rfl⟩
  | k + 1, h => by
    have := setsS_ext s more k (by omega)
    rw [setsS_succ s more k (by omega)]
    exact ⟨this.1.set _ _, this.2⟩

set_option maxRecDepth 100000 in
set_option maxHeartbeats 4000000 in
theorem cellmemUndo_walk {u v x : Value} {cells l : List Int} {more : List (Int × Int)} (hu : readsI w u cells) (bu : cells.length ≤ 9223372036854775807) (_ : ∀ x ∈ cells, inI64 x)
    (hv : readsI w v l) (bv : l.length ≤ 9223372036854775807) (wv : ∀ x ∈ l, inI64 x) (hx : readsP w x more) (bx : more.length ≤ 9223372036854775807) (wx : ∀ x ∈ more, inI64 x.1 ∧ inI64 x.2) :
    Calls Try.prog 9 #[u, v, x] w fun e w' => e = .returned (.bool true) ∧ Below w.heap.size w w' := by
  obtain ⟨au, cu, rfl⟩ := readsI_len hu
  obtain ⟨av, cv, rfl⟩ := readsI_len hv
  obtain ⟨ax, cx, rfl⟩ := readsP_len hx
  have HU := Lib.hid hu
  have HV := Lib.hid hv
  have HX := Lib.hid hx
  have WX := Lib.hid wx
  have hinv := built_inv cells l
  clear hu hv hx wx
  go_enter Try.func9, Try.ntmps9
  go_wp2_with fail
  refine (built_spec HU.out bu HV.out bv wv).mono ?_
  rintro e w1 ⟨p0, rfl, hS1, hst1⟩
  generalize builtS cells l = s0 at *
  have hsm := hinv.small (by omega)
  have hlen6 := hinv.1
  clear HU HV bu bv wv
  go_wp2_with fail
  refine (Cells_spec hS1 hsm).mono ?_
  rintro e w2 ⟨v2, rfl, hS2, hst2⟩
  have hS2 := hS2.pick 1
  have hst2 := hst1.trans hst2
  clear hS1 hst1
  go_wp2_with fail
  refine (Mark_spec hS2 hsm).mono ?_
  rintro e w3 ⟨rfl, n3, rfl⟩
  have hS3 := hS2.drewN n3
  have hst3 := hst2.drewN n3
  clear hS2 hst2
  generalize w2.drewN n3 = w3 at hS3 hst3 ⊢
  go_wp2_with fail
  refine (Logged_spec hS3 hsm).mono ?_
  rintro e w4 ⟨rfl, rfl⟩
  go_wp2_with fail
  go_loopw [11] (fun i wr => ∃ k : Nat, k ≤ more.length ∧ k ≤ 20 ∧ i = .int .i64 k ∧ Sep wr [memS (.pointer (some ⟨p0, 0, none⟩)) (setsS s0 more k), rowI v2 s0.1, old w] ∧ Stable w wr) (fun i _ => 20 - (intOf i).toNat)
  case atStart => exact ⟨0, Nat.zero_le _, by omega, rfl, hS3, hst3⟩
  case round =>
    clear hS3 hst3
    obtain ⟨k, hk, hk20, rfl, hSr, hst⟩ := hrel
    have hext := setsS_ext s0 more k hk
    have hpos := hinv.2.2.1
    have hlow := hinv.2.1
    have hsmk : SmallS (setsS s0 more k) := by
      have := hext.1.small (base := s0.2.1) hsm (by omega)
      rw [← hext.2] at this; exact this
    by_cases hlt : k < more.length ∧ k < 20
    · obtain ⟨hlt, hlt20⟩ := hlt
      obtain ⟨b, off, cap, hv, _, _, hc⟩ := readsP_at HX.out (by omega)
      obtain ⟨rfl, rfl⟩ : ax = some ⟨b, off, none⟩ ∧ cx = cap := by simpa using hv
      obtain ⟨hc1, hc2⟩ := hc k hlt
      have hbl := World.block_lt_of_cell? w _ hc1
      have hold := (hSr.pick 2).oldGet b hbl
      have c1 : wr.cell? ⟨b, off + k * 2, none⟩ = _ := (World.cell?_of_block (a := ⟨b, off + k * 2, none⟩) hold).trans hc1
      have c2 : wr.cell? ⟨b, off + k * 2 + 1, none⟩ = _ := (World.cell?_of_block (a := ⟨b, off + k * 2 + 1, none⟩) hold).trans hc2
      have hxw := WX.out (more.getD k (0, 0)) (by rw [show more.getD k (0, 0) = more[k] by simp [List.getD, hlt]]; exact List.getElem_mem hlt)
      have HSM := Lib.hid hsmk
      have hll : (setsS s0 more k).2.2.length < 1000000000000 := by have := hext.1.len.2.2; omega
      have HLL := Lib.hid hll
      have hsuc := setsS_succ s0 more k hlt
      have HSUC := Lib.hid hsuc
      have HST := Lib.hid hst
      clear hv hc hc1 hc2 hold hsuc hll hst hsmk hext
      generalize more.getD k (0, 0) = y at *
      obtain ⟨y1, y2⟩ := y
      dsimp only at *
      have har := Around_spec y1 6 wr.drew (by omega) (by omega) hxw.1
      have HAR := Lib.hid har
      clear har
      generalize around y1 6 = z at *
      go_wp2_with fail
      go_still_tail 12, (by kernel_rfl)
      still_call (still_of_eq HAR.out)
      repeat still_step
      refine wpStill_nil ?_
      change wpList _ _ _ _ _ wr.drew
      have HSET2 := Lib.hid (Set_spec hSr.drew HSM.out HLL.out z y2)
      go_wp2_with fail
      refine HSET2.out.mono ?_
      rintro e w5 ⟨rfl, hS5, hst5⟩
      have hst5 := HST.out.drew.trans hst5
      go_wp2_with fail
      refine ⟨⟨k + 1, by omega, by omega, by go_num, ?_, hst5⟩, by simp [intOf]; omega⟩
      rw [HSUC.out]
      exact hS5
    · have hundo := hext.1.undo (k := s0.2.2.length) rfl
      have hb2 := hext.2
      have hll := hext.1.len
      have HU := Lib.hid (And.intro hundo (And.intro hb2 hll))
      clear hundo hb2 hll hext
      have hcase : (k < more.length ∧ k = 20) ∨ (k = more.length ∧ k ≤ 20) := by omega
      clear hlt
      rcases hcase with ⟨hd1, hd2⟩ | ⟨hd1, hd2⟩
      all_goals
        go_wp2_with fail
        refine (UndoS_spec hSr hsmk _).mono ?_
        rintro e w5 ⟨rfl, hS5, hst5⟩
        have hu := HU.out
        have hz : chk (setsS s0 more k).2.1 (setsS s0 more k).2.2 (s0.2.1 + s0.2.2.length) = 0 := by
          unfold chk; rw [hu.2.1, if_neg (by omega), if_neg (by omega)]
        have hres : undoS (setsS s0 more k) (s0.2.1 + s0.2.2.length) = s0 := by
          unfold undoS
          rw [if_pos hz, hu.2.1, show (s0.2.1 + (s0.2.2.length : Int) - s0.2.1).toNat = s0.2.2.length by omega, hu.1.1, hu.1.2]
        rw [hz]
        rw [hres] at hS5
        have hst5 := hst.trans hst5
        clear hu hz hres hSr hst hsmk
        go_wp2_with fail
        refine (Cells_spec hS5 hsm).mono ?_
        rintro e w6 ⟨v6, rfl, hS6, hst6⟩
        have hst6 := hst5.trans hst6
        go_wp2_with fail
        refine (SameInts_spec hS6.reads (hS6.pick 2).reads (by omega) (by omega)).mono ?_
        rintro e w7 ⟨rfl, n7, rfl⟩
        rw [sameE_self]
        have hS7 := (hS6.pick 1).drewN n7
        have hst7 := hst6.drewN n7
        generalize w6.drewN n7 = w7 at hS7 hst7 ⊢
        go_wp2_with fail
        refine (Mark_spec hS7 hsm).mono ?_
        rintro e w8 ⟨rfl, n8, rfl⟩
        have hS8 := hS7.drewN n8
        have hst8 := hst7.drewN n8
        generalize w7.drewN n8 = w8 at hS8 hst8 ⊢
        go_wp2_with fail
        refine (Logged_spec hS8 hsm).mono ?_
        rintro e w9 ⟨rfl, rfl⟩
        go_wp2_with fail
        refine (lives_spec hS8).mono ?_
        rintro e w10 ⟨rfl, hS10, hst10⟩
        have hst10 := hst8.trans hst10
        go_wp2_with fail
        go_ret
        exact ⟨rfl, (hS10.pick 3).below hst10⟩

end Go.Proofs.Ytcpicaalponnlaa
