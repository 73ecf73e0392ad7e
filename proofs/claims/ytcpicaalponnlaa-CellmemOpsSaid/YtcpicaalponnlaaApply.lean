/- The law package's helpers: apply, built. -/
import Derived.Test.YtcpicaalponnlaaLives
import Derived.Test.YtcpicaalponnlaaOps
namespace Go.Proofs.Ytcpicaalponnlaa
open Go.RowKit Go.Sl

variable {w : World} {L : List Asn} {p : Value} {cs : List Int} {base : Int} {log : List (Int × Int)}

/-- Cells, base and log of a memory. -/
abbrev MS := List Int × Int × List (Int × Int)
def undoS (s : MS) (n : Int) : MS := if chk s.2.1 s.2.2 n = 0 then (undoC s.1 (s.2.2.drop (n - s.2.1).toNat), s.2.1, s.2.2.take (n - s.2.1).toNat) else s
def discS (s : MS) (n : Int) : MS := if chk s.2.1 s.2.2 n = 0 then (s.1, n, s.2.2.drop (n - s.2.1).toNat) else s
def chgS (s : MS) (n : Int) : List Int := if chk s.2.1 s.2.2 n = 0 then changedL s.1 (s.2.2.drop (n - s.2.1).toNat) else []
def setS (s : MS) (i v : Int) : MS := (setC s.1 i v, s.2.1, setL s.1 s.2.2 i)
def applyS (s : MS) (o : OpT) : MS := if o.1 = 1 then undoS s o.2.1 else if o.1 = 2 then discS s o.2.1 else if o.1 = 3 then s else setS s o.2.1 o.2.2
def applyR (s : MS) (o : OpT) : List Int := if o.1 = 3 then chgS s o.2.1 else []
def applyE (s : MS) (o : OpT) : Int := if o.1 = 1 ∨ o.1 = 2 ∨ o.1 = 3 then chk s.2.1 s.2.2 o.2.1 else 0
abbrev memS (p : Value) (s : MS) : Asn := mem p s.1 s.2.1 s.2.2
abbrev SmallS (s : MS) : Prop := Small s.1 s.2.1 s.2.2

theorem chk_zero {base : Int} {log : List (Int × Int)} {n : Int} (h : chk base log n = 0) : base ≤ n ∧ n ≤ base + log.length := by
  unfold chk at h
  split at h
  · omega
  · split at h <;> omega

theorem UndoS_spec {s : MS} (hS : Sep w (memS p s :: L)) (hb : SmallS s) (n : Int) :
    Calls Try.prog 25 #[p, i64 n] w fun e w' => e = .returned (i64 (chk s.2.1 s.2.2 n)) ∧ Sep w' (memS p (undoS s n) :: L) ∧ Stable w w' := by
  by_cases h : chk s.2.1 s.2.2 n = 0
  · have := chk_zero h
    refine (Undo_ok hS hb n this.1 this.2).mono ?_
    rintro e w' ⟨rfl, h1, h2⟩
    exact ⟨by rw [h], by unfold undoS; rw [if_pos h]; exact h1, h2⟩
  · refine (Undo_no hS hb n h).mono ?_
    rintro e w' ⟨rfl, h1, h2⟩
    exact ⟨rfl, by unfold undoS; rw [if_neg h]; exact h1, h2⟩
theorem DiscS_spec {s : MS} (hS : Sep w (memS p s :: L)) (hb : SmallS s) (n : Int) :
    Calls Try.prog 30 #[p, i64 n] w fun e w' => e = .returned (i64 (chk s.2.1 s.2.2 n)) ∧ Sep w' (memS p (discS s n) :: L) ∧ Stable w w' := by
  by_cases h : chk s.2.1 s.2.2 n = 0
  · have := chk_zero h
    refine (Discard_ok hS hb n this.1 this.2).mono ?_
    rintro e w' ⟨rfl, h1, h2⟩
    exact ⟨by rw [h], by unfold discS; rw [if_pos h]; exact h1, h2⟩
  · refine (Discard_no hS hb n h).mono ?_
    rintro e w' ⟨rfl, h1, h2⟩
    exact ⟨rfl, by unfold discS; rw [if_neg h]; exact h1, h2⟩
theorem ChgS_spec {s : MS} (hS : Sep w (memS p s :: L)) (hb : SmallS s) (n : Int) :
    Calls Try.prog 17 #[p, i64 n] w fun e w' => ∃ v, e = .returned (.tuple #[v, i64 (chk s.2.1 s.2.2 n)]) ∧ Sep w' (rowI v (chgS s n) :: memS p s :: L) ∧ Stable w w' := by
  by_cases h : chk s.2.1 s.2.2 n = 0
  · have := chk_zero h
    refine (Changed_ok hS hb n this.1 this.2).mono ?_
    rintro e w' ⟨v, rfl, h1, h2⟩
    exact ⟨v, by rw [h], by unfold chgS; rw [if_pos h]; exact h1, h2⟩
  · refine (Changed_no hS hb n h).mono ?_
    rintro e w' ⟨rfl, h1, h2⟩
    exact ⟨_, rfl, by unfold chgS; rw [if_neg h]; exact h1.addNil _ _, h2⟩

set_option maxHeartbeats 1000000 in
theorem apply_spec {s : MS} (hS : Sep w (memS p s :: L)) (hb : SmallS s) (hl : s.2.2.length < 1000000000000) (o : OpT) :
    Calls Try.prog 36 #[p, .agg #[i64 o.1, i64 o.2.1, i64 o.2.2]] w fun e w' => ∃ v, e = .returned (.tuple #[v, i64 (applyE s o)]) ∧
      Sep w' (rowI v (applyR s o) :: memS p (applyS s o) :: L) ∧ Stable w w' := by
  obtain ⟨d, n, x⟩ := o
  have hS0 := hS.allocBeside (.cells #[i64 d, i64 n, i64 x] 55)
  have hst0 := (Stable.refl w).alloc (.cells #[i64 d, i64 n, i64 x] 55)
  have hU := UndoS_spec hS0 hb n
  have hD := DiscS_spec hS0 hb n
  have hC := ChgS_spec hS0 hb n
  have hSt := Set_spec hS0 hb hl n x
  have HU := Lib.hid hU
  have HD := Lib.hid hD
  have HC := Lib.hid hC
  have HS := Lib.hid hSt
  obtain ⟨p0, _, _, _, _, rfl, _⟩ := mem_cells hS
  clear hU hD hC hSt hS hS0 hb hl
  by_cases h1 : d = 1
  · subst h1
    go_enter Try.func36, Try.ntmps36
    go_wp2_with fail
    refine HU.out.mono ?_
    rintro e w' ⟨rfl, hS1, hst1⟩
    go_wp2_with fail
    go_ret2
    exact ⟨_, rfl, hS1.addNil _ _, hst0.trans hst1⟩
  · by_cases h2 : d = 2
    · subst h2
      go_enter Try.func36, Try.ntmps36
      go_wp2_with fail
      refine HD.out.mono ?_
      rintro e w' ⟨rfl, hS1, hst1⟩
      go_wp2_with fail
      go_ret2
      exact ⟨_, rfl, hS1.addNil _ _, hst0.trans hst1⟩
    · by_cases h3 : d = 3
      · subst h3
        go_enter Try.func36, Try.ntmps36
        go_wp2_with fail
        refine HC.out.mono ?_
        rintro e w' ⟨v, rfl, hS1, hst1⟩
        go_wp2_with fail
        go_ret2
        exact ⟨_, rfl, hS1, hst0.trans hst1⟩
      · have e1 : applyS s (d, n, x) = setS s n x := by simp [applyS, h1, h2, h3]
        have e2 : applyR s (d, n, x) = [] := by simp [applyR, h3]
        have e3 : applyE s (d, n, x) = 0 := by simp [applyE, h1, h2, h3]
        rw [e1, e2, e3]
        have b1 : (d == 1) = false := by simpa using h1
        have b2 : (d == 2) = false := by simpa using h2
        have b3 : (d == 3) = false := by simpa using h3
        clear e1 e2 e3 h1 h2 h3
        go_enter Try.func36, Try.ntmps36
        go_wp2_with fail
        refine HS.out.mono ?_
        rintro e w' ⟨rfl, hS1, hst1⟩
        go_wp2_with fail
        go_ret2
        exact ⟨_, rfl, hS1.addNil _ _, hst0.trans hst1⟩

/-- What holds of a memory of six cells after at most k operations. -/
def InvS (s : MS) (k : Nat) : Prop := s.1.length = 6 ∧ 0 ≤ s.2.1 ∧ s.2.1 + s.2.2.length ≤ k ∧ ∀ x ∈ s.2.2, hasB s.1 x.1 = true
theorem InvS.small {s : MS} {k : Nat} (h : InvS s k) (hk : k ≤ 1000000) : SmallS s := ⟨by have := h.1; omega, h.2.1, by have := h.2.2.1; omega, h.2.2.2⟩
theorem InvS.start (cells : List Int) : InvS (sixL cells, 0, []) 0 := ⟨sixL_length cells, by simp, by simp, by simp⟩
theorem InvS.undo {s : MS} {k : Nat} (h : InvS s k) (n : Int) : InvS (undoS s n) k := by
  unfold undoS
  split
  · rename_i hc
    have := chk_zero hc
    refine ⟨by simp [undoC_length, h.1], h.2.1, ?_, fun x hx => ?_⟩
    · have := h.2.2.1; simp only [List.length_take]; omega
    · rw [hasB_congr (cs' := s.1) (by simp [undoC_length])]
      exact h.2.2.2 x (List.mem_of_mem_take hx)
  · exact h
theorem InvS.disc {s : MS} {k : Nat} (h : InvS s k) (n : Int) : InvS (discS s n) k := by
  unfold discS
  split
  · rename_i hc
    have := chk_zero hc
    have h2 := h.2.1
    refine ⟨h.1, show 0 ≤ n by omega, ?_, fun x hx => h.2.2.2 x (List.mem_of_mem_drop hx)⟩
    have := h.2.2.1
    simp only [List.length_drop]; omega
  · exact h
theorem InvS.mono {s : MS} {k k' : Nat} (h : InvS s k) (hk : k ≤ k') : InvS s k' := ⟨h.1, h.2.1, by have := h.2.2.1; omega, h.2.2.2⟩
theorem InvS.set {s : MS} {k : Nat} (h : InvS s k) (i v : Int) : InvS (setS s i v) (k + 1) := by
  obtain ⟨cs, base, log⟩ := s
  obtain ⟨h1, h2, h3, h4⟩ := h
  dsimp only at h1 h2 h3 h4
  refine ⟨by simp only [setS]; rw [setC_length]; exact h1, h2, ?_, fun x hx => ?_⟩
  · simp only [setS, setL]
    split <;> (try simp only [List.length_append, List.length_cons, List.length_nil]) <;> omega
  · simp only [setS] at hx ⊢
    rw [hasB_congr (setC_length cs i v)]
    unfold setL at hx
    split at hx
    · rename_i hh
      rcases List.mem_append.1 hx with hx | hx
      · exact h4 x hx
      · obtain rfl : x = _ := by simpa using hx
        exact hh
    · exact h4 x hx
theorem InvS.apply {s : MS} {k : Nat} (h : InvS s k) (o : OpT) : InvS (applyS s o) (k + 1) := by
  unfold applyS
  split
  · exact (h.undo _).mono (by omega)
  · split
    · exact (h.disc _).mono (by omega)
    · split
      · exact h.mono (by omega)
      · exact h.set _ _

/-- The memory after the first k operations made from l. -/
def upS (cells l : List Int) (k : Nat) : MS := ((opsL l).take k).foldl applyS (sixL cells, 0, [])
abbrev builtS (cells l : List Int) : MS := (opsL l).foldl applyS (sixL cells, 0, [])
theorem upS_succ (cells l : List Int) (k : Nat) (h : k < (opsL l).length) : upS cells l (k + 1) = applyS (upS cells l k) ((opsL l).getD k (0, 0, 0)) := by
  unfold upS
  rw [List.take_succ_eq_append_getElem h, List.foldl_append]
  simp [List.getD, h]
theorem upS_inv (cells l : List Int) : ∀ (k : Nat), k ≤ (opsL l).length → InvS (upS cells l k) k
  | 0, _ => InvS.start cells
  | k + 1, h => by rw [upS_succ cells l k (by omega)]; exact (upS_inv cells l k (by omega)).apply _
theorem upS_end (cells l : List Int) : upS cells l (opsL l).length = builtS cells l := by unfold upS; rw [List.take_length]
theorem opsL_length (l : List Int) : (opsL l).length ≤ 30 := by
  by_cases h : 30 ≤ l.length
  · have := (opsUp_ok l 30 h).1; show (opsUp l 30).1.length ≤ 30; omega
  · have h2 := opsUp_end l l.length (.inl ⟨rfl, by omega⟩)
    rw [← h2, (opsUp_ok l l.length (Nat.le_refl _)).1]; omega
theorem built_inv (cells l : List Int) : InvS (builtS cells l) 30 := by
  rw [← upS_end]; exact (upS_inv cells l _ (Nat.le_refl _)).mono (opsL_length l)

set_option maxRecDepth 100000 in
set_option maxHeartbeats 2000000 in
theorem built_spec {u v : Value} {cells l : List Int} (hu : readsI w u cells) (bu : cells.length ≤ 9223372036854775807) (hv : readsI w v l) (bv : l.length ≤ 9223372036854775807) (wv : ∀ x ∈ l, inI64 x) :
    Calls Try.prog 27 #[u, v] w fun e w' => ∃ p0, e = .returned (.pointer (some ⟨p0, 0, none⟩)) ∧ Sep w' [memS (.pointer (some ⟨p0, 0, none⟩)) (builtS cells l), old w] ∧ Stable w w' := by
  obtain ⟨au, cu, rfl⟩ := readsI_len hu
  obtain ⟨av, cv, rfl⟩ := readsI_len hv
  have HU := Lib.hid hu
  have HV := Lib.hid hv
  clear hu hv
  go_enter Try.func27, Try.ntmps27
  go_wp2_with fail
  refine (six_spec HU.out bu).mono ?_
  rintro e w1 ⟨v1, rfl, hS1, hst1⟩
  go_wp2_with fail
  refine (New_spec hS1.reads (by rw [sixL_length]; omega)).mono ?_
  rintro e w2 ⟨p, rfl, hS2, hst2, hp⟩
  have hS2 := (hS1.mount hS2)
  have hS2 := (hS2.pick 1).drop
  have hst2 := hst1.trans hst2
  obtain ⟨p0, _, _, _, _, rfl, _⟩ := mem_cells hS2
  clear hp hS1 hst1
  go_wp2_with fail
  refine (Ops_spec (HV.out.of_heap (hS2.pick 1).oldGet) bv wv).mono ?_
  rintro e w3 ⟨v3, rfl, hS3, hst3⟩
  have hS3 := (hS2.mount (hS3.pick 1)).pick 1
  have hst3 := hst2.trans hst3
  have hol := opsL_length l
  obtain ⟨ao, co, rfl, _⟩ := (hS3.pick 1).rowShape
  clear hS2 hst2
  go_wp2_with fail
  go_loopw [7] (fun i wr => ∃ k : Nat, k ≤ (opsL l).length ∧ i = .int .i64 k ∧ Sep wr [memS (.pointer (some ⟨p0, 0, none⟩)) (upS cells l k), rowO (.slice ao (opsL l).length co) (opsL l), old w] ∧ Stable w wr) (fun i _ => (opsL l).length - (intOf i).toNat)
  case atStart => exact ⟨0, Nat.zero_le _, rfl, hS3, hst3⟩
  case round =>
    clear hS3 hst3
    obtain ⟨k, hk, rfl, hSr, hst⟩ := hrel
    have hinv := upS_inv cells l k hk
    by_cases hlt : k < (opsL l).length
    · obtain ⟨g, cap, hv', _, _, hgc, _, _, _⟩ := (hSr.pick 1).rowAt (by omega)
      obtain rfl : ao = some ⟨g, 0, none⟩ := by simpa using congrArg (fun v => match v with | Value.slice a _ _ => a | _ => none) hv'
      obtain ⟨o1, o2, o3⟩ := ocells_get (opsL l) k hlt
      have c1 := (hgc (k * 3) (by rw [ocells_length]; omega)).trans o1
      have c2 := (hgc (k * 3 + 1) (by rw [ocells_length]; omega)).trans o2
      have c3 := (hgc (k * 3 + 2) (by rw [ocells_length]; omega)).trans o3
      have hsuc := upS_succ cells l k hlt
      have hap := apply_spec hSr (hinv.small (by omega)) (by have := hinv.2.2.1; have := hinv.2.1; omega) ((opsL l).getD k (0, 0, 0))
      rw [← hsuc] at hap
      have HAP := Lib.hid hap
      have HST := Lib.hid hst
      clear hv' hgc o1 o2 o3 hsuc hap hst hSr hinv
      generalize (opsL l).getD k (0, 0, 0) = o at *
      obtain ⟨d, n, x⟩ := o
      dsimp only at c1 c2 c3
      go_wp2_with fail
      refine HAP.out.mono ?_
      rintro e w4 ⟨v4, rfl, hS4, hst4⟩
      have hst4 := HST.out.trans hst4
      go_wp2_with fail
      exact ⟨⟨k + 1, by omega, by go_num, hS4.drop, hst4⟩, by simp [intOf]; omega⟩
    · obtain rfl : k = (opsL l).length := by omega
      rw [upS_end] at hSr
      clear hinv
      go_wp2_with fail
      go_ret
      exact ⟨p0, rfl, ((hSr.pick 1).drop), hst⟩

end Go.Proofs.Ytcpicaalponnlaa
