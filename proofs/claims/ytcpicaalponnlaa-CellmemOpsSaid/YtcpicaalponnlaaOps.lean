/- The reference's Ops: up to 30 operations made from numbers. -/
import Derived.Test.YtcpicaalponnlaaRef1
namespace Go.Proofs.Ytcpicaalponnlaa
open Go.RowKit Go.Sl

theorem infoO : (Try.prog.info? 55).map (fun i => (i.zero, i.size, i.bytes)) = some (some (.agg #[.int .i64 0, .int .i64 0, .int .i64 0]), 3, 24) := by kernel_rfl

abbrev OpT := Int × Int × Int
def ocells (l : List OpT) : List Value := l.flatMap fun o => [i64 o.1, i64 o.2.1, i64 o.2.2]
theorem ocells_length (l : List OpT) : (ocells l).length = l.length * 3 := by
  induction l with
  | nil => rfl
  | cons a l ih => simp only [ocells, List.flatMap_cons, List.length_append, List.length_cons, List.length_nil] at *; omega
theorem ocells_one (l : List OpT) : ∀ u ∈ ocells l, u.oneCell' = true := by
  intro u hu; obtain ⟨x, _, hx⟩ := List.mem_flatMap.1 hu; simp at hx; rcases hx with rfl | rfl | rfl <;> rfl
theorem ocells_get : ∀ (l : List OpT) (i : Nat), i < l.length → (ocells l)[i * 3]? = some (i64 (l.getD i (0, 0, 0)).1) ∧ (ocells l)[i * 3 + 1]? = some (i64 (l.getD i (0, 0, 0)).2.1) ∧ (ocells l)[i * 3 + 2]? = some (i64 (l.getD i (0, 0, 0)).2.2)
  | [], i, h => by simp at h
  | a :: l, 0, _ => by simp [ocells]
  | a :: l, i + 1, h => by
    have := ocells_get l i (by simpa using h)
    simp only [ocells, List.flatMap_cons, Nat.add_mul, Nat.one_mul] at *
    exact this
abbrev rowO (v : Value) (l : List OpT) : Asn := row 55 3 v l.length (ocells l)

theorem rowO_app {w : World} {L : List Asn} {v : Value} {l l' : List OpT} {n k : Nat} (h : Sep w (row 55 3 v (n + k) (ocells l ++ ocells l') :: L)) (hn : n = l.length) (hk : k = l'.length) : Sep w (rowO v (l ++ l') :: L) := by
  subst hn hk
  show Sep w (row 55 3 v (l ++ l').length (ocells (l ++ l')) :: L)
  rw [List.length_append, show ocells (l ++ l') = ocells l ++ ocells l' from List.flatMap_append]
  exact h

/-- The operation made from the number x at the position at, and the position behind it. -/
def opNext (s x : Int) : OpT × Int :=
  let n := around x 1000000
  if n % 16 < 2 then ((1, s - n / 16 % 5, n / 128 % 9 - 4), s)
  else if n % 16 = 2 then ((2, s - n / 16 % 7, n / 128 % 9 - 4), s)
  else if n % 16 < 5 then ((3, s + 1 - n / 16 % 8, n / 128 % 9 - 4), s)
  else ((0, n / 16 % 8 - 1, n / 128 % 9 - 4), s + 1)
def opsStep (s : List OpT × Int) (x : Int) : List OpT × Int := (s.1 ++ [(opNext s.2 x).1], (opNext s.2 x).2)
def opsUp (l : List Int) (k : Nat) : List OpT × Int := (l.take k).foldl opsStep ([], 0)
abbrev opsL (l : List Int) : List OpT := (opsUp l 30).1
theorem opsUp_succ (l : List Int) (k : Nat) (h : k < l.length) : opsUp l (k + 1) = opsStep (opsUp l k) (l.getD k 0) := by
  unfold opsUp
  rw [List.take_succ_eq_append_getElem h, List.foldl_append]
  simp [List.getD, h]
theorem opsUp_ok (l : List Int) (k : Nat) (h : k ≤ l.length) : (opsUp l k).1.length = k ∧ 0 ≤ (opsUp l k).2 ∧ (opsUp l k).2 ≤ k := by
  induction k with
  | zero => simp [opsUp]
  | succ k ih =>
    obtain ⟨h1, h2, h3⟩ := ih (by omega)
    rw [opsUp_succ l k (by omega)]
    have hs : (opNext (opsUp l k).2 (l.getD k 0)).2 = (opsUp l k).2 ∨ (opNext (opsUp l k).2 (l.getD k 0)).2 = (opsUp l k).2 + 1 := by
      unfold opNext
      dsimp only
      repeat' (first | (split) | exact .inl rfl | exact .inr rfl)
    refine ⟨by simp [opsStep, h1], ?_, ?_⟩ <;> simp only [opsStep] <;> omega
theorem opsUp_end (l : List Int) (k : Nat) (h : k = l.length ∧ k ≤ 30 ∨ k = 30) : (opsUp l k).1 = opsL l := by
  rcases h with ⟨h, h'⟩ | h
  · unfold opsL opsUp
    rw [List.take_of_length_le (by omega), List.take_of_length_le (by omega)]
  · rw [h]

theorem opNext_0 (s x : Int) (h : around x 1000000 % 16 < 2) : opNext s x = ((1, s - around x 1000000 / 16 % 5, around x 1000000 / 128 % 9 - 4), s) := by simp [opNext, h]
theorem opNext_2 (s x : Int) (h : around x 1000000 % 16 = 2) : opNext s x = ((2, s - around x 1000000 / 16 % 7, around x 1000000 / 128 % 9 - 4), s) := by simp [opNext, h]
theorem opNext_3 (s x : Int) (h : 3 ≤ around x 1000000 % 16) (h' : around x 1000000 % 16 < 5) : opNext s x = ((3, s + 1 - around x 1000000 / 16 % 8, around x 1000000 / 128 % 9 - 4), s) := by
  simp [opNext, show ¬ around x 1000000 % 16 < 2 by omega, show ¬ around x 1000000 % 16 = 2 by omega, h']
theorem opNext_5 (s x : Int) (h : 5 ≤ around x 1000000 % 16) : opNext s x = ((0, around x 1000000 / 16 % 8 - 1, around x 1000000 / 128 % 9 - 4), s + 1) := by
  simp [opNext, show ¬ around x 1000000 % 16 < 2 by omega, show ¬ around x 1000000 % 16 = 2 by omega, show ¬ around x 1000000 % 16 < 5 by omega]

set_option maxRecDepth 100000 in
set_option maxHeartbeats 4000000 in
theorem Ops_spec {w : World} {v : Value} {l : List Int} (h : readsI w v l) (hl : l.length ≤ 9223372036854775807) (hw : ∀ x ∈ l, inI64 x) :
    Calls Try.prog 18 #[v] w fun e w' => ∃ v', e = .returned v' ∧ Sep w' [rowO v' (opsL l), old w] ∧ Stable w w' := by
  obtain ⟨i0, hi, hz0, hz1, hz2⟩ := info_parts infoO
  obtain ⟨a, c, rfl⟩ := readsI_len h
  have hS0 : Sep w [row 55 3 (.slice none 0 0) 0 [], old w] := (Sep.start w).addNil _ _
  have H := Lib.hid h
  have HW := Lib.hid hw
  clear h hw
  go_enter Try.func18, Try.ntmps18
  go_wp2
  go_loopw [3, 4, 5] (fun o s i wr => ∃ k : Nat, k ≤ l.length ∧ k ≤ 30 ∧ i = .int .i64 k ∧ s = .int .i64 (opsUp l k).2 ∧ Sep wr [rowO o (opsUp l k).1, old w] ∧ Stable w wr) (fun _ _ i _ => 30 - (intOf i).toNat)
  case atStart => exact ⟨0, Nat.zero_le _, by omega, rfl, rfl, hS0, Stable.refl w⟩
  case round =>
    clear hS0
    obtain ⟨k, hk, hk30, rfl, rfl, hSr, hst⟩ := hrel
    by_cases hlt : k < l.length ∧ k < 30
    · obtain ⟨hlt, hlt30⟩ := hlt
      obtain ⟨b, off, cap, hv, _, _, hc⟩ := readsI_at H.out (by omega)
      obtain ⟨rfl, rfl⟩ : a = some ⟨b, off, none⟩ ∧ c = cap := by simpa using hv
      have hck := hc k hlt
      have hbl := World.block_lt_of_cell? w _ hck
      have hck' : wr.cell? ⟨b, off + k, none⟩ = some (i64 (l.getD k 0)) := (World.cell?_of_block (a := ⟨b, off + k, none⟩) ((hSr.pick 1).oldGet b hbl)).trans hck
      have hxw : inI64 (l.getD k 0) := HW.out _ (by rw [show l.getD k 0 = l[k] by simp [List.getD, hlt]]; exact List.getElem_mem hlt)
      obtain ⟨hol, hs0, hsk⟩ := opsUp_ok l k hk
      have hsucc := opsUp_succ l k hlt
      rw [opsStep] at hsucc
      have HSU := Lib.hid hsucc
      have HOL := Lib.hid hol
      have HST := Lib.hid hst
      clear hv hc hck hsucc hol hst
      generalize l.getD k 0 = x at *
      generalize (opsUp l k).2 = s at *
      generalize (opsUp l k).1 = os at *
      have har := Around_spec x 1000000 wr (by omega) (by omega) hxw
      have hn0 : 0 ≤ around x 1000000 := around_lo (by omega)
      have hn1 : around x 1000000 < 1000000 := around_hi (by omega)
      obtain ⟨h16a, h16b⟩ : 0 ≤ around x 1000000 % 16 ∧ around x 1000000 % 16 < 16 := ⟨Int.emod_nonneg _ (by omega), Int.emod_lt_of_pos _ (by omega)⟩
      have HN0 := Lib.hid (opNext_0 s x)
      have HN2 := Lib.hid (opNext_2 s x)
      have HN3 := Lib.hid (opNext_3 s x)
      have HN5 := Lib.hid (opNext_5 s x)
      generalize around x 1000000 = n at *
      have hcases : n % 16 = 0 ∨ n % 16 = 1 ∨ n % 16 = 2 ∨ n % 16 = 3 ∨ n % 16 = 4 ∨ 5 ≤ n % 16 := by omega
      rcases hcases with hr | hr | hr | hr | hr | hr
      · have HQ := Lib.hid (HN0.out (by omega))
        have hqo := ocells_one [((1, s - n / 16 % 5, n / 128 % 9 - 4) : OpT)]
        go_wp2_with fail
        refine har.mono ?_
        rintro e w' ⟨rfl, rfl⟩
        go_wp2_with (at_builtin; refine wpList_append_sep rfl _ _ 32 32 rfl 55 i0 _ 3 24 Try.underlying32 hi hz0 hz1 hz2 rfl _ _ _ rfl ((hSr.allocBeside _).allocBeside _) 1 [i64 1, i64 (s - n / 16 % 5), i64 (n / 128 % 9 - 4)] (Src.ofSlice _ Try.underlying32 ⟨_, 0, none⟩ 1 1 _ rfl (fun j u hu => by rw [Addr.add_lit]; simpa using hu) hqo) (by rw [HOL.out]; unfold maxLen; omega) (by rw [HOL.out]; omega) ?_; intro v' w2 hS2 hst2 hn2)
        refine ⟨⟨k + 1, by omega, by omega, by go_num, by rw [HSU.out, HQ.out], ?_, ((HST.out.alloc _).alloc _).trans hst2⟩, by simp [intOf]; omega⟩
        rw [HSU.out, HQ.out]
        exact rowO_app (l' := [((1, s - n / 16 % 5, n / 128 % 9 - 4) : OpT)]) hS2 rfl rfl
      · have HQ := Lib.hid (HN0.out (by omega))
        have hqo := ocells_one [((1, s - n / 16 % 5, n / 128 % 9 - 4) : OpT)]
        go_wp2_with fail
        refine har.mono ?_
        rintro e w' ⟨rfl, rfl⟩
        go_wp2_with (at_builtin; refine wpList_append_sep rfl _ _ 32 32 rfl 55 i0 _ 3 24 Try.underlying32 hi hz0 hz1 hz2 rfl _ _ _ rfl ((hSr.allocBeside _).allocBeside _) 1 [i64 1, i64 (s - n / 16 % 5), i64 (n / 128 % 9 - 4)] (Src.ofSlice _ Try.underlying32 ⟨_, 0, none⟩ 1 1 _ rfl (fun j u hu => by rw [Addr.add_lit]; simpa using hu) hqo) (by rw [HOL.out]; unfold maxLen; omega) (by rw [HOL.out]; omega) ?_; intro v' w2 hS2 hst2 hn2)
        refine ⟨⟨k + 1, by omega, by omega, by go_num, by rw [HSU.out, HQ.out], ?_, ((HST.out.alloc _).alloc _).trans hst2⟩, by simp [intOf]; omega⟩
        rw [HSU.out, HQ.out]
        exact rowO_app (l' := [((1, s - n / 16 % 5, n / 128 % 9 - 4) : OpT)]) hS2 rfl rfl
      · have HQ := Lib.hid (HN2.out (by omega))
        have hqo := ocells_one [((2, s - n / 16 % 7, n / 128 % 9 - 4) : OpT)]
        go_wp2_with fail
        refine har.mono ?_
        rintro e w' ⟨rfl, rfl⟩
        go_wp2_with (at_builtin; refine wpList_append_sep rfl _ _ 32 32 rfl 55 i0 _ 3 24 Try.underlying32 hi hz0 hz1 hz2 rfl _ _ _ rfl ((hSr.allocBeside _).allocBeside _) 1 [i64 2, i64 (s - n / 16 % 7), i64 (n / 128 % 9 - 4)] (Src.ofSlice _ Try.underlying32 ⟨_, 0, none⟩ 1 1 _ rfl (fun j u hu => by rw [Addr.add_lit]; simpa using hu) hqo) (by rw [HOL.out]; unfold maxLen; omega) (by rw [HOL.out]; omega) ?_; intro v' w2 hS2 hst2 hn2)
        refine ⟨⟨k + 1, by omega, by omega, by go_num, by rw [HSU.out, HQ.out], ?_, ((HST.out.alloc _).alloc _).trans hst2⟩, by simp [intOf]; omega⟩
        rw [HSU.out, HQ.out]
        exact rowO_app (l' := [((2, s - n / 16 % 7, n / 128 % 9 - 4) : OpT)]) hS2 rfl rfl
      · have HQ := Lib.hid (HN3.out (by omega) (by omega))
        have hqo := ocells_one [((3, s + 1 - n / 16 % 8, n / 128 % 9 - 4) : OpT)]
        go_wp2_with fail
        refine har.mono ?_
        rintro e w' ⟨rfl, rfl⟩
        go_wp2_with (at_builtin; refine wpList_append_sep rfl _ _ 32 32 rfl 55 i0 _ 3 24 Try.underlying32 hi hz0 hz1 hz2 rfl _ _ _ rfl ((hSr.allocBeside _).allocBeside _) 1 [i64 3, i64 (s + 1 - n / 16 % 8), i64 (n / 128 % 9 - 4)] (Src.ofSlice _ Try.underlying32 ⟨_, 0, none⟩ 1 1 _ rfl (fun j u hu => by rw [Addr.add_lit]; simpa using hu) hqo) (by rw [HOL.out]; unfold maxLen; omega) (by rw [HOL.out]; omega) ?_; intro v' w2 hS2 hst2 hn2)
        refine ⟨⟨k + 1, by omega, by omega, by go_num, by rw [HSU.out, HQ.out], ?_, ((HST.out.alloc _).alloc _).trans hst2⟩, by simp [intOf]; omega⟩
        rw [HSU.out, HQ.out]
        exact rowO_app (l' := [((3, s + 1 - n / 16 % 8, n / 128 % 9 - 4) : OpT)]) hS2 rfl rfl
      · have HQ := Lib.hid (HN3.out (by omega) (by omega))
        have hqo := ocells_one [((3, s + 1 - n / 16 % 8, n / 128 % 9 - 4) : OpT)]
        go_wp2_with fail
        refine har.mono ?_
        rintro e w' ⟨rfl, rfl⟩
        go_wp2_with (at_builtin; refine wpList_append_sep rfl _ _ 32 32 rfl 55 i0 _ 3 24 Try.underlying32 hi hz0 hz1 hz2 rfl _ _ _ rfl ((hSr.allocBeside _).allocBeside _) 1 [i64 3, i64 (s + 1 - n / 16 % 8), i64 (n / 128 % 9 - 4)] (Src.ofSlice _ Try.underlying32 ⟨_, 0, none⟩ 1 1 _ rfl (fun j u hu => by rw [Addr.add_lit]; simpa using hu) hqo) (by rw [HOL.out]; unfold maxLen; omega) (by rw [HOL.out]; omega) ?_; intro v' w2 hS2 hst2 hn2)
        refine ⟨⟨k + 1, by omega, by omega, by go_num, by rw [HSU.out, HQ.out], ?_, ((HST.out.alloc _).alloc _).trans hst2⟩, by simp [intOf]; omega⟩
        rw [HSU.out, HQ.out]
        exact rowO_app (l' := [((3, s + 1 - n / 16 % 8, n / 128 % 9 - 4) : OpT)]) hS2 rfl rfl
      · have HQ := Lib.hid (HN5.out (by omega))
        have hqo := ocells_one [((0, n / 16 % 8 - 1, n / 128 % 9 - 4) : OpT)]
        go_wp2_with fail
        refine har.mono ?_
        rintro e w' ⟨rfl, rfl⟩
        go_wp2_with (at_builtin; refine wpList_append_sep rfl _ _ 32 32 rfl 55 i0 _ 3 24 Try.underlying32 hi hz0 hz1 hz2 rfl _ _ _ rfl ((hSr.allocBeside _).allocBeside _) 1 [i64 0, i64 (n / 16 % 8 - 1), i64 (n / 128 % 9 - 4)] (Src.ofSlice _ Try.underlying32 ⟨_, 0, none⟩ 1 1 _ rfl (fun j u hu => by rw [Addr.add_lit]; simpa using hu) hqo) (by rw [HOL.out]; unfold maxLen; omega) (by rw [HOL.out]; omega) ?_; intro v' w2 hS2 hst2 hn2)
        refine ⟨⟨k + 1, by omega, by omega, by go_num, by rw [HSU.out, HQ.out], ?_, ((HST.out.alloc _).alloc _).trans hst2⟩, by simp [intOf]; omega⟩
        rw [HSU.out, HQ.out]
        exact rowO_app (l' := [((0, n / 16 % 8 - 1, n / 128 % 9 - 4) : OpT)]) hS2 rfl rfl
    · have he : (opsUp l k).1 = opsL l := opsUp_end l k (by omega)
      rw [he] at hSr
      clear he
      by_cases hk2 : k < l.length
      · have hk3 : k = 30 := by omega
        subst hk3
        go_wp2
        go_ret
        exact ⟨_, rfl, hSr, hst⟩
      · go_wp2
        go_ret
        exact ⟨_, rfl, hSr, hst⟩

end Go.Proofs.Ytcpicaalponnlaa
