/- The reference's Acts: up to 40 operations made from numbers. -/
import Derived.Test.YtfhjdfllkjjldaaKeeps
namespace Go.Proofs.Ytfhjdfllkjjldaa
open Go.RowKit Go.Sl

theorem infoA : (Try.prog.info? 44).map (fun i => (i.zero, i.size, i.bytes)) = some (some (.agg #[.int .i64 0, .int .i64 0, .int .i64 0]), 3, 24) := by kernel_rfl

abbrev ActT := Int × Int × Int
def acells (l : List ActT) : List Value := l.flatMap fun o => [i64 o.1, i64 o.2.1, i64 o.2.2]
theorem acells_length (l : List ActT) : (acells l).length = l.length * 3 := by
  induction l with
  | nil => rfl
  | cons a l ih => simp only [acells, List.flatMap_cons, List.length_append, List.length_cons, List.length_nil] at *; omega
theorem acells_one (l : List ActT) : ∀ u ∈ acells l, u.oneCell' = true := by
  intro u hu; obtain ⟨x, _, hx⟩ := List.mem_flatMap.1 hu; simp at hx; rcases hx with rfl | rfl | rfl <;> rfl
theorem acells_get : ∀ (l : List ActT) (i : Nat), i < l.length → (acells l)[i * 3]? = some (i64 (l.getD i (0, 0, 0)).1) ∧ (acells l)[i * 3 + 1]? = some (i64 (l.getD i (0, 0, 0)).2.1) ∧ (acells l)[i * 3 + 2]? = some (i64 (l.getD i (0, 0, 0)).2.2)
  | [], i, h => by simp at h
  | a :: l, 0, _ => by simp [acells]
  | a :: l, i + 1, h => by
    have := acells_get l i (by simpa using h)
    simp only [acells, List.flatMap_cons, Nat.add_mul, Nat.one_mul] at *
    exact this
abbrev rowA (v : Value) (l : List ActT) : Asn := row 44 3 v l.length (acells l)

theorem rowA_app {w : World} {L : List Asn} {v : Value} {l l' : List ActT} {n k : Nat} (h : Sep w (row 44 3 v (n + k) (acells l ++ acells l') :: L)) (hn : n = l.length) (hk : k = l'.length) : Sep w (rowA v (l ++ l') :: L) := by
  subst hn hk
  show Sep w (row 44 3 v (l ++ l').length (acells (l ++ l')) :: L)
  rw [List.length_append, show acells (l ++ l') = acells l ++ acells l' from List.flatMap_append]
  exact h

/-- Bounds of the parts of an operation. -/
def okA (o : ActT) : Prop := 0 ≤ o.1 ∧ o.1 ≤ 3 ∧ -6 ≤ o.2.1 ∧ o.2.1 ≤ 8 ∧ (o.1 < 2 → 0 ≤ o.2.1) ∧ (o.1 = 2 → -1 ≤ o.2.1 ∧ o.2.1 ≤ 2) ∧ (o.1 = 3 → o.2.1 ≤ 1) ∧ 0 ≤ o.2.2 ∧ o.2.2 < 50
theorem okA_app {l : List ActT} {o : ActT} (h : ∀ x ∈ l, okA x) (k : okA o) : ∀ x ∈ l ++ [o], okA x := by
  intro x hx
  rcases List.mem_append.1 hx with hx | hx
  · exact h x hx
  · obtain rfl : x = o := by simpa using hx
    exact k

theorem src_new {W : World} (c : List Value) (t : TypeId) (j : Nat) (u : Value) (h : c[j]? = some u) (b o : Nat) (hb : b = W.heap.size) (ho : o = j) : (W.alloc (.cells c.toArray t)).cell? ⟨b, o, none⟩ = some u := by
  subst hb ho
  rw [World.cell?_alloc_new]
  simpa using h

set_option maxRecDepth 100000 in
set_option maxHeartbeats 4000000 in
theorem Acts_spec {w : World} {v : Value} {l : List Int} (h : readsI w v l) (hl : l.length ≤ 9223372036854775807) (hw : ∀ x ∈ l, inI64 x) :
    Calls Try.prog 21 #[v] w fun e w' => ∃ v' ac, e = .returned v' ∧ (ac.length ≤ 40 ∧ ∀ x ∈ ac, okA x) ∧ Sep w' [rowA v' ac, old w] ∧ Stable w w' := by
  obtain ⟨i0, hi, hz0, hz1, hz2⟩ := info_parts infoA
  obtain ⟨a, c, rfl⟩ := readsI_len h
  have hS0 : Sep w [row 44 3 (.slice none 0 0) 0 [], old w] := (Sep.start w).addNil _ _
  have H := Lib.hid h
  have HW := Lib.hid hw
  clear h hw
  go_enter Try.func21, Try.ntmps21
  go_wp2
  go_loopw [3, 4] (fun o i wr => ∃ (k : Nat) (ac : List ActT), k ≤ l.length ∧ k ≤ 40 ∧ i = .int .i64 k ∧ ac.length = k ∧ (∀ x ∈ ac, okA x) ∧ Sep wr [rowA o ac, old w] ∧ Stable w wr) (fun _ i _ => 40 - (intOf i).toNat)
  case atStart => exact ⟨0, [], Nat.zero_le _, by omega, rfl, rfl, by simp, hS0, Stable.refl w⟩
  case round =>
    clear hS0
    obtain ⟨k, ac, hk, hk40, rfl, hol, hok, hSr, hst⟩ := hrel
    by_cases hlt : k < l.length ∧ k < 40
    · obtain ⟨hlt, hlt40⟩ := hlt
      obtain ⟨b, off, cap, hv, _, _, hc⟩ := readsI_at H.out (by omega)
      obtain ⟨rfl, rfl⟩ : a = some ⟨b, off, none⟩ ∧ c = cap := by simpa using hv
      have hck := hc k hlt
      have hbl := World.block_lt_of_cell? w _ hck
      have hck' : wr.cell? ⟨b, off + k, none⟩ = some (i64 (l.getD k 0)) := (World.cell?_of_block (a := ⟨b, off + k, none⟩) ((hSr.pick 1).oldGet b hbl)).trans hck
      have hxw : inI64 (l.getD k 0) := HW.out _ (by rw [show l.getD k 0 = l[k] by simp [List.getD, hlt]]; exact List.getElem_mem hlt)
      have HOL := Lib.hid hol
      have HOK := Lib.hid hok
      have HST := Lib.hid (And.intro hSr hst)
      clear hv hc hck hol hst hSr hok
      generalize l.getD k 0 = x at *
      have har := Around_spec x 100000 wr (by omega) (by omega) hxw
      have hn0 : 0 ≤ around x 100000 := around_lo (by omega)
      have hn1 : around x 100000 < 100000 := around_hi (by omega)
      obtain ⟨h16a, h16b⟩ : 0 ≤ around x 100000 % 7 ∧ around x 100000 % 7 < 7 := ⟨Int.emod_nonneg _ (by omega), Int.emod_lt_of_pos _ (by omega)⟩
      generalize around x 100000 = n at *
      have hcases : n % 7 = 0 ∨ n % 7 = 4 ∨ n % 7 = 1 ∨ n % 7 = 2 ∨ n % 7 = 3 ∨ n % 7 = 5 ∨ n % 7 = 6 := by omega
      rcases hcases with hr | hr | hr | hr | hr | hr | hr
      · have hqo := acells_one [((0, n / 7 % 9, n / 63 % 50) : ActT)]
        have hS3 := ((HST.out.1.allocBeside (.cells #[i64 0, i64 1, i64 2, i64 2, i64 0, i64 2, i64 3] 3)).allocBeside (.cells #[i64 (0), i64 (n / 7 % 9), i64 (n / 63 % 50)] 44)).allocBeside (.cells #[i64 (0), i64 (n / 7 % 9), i64 (n / 63 % 50)] 44)
        have hst3 := ((HST.out.2.alloc (.cells #[i64 0, i64 1, i64 2, i64 2, i64 0, i64 2, i64 3] 3)).alloc (.cells #[i64 (0), i64 (n / 7 % 9), i64 (n / 63 % 50)] 44)).alloc (.cells #[i64 (0), i64 (n / 7 % 9), i64 (n / 63 % 50)] 44)
        have HS3 := Lib.hid (And.intro hS3 hst3)
        clear hS3 hst3
        go_wp2_with fail
        refine har.mono ?_
        rintro e w' ⟨rfl, rfl⟩
        clear har
        go_wp2_with (at_builtin; refine wpList_append_sep rfl _ _ 41 41 rfl 44 i0 _ 3 24 Try.underlying41 hi hz0 hz1 hz2 rfl _ _ _ rfl HS3.out.1 1 [i64 (0), i64 (n / 7 % 9), i64 (n / 63 % 50)] (Src.ofSlice _ Try.underlying41 ⟨_, 0, none⟩ 1 1 _ rfl (fun j u hu => by rw [Addr.add_lit]; exact src_new _ _ _ _ (by simpa using hu) _ _ (by simp) (by simp)) hqo) (by rw [HOL.out]; unfold maxLen; omega) (by rw [HOL.out]; omega) ?_; intro v' w2 hS2 hst2 hn2)
        refine ⟨⟨k + 1, ac ++ [(0, n / 7 % 9, n / 63 % 50)], by omega, by omega, by go_num, by simp [HOL.out], okA_app HOK.out ?_, rowA_app (l' := [((0, n / 7 % 9, n / 63 % 50) : ActT)]) hS2 rfl rfl, HS3.out.2.trans hst2⟩, by simp [intOf]; omega⟩
        unfold okA; dsimp only; omega
      · have hqo := acells_one [((0, n / 7 % 9, n / 63 % 50) : ActT)]
        have hS3 := ((HST.out.1.allocBeside (.cells #[i64 0, i64 1, i64 2, i64 2, i64 0, i64 2, i64 3] 3)).allocBeside (.cells #[i64 (0), i64 (n / 7 % 9), i64 (n / 63 % 50)] 44)).allocBeside (.cells #[i64 (0), i64 (n / 7 % 9), i64 (n / 63 % 50)] 44)
        have hst3 := ((HST.out.2.alloc (.cells #[i64 0, i64 1, i64 2, i64 2, i64 0, i64 2, i64 3] 3)).alloc (.cells #[i64 (0), i64 (n / 7 % 9), i64 (n / 63 % 50)] 44)).alloc (.cells #[i64 (0), i64 (n / 7 % 9), i64 (n / 63 % 50)] 44)
        have HS3 := Lib.hid (And.intro hS3 hst3)
        clear hS3 hst3
        go_wp2_with fail
        refine har.mono ?_
        rintro e w' ⟨rfl, rfl⟩
        clear har
        go_wp2_with (at_builtin; refine wpList_append_sep rfl _ _ 41 41 rfl 44 i0 _ 3 24 Try.underlying41 hi hz0 hz1 hz2 rfl _ _ _ rfl HS3.out.1 1 [i64 (0), i64 (n / 7 % 9), i64 (n / 63 % 50)] (Src.ofSlice _ Try.underlying41 ⟨_, 0, none⟩ 1 1 _ rfl (fun j u hu => by rw [Addr.add_lit]; exact src_new _ _ _ _ (by simpa using hu) _ _ (by simp) (by simp)) hqo) (by rw [HOL.out]; unfold maxLen; omega) (by rw [HOL.out]; omega) ?_; intro v' w2 hS2 hst2 hn2)
        refine ⟨⟨k + 1, ac ++ [(0, n / 7 % 9, n / 63 % 50)], by omega, by omega, by go_num, by simp [HOL.out], okA_app HOK.out ?_, rowA_app (l' := [((0, n / 7 % 9, n / 63 % 50) : ActT)]) hS2 rfl rfl, HS3.out.2.trans hst2⟩, by simp [intOf]; omega⟩
        unfold okA; dsimp only; omega
      · have hqo := acells_one [((1, n / 7 % 9, n / 63 % 50) : ActT)]
        have hS3 := ((HST.out.1.allocBeside (.cells #[i64 0, i64 1, i64 2, i64 2, i64 0, i64 2, i64 3] 3)).allocBeside (.cells #[i64 (1), i64 (n / 7 % 9), i64 (n / 63 % 50)] 44)).allocBeside (.cells #[i64 (1), i64 (n / 7 % 9), i64 (n / 63 % 50)] 44)
        have hst3 := ((HST.out.2.alloc (.cells #[i64 0, i64 1, i64 2, i64 2, i64 0, i64 2, i64 3] 3)).alloc (.cells #[i64 (1), i64 (n / 7 % 9), i64 (n / 63 % 50)] 44)).alloc (.cells #[i64 (1), i64 (n / 7 % 9), i64 (n / 63 % 50)] 44)
        have HS3 := Lib.hid (And.intro hS3 hst3)
        clear hS3 hst3
        go_wp2_with fail
        refine har.mono ?_
        rintro e w' ⟨rfl, rfl⟩
        clear har
        go_wp2_with (at_builtin; refine wpList_append_sep rfl _ _ 41 41 rfl 44 i0 _ 3 24 Try.underlying41 hi hz0 hz1 hz2 rfl _ _ _ rfl HS3.out.1 1 [i64 (1), i64 (n / 7 % 9), i64 (n / 63 % 50)] (Src.ofSlice _ Try.underlying41 ⟨_, 0, none⟩ 1 1 _ rfl (fun j u hu => by rw [Addr.add_lit]; exact src_new _ _ _ _ (by simpa using hu) _ _ (by simp) (by simp)) hqo) (by rw [HOL.out]; unfold maxLen; omega) (by rw [HOL.out]; omega) ?_; intro v' w2 hS2 hst2 hn2)
        refine ⟨⟨k + 1, ac ++ [(1, n / 7 % 9, n / 63 % 50)], by omega, by omega, by go_num, by simp [HOL.out], okA_app HOK.out ?_, rowA_app (l' := [((1, n / 7 % 9, n / 63 % 50) : ActT)]) hS2 rfl rfl, HS3.out.2.trans hst2⟩, by simp [intOf]; omega⟩
        unfold okA; dsimp only; omega
      · by_cases h11 : n / 63 % 11 = 0
        · have hqo := acells_one [((2, n / 693 % 4 - 1, n / 63 % 50) : ActT)]
          have hS3 := ((HST.out.1.allocBeside (.cells #[i64 0, i64 1, i64 2, i64 2, i64 0, i64 2, i64 3] 3)).allocBeside (.cells #[i64 (2), i64 (n / 693 % 4 - 1), i64 (n / 63 % 50)] 44)).allocBeside (.cells #[i64 (2), i64 (n / 693 % 4 - 1), i64 (n / 63 % 50)] 44)
          have hst3 := ((HST.out.2.alloc (.cells #[i64 0, i64 1, i64 2, i64 2, i64 0, i64 2, i64 3] 3)).alloc (.cells #[i64 (2), i64 (n / 693 % 4 - 1), i64 (n / 63 % 50)] 44)).alloc (.cells #[i64 (2), i64 (n / 693 % 4 - 1), i64 (n / 63 % 50)] 44)
          have HS3 := Lib.hid (And.intro hS3 hst3)
          clear hS3 hst3
          go_wp2_with fail
          refine har.mono ?_
          rintro e w' ⟨rfl, rfl⟩
          clear har
          go_wp2_with (at_builtin; refine wpList_append_sep rfl _ _ 41 41 rfl 44 i0 _ 3 24 Try.underlying41 hi hz0 hz1 hz2 rfl _ _ _ rfl HS3.out.1 1 [i64 (2), i64 (n / 693 % 4 - 1), i64 (n / 63 % 50)] (Src.ofSlice _ Try.underlying41 ⟨_, 0, none⟩ 1 1 _ rfl (fun j u hu => by rw [Addr.add_lit]; exact src_new _ _ _ _ (by simpa using hu) _ _ (by simp) (by simp)) hqo) (by rw [HOL.out]; unfold maxLen; omega) (by rw [HOL.out]; omega) ?_; intro v' w2 hS2 hst2 hn2)
          refine ⟨⟨k + 1, ac ++ [(2, n / 693 % 4 - 1, n / 63 % 50)], by omega, by omega, by go_num, by simp [HOL.out], okA_app HOK.out ?_, rowA_app (l' := [((2, n / 693 % 4 - 1, n / 63 % 50) : ActT)]) hS2 rfl rfl, HS3.out.2.trans hst2⟩, by simp [intOf]; omega⟩
          unfold okA; dsimp only; omega
        · have hqo := acells_one [((2, 1, n / 63 % 50) : ActT)]
          have hS3 := ((HST.out.1.allocBeside (.cells #[i64 0, i64 1, i64 2, i64 2, i64 0, i64 2, i64 3] 3)).allocBeside (.cells #[i64 (2), i64 (1), i64 (n / 63 % 50)] 44)).allocBeside (.cells #[i64 (2), i64 (1), i64 (n / 63 % 50)] 44)
          have hst3 := ((HST.out.2.alloc (.cells #[i64 0, i64 1, i64 2, i64 2, i64 0, i64 2, i64 3] 3)).alloc (.cells #[i64 (2), i64 (1), i64 (n / 63 % 50)] 44)).alloc (.cells #[i64 (2), i64 (1), i64 (n / 63 % 50)] 44)
          have HS3 := Lib.hid (And.intro hS3 hst3)
          clear hS3 hst3
          go_wp2_with fail
          refine har.mono ?_
          rintro e w' ⟨rfl, rfl⟩
          clear har
          go_wp2_with (at_builtin; refine wpList_append_sep rfl _ _ 41 41 rfl 44 i0 _ 3 24 Try.underlying41 hi hz0 hz1 hz2 rfl _ _ _ rfl HS3.out.1 1 [i64 (2), i64 (1), i64 (n / 63 % 50)] (Src.ofSlice _ Try.underlying41 ⟨_, 0, none⟩ 1 1 _ rfl (fun j u hu => by rw [Addr.add_lit]; exact src_new _ _ _ _ (by simpa using hu) _ _ (by simp) (by simp)) hqo) (by rw [HOL.out]; unfold maxLen; omega) (by rw [HOL.out]; omega) ?_; intro v' w2 hS2 hst2 hn2)
          refine ⟨⟨k + 1, ac ++ [(2, 1, n / 63 % 50)], by omega, by omega, by go_num, by simp [HOL.out], okA_app HOK.out ?_, rowA_app (l' := [((2, 1, n / 63 % 50) : ActT)]) hS2 rfl rfl, HS3.out.2.trans hst2⟩, by simp [intOf]; omega⟩
          unfold okA; dsimp only; omega
      · by_cases h11 : n / 63 % 11 = 0
        · have hqo := acells_one [((2, n / 693 % 4 - 1, n / 63 % 50) : ActT)]
          have hS3 := ((HST.out.1.allocBeside (.cells #[i64 0, i64 1, i64 2, i64 2, i64 0, i64 2, i64 3] 3)).allocBeside (.cells #[i64 (2), i64 (n / 693 % 4 - 1), i64 (n / 63 % 50)] 44)).allocBeside (.cells #[i64 (2), i64 (n / 693 % 4 - 1), i64 (n / 63 % 50)] 44)
          have hst3 := ((HST.out.2.alloc (.cells #[i64 0, i64 1, i64 2, i64 2, i64 0, i64 2, i64 3] 3)).alloc (.cells #[i64 (2), i64 (n / 693 % 4 - 1), i64 (n / 63 % 50)] 44)).alloc (.cells #[i64 (2), i64 (n / 693 % 4 - 1), i64 (n / 63 % 50)] 44)
          have HS3 := Lib.hid (And.intro hS3 hst3)
          clear hS3 hst3
          go_wp2_with fail
          refine har.mono ?_
          rintro e w' ⟨rfl, rfl⟩
          clear har
          go_wp2_with (at_builtin; refine wpList_append_sep rfl _ _ 41 41 rfl 44 i0 _ 3 24 Try.underlying41 hi hz0 hz1 hz2 rfl _ _ _ rfl HS3.out.1 1 [i64 (2), i64 (n / 693 % 4 - 1), i64 (n / 63 % 50)] (Src.ofSlice _ Try.underlying41 ⟨_, 0, none⟩ 1 1 _ rfl (fun j u hu => by rw [Addr.add_lit]; exact src_new _ _ _ _ (by simpa using hu) _ _ (by simp) (by simp)) hqo) (by rw [HOL.out]; unfold maxLen; omega) (by rw [HOL.out]; omega) ?_; intro v' w2 hS2 hst2 hn2)
          refine ⟨⟨k + 1, ac ++ [(2, n / 693 % 4 - 1, n / 63 % 50)], by omega, by omega, by go_num, by simp [HOL.out], okA_app HOK.out ?_, rowA_app (l' := [((2, n / 693 % 4 - 1, n / 63 % 50) : ActT)]) hS2 rfl rfl, HS3.out.2.trans hst2⟩, by simp [intOf]; omega⟩
          unfold okA; dsimp only; omega
        · have hqo := acells_one [((2, 1, n / 63 % 50) : ActT)]
          have hS3 := ((HST.out.1.allocBeside (.cells #[i64 0, i64 1, i64 2, i64 2, i64 0, i64 2, i64 3] 3)).allocBeside (.cells #[i64 (2), i64 (1), i64 (n / 63 % 50)] 44)).allocBeside (.cells #[i64 (2), i64 (1), i64 (n / 63 % 50)] 44)
          have hst3 := ((HST.out.2.alloc (.cells #[i64 0, i64 1, i64 2, i64 2, i64 0, i64 2, i64 3] 3)).alloc (.cells #[i64 (2), i64 (1), i64 (n / 63 % 50)] 44)).alloc (.cells #[i64 (2), i64 (1), i64 (n / 63 % 50)] 44)
          have HS3 := Lib.hid (And.intro hS3 hst3)
          clear hS3 hst3
          go_wp2_with fail
          refine har.mono ?_
          rintro e w' ⟨rfl, rfl⟩
          clear har
          go_wp2_with (at_builtin; refine wpList_append_sep rfl _ _ 41 41 rfl 44 i0 _ 3 24 Try.underlying41 hi hz0 hz1 hz2 rfl _ _ _ rfl HS3.out.1 1 [i64 (2), i64 (1), i64 (n / 63 % 50)] (Src.ofSlice _ Try.underlying41 ⟨_, 0, none⟩ 1 1 _ rfl (fun j u hu => by rw [Addr.add_lit]; exact src_new _ _ _ _ (by simpa using hu) _ _ (by simp) (by simp)) hqo) (by rw [HOL.out]; unfold maxLen; omega) (by rw [HOL.out]; omega) ?_; intro v' w2 hS2 hst2 hn2)
          refine ⟨⟨k + 1, ac ++ [(2, 1, n / 63 % 50)], by omega, by omega, by go_num, by simp [HOL.out], okA_app HOK.out ?_, rowA_app (l' := [((2, 1, n / 63 % 50) : ActT)]) hS2 rfl rfl, HS3.out.2.trans hst2⟩, by simp [intOf]; omega⟩
          unfold okA; dsimp only; omega
      · by_cases h11 : n / 63 % 11 = 0
        · have hqo := acells_one [((2, n / 693 % 4 - 1, n / 63 % 50) : ActT)]
          have hS3 := ((HST.out.1.allocBeside (.cells #[i64 0, i64 1, i64 2, i64 2, i64 0, i64 2, i64 3] 3)).allocBeside (.cells #[i64 (2), i64 (n / 693 % 4 - 1), i64 (n / 63 % 50)] 44)).allocBeside (.cells #[i64 (2), i64 (n / 693 % 4 - 1), i64 (n / 63 % 50)] 44)
          have hst3 := ((HST.out.2.alloc (.cells #[i64 0, i64 1, i64 2, i64 2, i64 0, i64 2, i64 3] 3)).alloc (.cells #[i64 (2), i64 (n / 693 % 4 - 1), i64 (n / 63 % 50)] 44)).alloc (.cells #[i64 (2), i64 (n / 693 % 4 - 1), i64 (n / 63 % 50)] 44)
          have HS3 := Lib.hid (And.intro hS3 hst3)
          clear hS3 hst3
          go_wp2_with fail
          refine har.mono ?_
          rintro e w' ⟨rfl, rfl⟩
          clear har
          go_wp2_with (at_builtin; refine wpList_append_sep rfl _ _ 41 41 rfl 44 i0 _ 3 24 Try.underlying41 hi hz0 hz1 hz2 rfl _ _ _ rfl HS3.out.1 1 [i64 (2), i64 (n / 693 % 4 - 1), i64 (n / 63 % 50)] (Src.ofSlice _ Try.underlying41 ⟨_, 0, none⟩ 1 1 _ rfl (fun j u hu => by rw [Addr.add_lit]; exact src_new _ _ _ _ (by simpa using hu) _ _ (by simp) (by simp)) hqo) (by rw [HOL.out]; unfold maxLen; omega) (by rw [HOL.out]; omega) ?_; intro v' w2 hS2 hst2 hn2)
          refine ⟨⟨k + 1, ac ++ [(2, n / 693 % 4 - 1, n / 63 % 50)], by omega, by omega, by go_num, by simp [HOL.out], okA_app HOK.out ?_, rowA_app (l' := [((2, n / 693 % 4 - 1, n / 63 % 50) : ActT)]) hS2 rfl rfl, HS3.out.2.trans hst2⟩, by simp [intOf]; omega⟩
          unfold okA; dsimp only; omega
        · have hqo := acells_one [((2, 1, n / 63 % 50) : ActT)]
          have hS3 := ((HST.out.1.allocBeside (.cells #[i64 0, i64 1, i64 2, i64 2, i64 0, i64 2, i64 3] 3)).allocBeside (.cells #[i64 (2), i64 (1), i64 (n / 63 % 50)] 44)).allocBeside (.cells #[i64 (2), i64 (1), i64 (n / 63 % 50)] 44)
          have hst3 := ((HST.out.2.alloc (.cells #[i64 0, i64 1, i64 2, i64 2, i64 0, i64 2, i64 3] 3)).alloc (.cells #[i64 (2), i64 (1), i64 (n / 63 % 50)] 44)).alloc (.cells #[i64 (2), i64 (1), i64 (n / 63 % 50)] 44)
          have HS3 := Lib.hid (And.intro hS3 hst3)
          clear hS3 hst3
          go_wp2_with fail
          refine har.mono ?_
          rintro e w' ⟨rfl, rfl⟩
          clear har
          go_wp2_with (at_builtin; refine wpList_append_sep rfl _ _ 41 41 rfl 44 i0 _ 3 24 Try.underlying41 hi hz0 hz1 hz2 rfl _ _ _ rfl HS3.out.1 1 [i64 (2), i64 (1), i64 (n / 63 % 50)] (Src.ofSlice _ Try.underlying41 ⟨_, 0, none⟩ 1 1 _ rfl (fun j u hu => by rw [Addr.add_lit]; exact src_new _ _ _ _ (by simpa using hu) _ _ (by simp) (by simp)) hqo) (by rw [HOL.out]; unfold maxLen; omega) (by rw [HOL.out]; omega) ?_; intro v' w2 hS2 hst2 hn2)
          refine ⟨⟨k + 1, ac ++ [(2, 1, n / 63 % 50)], by omega, by omega, by go_num, by simp [HOL.out], okA_app HOK.out ?_, rowA_app (l' := [((2, 1, n / 63 % 50) : ActT)]) hS2 rfl rfl, HS3.out.2.trans hst2⟩, by simp [intOf]; omega⟩
          unfold okA; dsimp only; omega
      · have hqo := acells_one [((3, 1 - n / 7 % 8, n / 63 % 50) : ActT)]
        have hS3 := ((HST.out.1.allocBeside (.cells #[i64 0, i64 1, i64 2, i64 2, i64 0, i64 2, i64 3] 3)).allocBeside (.cells #[i64 (3), i64 (1 - n / 7 % 8), i64 (n / 63 % 50)] 44)).allocBeside (.cells #[i64 (3), i64 (1 - n / 7 % 8), i64 (n / 63 % 50)] 44)
        have hst3 := ((HST.out.2.alloc (.cells #[i64 0, i64 1, i64 2, i64 2, i64 0, i64 2, i64 3] 3)).alloc (.cells #[i64 (3), i64 (1 - n / 7 % 8), i64 (n / 63 % 50)] 44)).alloc (.cells #[i64 (3), i64 (1 - n / 7 % 8), i64 (n / 63 % 50)] 44)
        have HS3 := Lib.hid (And.intro hS3 hst3)
        clear hS3 hst3
        go_wp2_with fail
        refine har.mono ?_
        rintro e w' ⟨rfl, rfl⟩
        clear har
        go_wp2_with (at_builtin; refine wpList_append_sep rfl _ _ 41 41 rfl 44 i0 _ 3 24 Try.underlying41 hi hz0 hz1 hz2 rfl _ _ _ rfl HS3.out.1 1 [i64 (3), i64 (1 - n / 7 % 8), i64 (n / 63 % 50)] (Src.ofSlice _ Try.underlying41 ⟨_, 0, none⟩ 1 1 _ rfl (fun j u hu => by rw [Addr.add_lit]; exact src_new _ _ _ _ (by simpa using hu) _ _ (by simp) (by simp)) hqo) (by rw [HOL.out]; unfold maxLen; omega) (by rw [HOL.out]; omega) ?_; intro v' w2 hS2 hst2 hn2)
        refine ⟨⟨k + 1, ac ++ [(3, 1 - n / 7 % 8, n / 63 % 50)], by omega, by omega, by go_num, by simp [HOL.out], okA_app HOK.out ?_, rowA_app (l' := [((3, 1 - n / 7 % 8, n / 63 % 50) : ActT)]) hS2 rfl rfl, HS3.out.2.trans hst2⟩, by simp [intOf]; omega⟩
        unfold okA; dsimp only; omega
    · by_cases hk2 : k < l.length
      · have hk3 : k = 40 := by omega
        subst hk3
        go_wp2
        go_ret
        exact ⟨_, ac, rfl, ⟨by omega, hok⟩, hSr, hst⟩
      · go_wp2
        go_ret
        exact ⟨_, ac, rfl, ⟨by omega, hok⟩, hSr, hst⟩

end Go.Proofs.Ytfhjdfllkjjldaa
