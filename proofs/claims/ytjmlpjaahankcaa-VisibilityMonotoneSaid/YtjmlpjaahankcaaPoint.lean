/- Contracts: Point. -/
import Derived.Test.YtjmlpjaahankcaaRoomsAll
namespace Go.Proofs.Ytjmlpjaahankcaa
open Go.RowKit Go.Sl

variable {w : World} {L : List Asn}

def near (x : Int) : Prop := -1048576 ≤ x ∧ x ≤ 1048576

def pk5 (k : Int) : Int := if k = 2 then 1 else if k = 3 then -1 else if k = 4 then 700 else 0
theorem pk5_bd (k : Int) : -1 ≤ pk5 k ∧ pk5 k ≤ 700 := by unfold pk5; split; omega; split; omega; split <;> omega
def ptX' (n : Int) : Int := if n % 9 = 8 then n % 2097153 - 1048576 else n / 9 % 13 * 1500 - 9000 + pk5 (n % 5)
def ptY' (n m : Int) : Int := if n % 9 = 8 then m % 2097153 - 1048576 else m / 9 % 9 * 1024 - 6000 + pk5 (m % 5)
def ptX (a : Int) : Int := ptX' (around a 10000000)
def ptY (a b : Int) : Int := ptY' (around a 10000000) (around b 10000000)
theorem near_ptX (a : Int) : near (ptX a) := by
  unfold ptX ptX' near
  generalize around a 10000000 = n
  have := pk5_bd (n % 5)
  generalize pk5 (n % 5) = z at *
  split <;> omega
theorem near_ptY (a b : Int) : near (ptY a b) := by
  unfold ptY ptY' near
  generalize around a 10000000 = n
  generalize around b 10000000 = m
  have := pk5_bd (m % 5)
  generalize pk5 (m % 5) = z at *
  split <;> omega

set_option maxHeartbeats 4000000 in
theorem Point_fn (a b : Int) (ha : inI64 a) (hb : inI64 b) (w : World) :
    Calls Try.prog 11 #[i64 a, i64 b] w fun e w' => e = .returned (.agg #[i64 (ptX a), i64 (ptY a b)]) ∧ Sep w' [old w] ∧ Stable w w' := by
  unfold ptX ptY
  have h1 := fun w => Around_spec a 10000000 w (by omega) (by omega) ha
  have h2 := fun w => Around_spec b 10000000 w (by omega) (by omega) hb
  have n0 : 0 ≤ around a 10000000 := around_lo (by omega)
  have n1 : around a 10000000 < 10000000 := around_hi (by omega)
  have m0 : 0 ≤ around b 10000000 := around_lo (by omega)
  have m1 : around b 10000000 < 10000000 := around_hi (by omega)
  generalize around a 10000000 = n at *
  generalize around b 10000000 = m at *
  have H1 := Lib.hid h1
  have H2 := Lib.hid h2
  have hS0 := (Sep.start w).alloc (.cells #[i64 0, i64 0] 29)
  have hst0 := (Stable.refl w).alloc (.cells #[i64 0, i64 0] 29)
  clear h1 h2
  go_enter Try.func11, Try.ntmps11
  go_wp2_with fail
  refine (H1.out _).mono ?_
  rintro e w1 ⟨rfl, rfl⟩
  go_wp2_with fail
  refine (H2.out _).mono ?_
  rintro e w1 ⟨rfl, rfl⟩
  by_cases h8 : n % 9 = 8
  · have e1 : near (n % 2097153 - 1048576) := by unfold near; omega
    have e2 : near (m % 2097153 - 1048576) := by unfold near; omega
    have hS1 := (Sep.start w).allocBeside (.cells #[i64 (n % 2097153 - 1048576), i64 (m % 2097153 - 1048576)] 29)
    have hst1 := (Stable.refl w).alloc (.cells #[i64 (n % 2097153 - 1048576), i64 (m % 2097153 - 1048576)] 29)
    go_wp2_with fail
    refine bodyPost_ret (v := .agg #[i64 (n % 2097153 - 1048576), i64 (m % 2097153 - 1048576)]) (by simp [results, Try.results11, go_sem]) rfl ?_
    have x1 : ptX' n = n % 2097153 - 1048576 := by unfold ptX'; rw [if_pos h8]
    have x2 : ptY' n m = m % 2097153 - 1048576 := by unfold ptY'; rw [if_pos h8]
    exact ⟨by rw [x1, x2], hS1, hst1⟩
  · have hpick : ∀ k : Int, 0 ≤ k → ∃ p : Int, p = pk5 (k % 5) ∧ -1 ≤ p ∧ p ≤ 700 ∧ ∀ W : World, (W.alloc (.cells #[.int .i64 0, .int .i64 0, .int .i64 1, .int .i64 (-1), .int .i64 700] 3)).cell? ⟨W.heap.size, (k % 5).toNat, none⟩ = some (i64 p) := fun k hk => by
      rcases (by omega : k % 5 = 0 ∨ k % 5 = 1 ∨ k % 5 = 2 ∨ k % 5 = 3 ∨ k % 5 = 4) with h | h | h | h | h
      · exact ⟨0, by rw [h]; rfl, by omega, by omega, fun W => by rw [h]; simp⟩ 
      · exact ⟨0, by rw [h]; rfl, by omega, by omega, fun W => by rw [h]; simp⟩ 
      · exact ⟨1, by rw [h]; rfl, by omega, by omega, fun W => by rw [h]; simp⟩ 
      · exact ⟨-1, by rw [h]; rfl, by omega, by omega, fun W => by rw [h]; simp⟩ 
      · exact ⟨700, by rw [h]; rfl, by omega, by omega, fun W => by rw [h]; simp⟩ 
    obtain ⟨p, p0, p1, p2, hp⟩ := hpick n n0
    obtain ⟨q, q0, q1, q2, hq⟩ := hpick m m0
    have x1 : ptX' n = n / 9 % 13 * 1500 - 9000 + p := by unfold ptX'; rw [if_neg h8, p0]
    have x2 : ptY' n m = m / 9 % 9 * 1024 - 6000 + q := by unfold ptY'; rw [if_neg h8, q0]
    have HX := Lib.hid (And.intro x1 x2)
    clear x1 x2 p0 q0
    have s1 : (w.alloc (.cells #[.int .i64 0, .int .i64 0] 29)).heap.size = w.heap.size + 1 := by simp
    have s2 : ((w.alloc (.cells #[.int .i64 0, .int .i64 0] 29)).alloc (.cells #[.int .i64 0, .int .i64 0, .int .i64 1, .int .i64 (-1), .int .i64 700] 3)).heap.size = w.heap.size + 2 := by simp
    have hp1 := hp (w.alloc (.cells #[.int .i64 0, .int .i64 0] 29))
    have hp2 := hp ((w.alloc (.cells #[.int .i64 0, .int .i64 0] 29)).alloc (.cells #[.int .i64 0, .int .i64 0, .int .i64 1, .int .i64 (-1), .int .i64 700] 3))
    have hq1 := hq (w.alloc (.cells #[.int .i64 0, .int .i64 0] 29))
    have hq2 := hq ((w.alloc (.cells #[.int .i64 0, .int .i64 0] 29)).alloc (.cells #[.int .i64 0, .int .i64 0, .int .i64 1, .int .i64 (-1), .int .i64 700] 3))
    rw [s1] at hp1 hq1
    rw [s2] at hp2 hq2
    clear hpick s1 s2 hp hq
    go_wp2_with fail
    go_region
    all_goals
      have e1 : near (n / 9 % 13 * 1500 - 9000 + p) := by unfold near; omega
      have e2 : near (m / 9 % 9 * 1024 - 6000 + q) := by unfold near; omega
      go_wp2_with fail
      refine bodyPost_ret (v := .agg #[i64 (n / 9 % 13 * 1500 - 9000 + p), i64 (m / 9 % 9 * 1024 - 6000 + q)]) (by simp [results, Try.results11, go_sem]) rfl ?_
      exact ⟨by rw [HX.out.1, HX.out.2], Sep.drew ((((Sep.start w).allocBeside (.cells #[i64 (n / 9 % 13 * 1500 - 9000 + p), i64 (m / 9 % 9 * 1024 - 6000 + q)] 29)).allocBeside (.cells #[.int .i64 0, .int .i64 0, .int .i64 1, .int .i64 (-1), .int .i64 700] 3)).allocBeside (.cells #[.int .i64 0, .int .i64 0, .int .i64 1, .int .i64 (-1), .int .i64 700] 3)), Stable.drew ((((Stable.refl w).alloc (.cells #[i64 (n / 9 % 13 * 1500 - 9000 + p), i64 (m / 9 % 9 * 1024 - 6000 + q)] 29)).alloc (.cells #[.int .i64 0, .int .i64 0, .int .i64 1, .int .i64 (-1), .int .i64 700] 3)).alloc (.cells #[.int .i64 0, .int .i64 0, .int .i64 1, .int .i64 (-1), .int .i64 700] 3))⟩

theorem Point_spec (a b : Int) (ha : inI64 a) (hb : inI64 b) (w : World) :
    Calls Try.prog 11 #[i64 a, i64 b] w fun e w' => ∃ x y, e = .returned (.agg #[i64 x, i64 y]) ∧ near x ∧ near y ∧ Sep w' [old w] ∧ Stable w w' :=
  (Point_fn a b ha hb w).mono fun _ _ ⟨he, hS, hst⟩ => ⟨_, _, he, near_ptX a, near_ptY a b, hS, hst⟩

end Go.Proofs.Ytjmlpjaahankcaa
