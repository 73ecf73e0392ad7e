/- Contracts: two, the setup of the section's examples. -/
import Derived.Test.YtjmlpjaahankcaaMore
import Derived.Test.YtjmlpjaahankcaaSet
namespace Go.Proofs.Ytjmlpjaahankcaa
open Go.RowKit Go.Sl

variable {w : World} {L : List Asn}

def theBox : Bx := (-1000, -1000, 1000, 1000)
@[reducible] def twoSt (bb rb : Nat) : St := ⟨1, 2, some ⟨bb, 0, none⟩, 2, -1000, -1000, 1000, 1000, [theBox], some ⟨rb, 0, none⟩, 1, [], none, 0, 100, 0, 0, 0, 0, 0, 1, 0⟩

set_option maxRecDepth 100000 in
set_option maxHeartbeats 2000000 in
theorem two_spec (w : World) : Calls Try.prog 36 #[] w fun e w' => ∃ bb rb, e = .returned (twoSt bb rb).val ∧ Sep w' [Sl.held 4 (twoSt bb rb).roomsV 1 (bcells [theBox]), old w] ∧ Stable w w' := by
  have hS0 := (((((Sep.start w).alloc (.cells #[i64 0, .slice none 0 0, i64 0, i64 0, i64 0, i64 0, .slice none 0 0, .slice none 0 0, i64 0, i64 0, i64 0, i64 0, i64 0, i64 0, i64 0, i64 0] 31)).alloc (.cells #[i64 1024, .slice none 0 0, i64 0, i64 0, i64 0, i64 0, i64 1024, i64 0, i64 0] 78)).alloc (.cells #[i64 (-1000), i64 (-1000), i64 1000, i64 1000] 25)).alloc
    (.cells #[i64 1024, .slice none 0 0, i64 0, i64 0, i64 0, i64 0, i64 1024, i64 0, i64 0, i64 1024, .slice none 0 0, i64 0, i64 0, i64 0, i64 0, i64 1024, i64 0, i64 0] 78)).alloc (.cells #[i64 (-1000), i64 (-1000), i64 1000, i64 1000] 25)
  have hst0 := (((((Stable.refl w).alloc (.cells #[i64 0, .slice none 0 0, i64 0, i64 0, i64 0, i64 0, .slice none 0 0, .slice none 0 0, i64 0, i64 0, i64 0, i64 0, i64 0, i64 0, i64 0, i64 0] 31)).alloc (.cells #[i64 1024, .slice none 0 0, i64 0, i64 0, i64 0, i64 0, i64 1024, i64 0, i64 0] 78)).alloc (.cells #[i64 (-1000), i64 (-1000), i64 1000, i64 1000] 25)).alloc
    (.cells #[i64 1024, .slice none 0 0, i64 0, i64 0, i64 0, i64 0, i64 1024, i64 0, i64 0, i64 1024, .slice none 0 0, i64 0, i64 0, i64 0, i64 0, i64 1024, i64 0, i64 0] 78)).alloc (.cells #[i64 (-1000), i64 (-1000), i64 1000, i64 1000] 25)
  simp only [World.size_alloc] at hS0
  have H0 := Lib.hid (And.intro (hS0.pick 4) hst0)
  clear hS0 hst0
  go_enter Try.func36, Try.ntmps36
  go_wp2_with (refine wpList_store_sep rfl 31 _ _ rfl w.heap.size #[i64 1, .slice (some ⟨w.heap.size + 1 + 1 + 1, 0, none⟩) 2 2, i64 (-1000), i64 (-1000), i64 1000, i64 1000, .slice (some ⟨w.heap.size + 1 + 1 + 1 + 1, 0, none⟩) 1 1, .slice none 0 0, i64 100, i64 0, i64 0, i64 0, i64 0, i64 0, i64 1, i64 0] rfl rfl H0.out.1 (by kernel_rfl) rfl (by kernel_rfl) ?_; intro w3 hS3 hst3)
  refine bodyPost_ret (v := .agg _) (bodyPost_cell Try.results36 rfl hS3 Try.underlying31 rfl (by kernel_rfl)) rfl ?_
  exact ⟨_, _, rfl, hS3.drop.lit (size := 4) (n := 1) rfl (by decide) |>.pick 1 |>.drop |>.pick 1 |>.drop |>.pick 1 |>.drop, H0.out.2.trans hst3⟩

end Go.Proofs.Ytjmlpjaahankcaa
