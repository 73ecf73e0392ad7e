/- Contracts: Seen, the program's. -/
import Derived.Test.YtjmlpjaahankcaaSeen
namespace Go.Proofs.Ytjmlpjaahankcaa
open Go.RowKit Go.Sl

variable {w : World} {L : List Asn}

theorem _root_.Go.Sl.Sep.rot {A : Asn} (h : Sep w (A :: L)) : Sep w (L ++ [A]) := h.perm (List.perm_append_singleton A L).symm

set_option maxHeartbeats 4000000 in
theorem filterS_spec {s : St} {a : Option Addr} {n c : Nat} {cs : List Int} (h : Seeing w s (.slice a n c) cs) (b3 b4 : Nat) {W : World} {o : Obj} (ho : o = .cells (match s.val with | .agg x => x | _ => #[]) 31)
    (hS : Sep W [pts b3 o, pts b4 (.cells #[.slice a n c] 22), old w]) (p : Int) (k : Nat) (hk : k ≤ 1000) :
    Calls Try.prog 39 #[i64 k, i64 p, .func (.func 40) #[] #[.pointer (some ⟨b3, 0, none⟩), .pointer (some ⟨b4, 0, none⟩)]] W fun e w' => ∃ v, e = .returned v ∧ Sep w' [rowI v (keepL (fun i => seesB s cs p i) k), old w] ∧ Stable W w' := by
  obtain ⟨iI, hiI, hI0, hI1, hI2⟩ := info_parts infoI
  have hC := fun (U : World) (M : List Asn) (hU : Sep U (pts b3 o :: pts b4 (.cells #[.slice a n c] 22) :: old w :: M)) (i : Int) => SeenC_spec h b3 b4 ho hU p i
  have HC := Lib.hid hC
  have HS := Lib.hid hS
  clear hC hS ho h
  generalize hq : (fun i : Nat => seesB s cs p i) = q at *
  have hq2 : ∀ j : Nat, seesB s cs p j = q j := fun j => by rw [← hq]
  have HQ := Lib.hid hq2
  clear hq hq2
  go_enter Try.func39, Try.ntmps39
  go_wp2_with fail
  go_loopw [7, 8, 10] (fun o7 u8 i wr => ∃ j : Nat, j ≤ k ∧ i = .int .i64 j ∧ Sep wr [rowI o7 (keepL q j), pts b3 o, pts b4 (.cells #[.slice a n c] 22), old w] ∧ Stable W wr) (fun _ _ i _ => k - (intOf i).toNat)
  case atStart => exact ⟨0, Nat.zero_le _, rfl, HS.out.addNil _ _, Stable.refl W⟩
  case round =>
    obtain ⟨j, hj, rfl, hSr, hst⟩ := hrel
    have hkl := keepL_length q j
    have HR := Lib.hid (And.intro hSr hst)
    clear hSr hst
    by_cases hlt : j < k
    · have hsuc := keepL_succ q j
      have hbit := HC.out wr [rowI _ (keepL q j)] HR.out.1.rot (j : Int)
      rw [HQ.out j] at hbit
      have HB := Lib.hid hbit
      clear hbit
      cases hb : q j
      · rw [hb] at hsuc HB
        rw [if_neg (by simp)] at hsuc
        have HSU := Lib.hid hsuc
        clear hsuc hb
        go_wp2_with fail
        refine HB.out.mono ?_
        rintro e w2 ⟨rfl, hS2, hst2⟩
        have H2 := Lib.hid (And.intro (hS2.pick 3) (HR.out.2.trans hst2))
        clear hS2 hst2
        go_wp2_with fail
        exact ⟨⟨j + 1, by omega, by go_num, by rw [HSU.out]; exact H2.out.1, H2.out.2⟩, by simp [intOf]; omega⟩
      · rw [hb] at hsuc HB
        rw [if_pos rfl] at hsuc
        have HSU := Lib.hid hsuc
        clear hsuc hb
        go_wp2_with fail
        refine HB.out.mono ?_
        rintro e w2 ⟨rfl, hS2, hst2⟩
        have hS3 := (hS2.pick 3).allocBeside (.cells #[i64 j] 3)
        have H2 := Lib.hid (HR.out.2.trans hst2)
        clear hS2 hst2
        go_wp2_with (at_builtin; refine wpList_append_sep rfl _ _ 22 22 rfl 3 iI _ 1 8 Try.underlying22 hiI hI0 hI1 hI2 rfl _ _ _ rfl hS3 1 [i64 j] (Src.ofSlice _ Try.underlying22 ⟨_, 0, none⟩ 1 1 _ rfl (fun j u hu => by rw [Addr.add_lit]; simpa using hu) (ints_one [(j : Int)])) (by unfold maxLen; omega) (by omega) ?_; intro v3 w3 hS4 hst4 hn4)
        exact ⟨⟨j + 1, by omega, by go_num, by rw [HSU.out]; exact rowI_app (l' := [(j : Int)]) hS4 rfl rfl, (H2.out.alloc _).trans hst4⟩, by simp [intOf]; omega⟩
    · obtain rfl : j = k := by omega
      clear hlt
      go_wp2_with fail
      go_ret
      exact ⟨_, rfl, (HR.out.1.pick 1).drop.pick 1 |>.drop, HR.out.2⟩

end Go.Proofs.Ytjmlpjaahankcaa
