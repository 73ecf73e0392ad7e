/- The walk of the law CellmemOps. -/
import Derived.Test.YtcpicaalponnlaaCoh
import Derived.Deep.CutRange
import Derived.Deep.CutBlock
namespace Go.Proofs.Ytcpicaalponnlaa
open Go.RowKit Go.Sl

variable {w : World} {L : List Asn}

theorem dropR {X Y : List Asn} (h : Sep w (X ++ Y)) : Sep w X := by
  have h2 : Sep w (Y ++ X) := h.perm List.perm_append_comm
  clear h
  induction Y with
  | nil => exact h2
  | cons A Y ih => exact ih h2.drop

/-- The reference's memory, in the cell p. -/
def refA (p : Nat) (vs vc : Value) (slv : List Value) (r : RS) : List Asn :=
  pts p (.cells #[vs, vc, i64 r.2.2] 52 (0, 0)) :: rowV vs slv :: rowI vc r.2.1 :: stA slv r.1

/-- What holds behind the reference's part of a round. -/
def Tail (w wx : World) (p : Value) (b6 : Nat) (rv : Value) (ol : List OpT) (s s' : MS) (k : Nat) (want : Value) (wl : List Int) : Prop :=
  ∃ (r' : RS) (vs' vc' : Value) (slv' : List Value), Coh s' r' ∧ r'.2.1.length ≤ k + 1 ∧ slv'.length = r'.1.length ∧ (∀ u ∈ slv', ∃ a n c, u = .slice a n c) ∧
    Sep wx (rowI want wl :: memS p s :: rowO rv ol :: old w :: refA b6 vs' vc' slv' r') ∧ Stable w wx

theorem Tail.mk {wx w5 : World} {p rv vs' vc' x y z : Value} {b6 k : Nat} {ol : List OpT} {s s' : MS} {r' : RS} {slv' : List Value} {Y : List Asn} (hc : Coh s' r') (hk : r'.2.1.length ≤ k + 1) (hl : slv'.length = r'.1.length) (ho : ∀ u ∈ slv', ∃ a n c, u = .slice a n c)
    (hS : Sep w5 (rowV vs' slv' :: rowI vc' r'.2.1 :: memS p s :: rowO rv ol :: old w :: pts b6 (.cells #[x, y, z] 52 (0, 0)) :: (stA slv' r'.1 ++ Y))) (hst : Stable w w5)
    (he : wx = ((w5.setCell ⟨b6, 0, none⟩ vs').setCell ⟨b6, 1, none⟩ vc').setCell ⟨b6, 2, none⟩ (i64 r'.2.2)) : Tail w wx p b6 rv ol s s' k (.slice none 0 0) [] := by
  subst he
  refine ⟨r', vs', vc', slv', hc, hk, hl, ho, ?_, ((hst.setCell _ _).setCell _ _).setCell _ _⟩
  have h1 := set3 (hS.pick 5) vs' vc' (i64 r'.2.2)
  have h2 : Sep _ ((pts b6 (.cells #[vs', vc', i64 r'.2.2] 52 (0, 0)) :: rowV vs' slv' :: rowI vc' r'.2.1 :: memS p s :: rowO rv ol :: old w :: stA slv' r'.1) ++ Y) := h1
  exact (((((dropR h2).pick 5).pick 5).pick 5).addNil _ _)
theorem Tail.keep {wx : World} {p rv vs' vc' want : Value} {b6 k : Nat} {ol : List OpT} {s s' : MS} {r' : RS} {slv' : List Value} {wl : List Int} (hc : Coh s' r') (hk : r'.2.1.length ≤ k + 1) (hl : slv'.length = r'.1.length) (ho : ∀ u ∈ slv', ∃ a n c, u = .slice a n c)
    (hS : Sep wx (rowI want wl :: rowV vs' slv' :: rowI vc' r'.2.1 :: memS p s :: rowO rv ol :: old w :: pts b6 (.cells #[vs', vc', i64 r'.2.2] 52 (0, 0)) :: stA slv' r'.1)) (hst : Stable w wx) : Tail w wx p b6 rv ol s s' k want wl :=
  ⟨r', vs', vc', slv', hc, hk, hl, ho, ((((((hS.pick 2).pick 2).pick 6).pick 6).pick 6).pick 6).pick 6, hst⟩
theorem stA_take (slv : List Value) (sts : List (List Int)) (n : Nat) : stA slv sts = stA (slv.take n) (sts.take n) ++ (stA slv sts).drop n := by
  conv => lhs; rw [← List.take_append_drop n (stA slv sts)]
  unfold stA; rw [List.take_zipWith]

set_option maxRecDepth 100000 in
set_option maxHeartbeats 8000000 in
theorem cellmemOps_walk {u v : Value} {cells l : List Int} (hu : readsI w u cells) (bu : cells.length ≤ 9223372036854775807) (_ : ∀ x ∈ cells, inI64 x)
    (hv : readsI w v l) (bv : l.length ≤ 9223372036854775807) (wv : ∀ x ∈ l, inI64 x) :
    Calls Try.prog 11 #[u, v] w fun e w' => e = .returned (.bool true) ∧ Below w.heap.size w w' := by
  obtain ⟨au, cu, rfl⟩ := readsI_len hu
  obtain ⟨av, cv, rfl⟩ := readsI_len hv
  have HU := Lib.hid hu
  have HV := Lib.hid hv
  clear hu hv
  go_enter Try.func11, Try.ntmps11
  go_wp2_with fail
  refine (six_spec HU.out bu).mono ?_
  rintro e w1 ⟨v1, rfl, hS1, hst1⟩
  go_wp2_with fail
  refine (New_spec hS1.reads (by rw [sixL_length]; omega)).mono ?_
  rintro e w2 ⟨p, rfl, hS2, hst2, hp⟩
  have hS2 := (hS1.mount hS2)
  have hS2 := (hS2.pick 1).drop
  have hst2 := hst1.trans hst2
  obtain ⟨p0, _, _, _, _, rfl, _⟩ := mem_cells hS2
  clear hp hS1 hst1
  go_wp2_with fail
  refine (six_spec (HU.out.of_heap (hS2.pick 1).oldGet) bu).mono ?_
  rintro e w3 ⟨v3, rfl, hS3, hst3⟩
  have hS3 := hS2.mount (hS3.pick 1)
  have hst3 := hst2.trans hst3
  clear hS2 hst2
  go_wp2_with fail
  refine (New9_spec hS3.reads (by rw [sixL_length]; omega)).mono ?_
  rintro e w4 ⟨vs4, x4, rfl, hS4, hst4⟩
  have hS4 := hS3.mount (hS4.pick 3)
  replace hst4 := hst3.trans hst4
  obtain ⟨a4, c4, rfl, _⟩ := hS4.rowShape
  clear hS3 hst3
  obtain ⟨xa, xc, rfl, _⟩ := (hS4.pick 2).rowShape
  have hS5 := hS4.alloc (.cells #[.slice a4 1 c4, .slice none 0 0, i64 0] 52)
  have hst5 := hst4.alloc (.cells #[.slice a4 1 c4, .slice none 0 0, i64 0] 52)
  have hO := Ops_spec (HV.out.of_heap (hS5.pick 6).oldGet) bv wv
  have HO := Lib.hid hO
  clear hO
  go_wp2_with fail
  refine HO.out.mono ?_
  rintro e w6 ⟨v6, rfl, hS6, hst6⟩
  have hS6 := hS5.mount (hS6.pick 1)
  have hst6 := hst5.trans hst6
  have hol := opsL_length l
  obtain ⟨ao, co, rfl, _⟩ := hS6.rowShape
  clear HO hS4 hst4 hS5 hst5
  generalize w4.heap.size = b6 at hS6 ⊢
  have hS7 := ((((hS6.pick 5).drop).pick 6).pick 1).pick 6
  have hcoh0 : Coh (upS cells l 0) ([sixL cells], [], 0) := Coh.start (sixL cells)
  clear HU HV bu bv wv
  go_wp2_with fail
  go_loopw [8] (fun i wr => ∃ (k : Nat) (r : RS) (vs vc : Value) (slv : List Value), k ≤ (opsL l).length ∧ i = .int .i64 k ∧ Coh (upS cells l k) r ∧ r.2.1.length ≤ k ∧ slv.length = r.1.length ∧ (∀ u ∈ slv, ∃ a n c, u = .slice a n c) ∧
    Sep wr (memS (.pointer (some ⟨p0, 0, none⟩)) (upS cells l k) :: rowO (.slice ao (opsL l).length co) (opsL l) :: old w :: refA b6 vs vc slv r) ∧ Stable w wr) (fun i _ => (opsL l).length - (intOf i).toNat)
  case atStart => 
    refine ⟨0, _, .slice a4 1 c4, .slice none 0 0, [.slice xa (sixL cells).length xc], Nat.zero_le _, rfl, hcoh0, Nat.zero_le _, rfl, by simp, ?_, hst6⟩
    rw [show upS cells l 0 = (sixL cells, 0, []) from rfl]
    exact hS7
  case round =>
    clear hS6 hst6 hS7 hcoh0
    obtain ⟨k, r, vs, vc, slv, hk, rfl, hcoh, hck, hsl, hone, hSr, hst⟩ := hrel
    have hinv := upS_inv cells l k hk
    by_cases hlt : k < (opsL l).length
    · obtain ⟨g, cap, hv', _, _, hgc, _, _, _⟩ := (hSr.pick 1).rowAt (by omega)
      obtain rfl : ao = some ⟨g, 0, none⟩ := by simpa using congrArg (fun v => match v with | Value.slice a _ _ => a | _ => none) hv'
      obtain ⟨o1, o2, o3⟩ := ocells_get (opsL l) k hlt
      have c1 := (hgc (k * 3) (by rw [ocells_length]; omega)).trans o1
      have c2 := (hgc (k * 3 + 1) (by rw [ocells_length]; omega)).trans o2
      have c3 := (hgc (k * 3 + 2) (by rw [ocells_length]; omega)).trans o3
      have hsuc := upS_succ cells l k hlt
      have OC1 := Lib.hid o1
      have OC2 := Lib.hid o2
      have OC3 := Lib.hid o3
      have HST := Lib.hid hst
      have HSR := Lib.hid hSr
      have HINV := Lib.hid hinv
      have HCOH := Lib.hid hcoh
      have HSUC := Lib.hid hsuc
      have HONE := Lib.hid hone
      have HSL := Lib.hid hsl
      clear hv' hgc o1 o2 o3 hsuc hst hSr hinv hcoh hone hsl
      generalize (opsL l).getD k (0, 0, 0) = o at *
      obtain ⟨d, n, x⟩ := o
      dsimp only at c1 c2 c3
      go_upto_block 2 with fail
      go_cut [9, 10] from 23 to 124 (fun want f wx => f = i64 (applyE (upS cells l k) (d, n, x)) ∧ Tail w wx (.pointer (some ⟨p0, 0, none⟩)) b6 (.slice (some ⟨g, 0, none⟩) (opsL l).length co) (opsL l) (upS cells l k) (upS cells l (k + 1)) k want (applyR (upS cells l k) (d, n, x)))
      case first =>
        have hX := (HSR.out.pick 5).pick 5
        have hcoh := HCOH.out
        have hk30 : r.2.1.length ≤ 1000 := by omega
        have hlen : slv.length = r.2.1.length + 1 := by rw [HSL.out]; exact hcoh.len
        have q0 := cell_of_blk (hX.pick 5).get 0
        have q1 := cell_of_blk (hX.pick 5).get 1
        have q2 := cell_of_blk (hX.pick 5).get 2
        obtain ⟨aa, ca, rfl, _⟩ := hX.rowShape
        obtain ⟨ac, cc, rfl, _⟩ := (hX.pick 1).rowShape
        have HX := Lib.hid hX
        have HC := Lib.hid hcoh
        have HLEN := Lib.hid hlen
        clear hX hcoh hlen
        by_cases h1 : d = 1
        · subst h1
          by_cases hz : chk (upS cells l k).2.1 (upS cells l k).2.2 n = 0
          · obtain ⟨kk, rfl⟩ : ∃ kk : Nat, n = kk := ⟨n.toNat, by have := chk_zero hz; have := HC.out.low; omega⟩
            have hcz := chk_zero hz
            have hm := HC.out.mark
            have hbz := HC.out.base
            have hun := Undo9_ok (base := r.2.2) HX.out.drew HLEN.out hk30 kk (by omega) (by omega)
            have HUN := Lib.hid hun
            have HZ := Lib.hid hz
            clear hz hcz hm hbz hun
            go_wp2_with fail
            go_region_with (go_at_call 32; refine HUN.out.mono ?_; rintro e w5 ⟨vs5, vc5, rfl, hS5, hst5⟩; obtain ⟨a5, m5, rfl, _⟩ := hS5.rowShape; obtain ⟨a6, m6, rfl, _⟩ := (hS5.pick 1).rowShape; have q0 := cell_of_blk (hS5.pick 5).get 0; have q1 := cell_of_blk (hS5.pick 5).get 1; have q2 := cell_of_blk (hS5.pick 5).get 2; have qf := frozen_of_blk (hS5.pick 5).get)
            all_goals
              go_wp2_with fail
              go_meet
              case rel =>
                have hcu := HC.out.undo kk HZ.out
                have hap : upS cells l (k + 1) = undoS (upS cells l k) kk := by rw [HSUC.out]; simp [applyS]
                rw [← hap] at hcu
                refine ⟨by simp [applyE, HZ.out], ?_⟩
                rw [stA_take slv r.1 (kk + 1)] at hS5
                exact Tail.mk (r' := undoR r kk) hcu (by simp only [undoR, List.length_take]; omega) (by simp only [undoR, List.length_take]; rw [HSL.out]) (fun u hu => HONE.out u (List.mem_of_mem_take hu)) hS5 (HST.out.drew.trans hst5) (by simp [undoR])
          · have hun := Undo9_no (base := r.2.2) HX.out.drew n (by rw [HC.out.chk]; exact hz)
            rw [HC.out.chk] at hun
            have HUN := Lib.hid hun
            have HZ := Lib.hid hz
            clear hz hun
            go_wp2_with fail
            go_region_with (go_at_call 32; refine HUN.out.mono ?_; rintro e w5 ⟨rfl, hS5, hst5⟩; have q0 := cell_of_blk (hS5.pick 5).get 0; have q1 := cell_of_blk (hS5.pick 5).get 1; have q2 := cell_of_blk (hS5.pick 5).get 2; have qf := frozen_of_blk (hS5.pick 5).get)
            all_goals
              go_wp2_with fail
              go_meet
              case rel =>
                have hap : upS cells l (k + 1) = upS cells l k := by rw [HSUC.out]; simp [applyS, undoS, HZ.out]
                have hcu := HC.out
                rw [← hap] at hcu
                refine ⟨by simp [applyE], ?_⟩
                rw [← List.append_nil (stA slv r.1)] at hS5
                exact Tail.mk (r' := r) hcu (by omega) HSL.out HONE.out hS5 (HST.out.drew.trans hst5) (by simp)
        by_cases h2 : d = 2
        · subst h2
          by_cases hz : chk (upS cells l k).2.1 (upS cells l k).2.2 n = 0
          · have hcz := chk_zero hz
            have hm := HC.out.mark
            have hbz := HC.out.base
            have hun := Discard9_ok (base := r.2.2) HX.out.drew n (by omega) (by omega)
            have HUN := Lib.hid hun
            have HZ := Lib.hid hz
            clear hz hcz hm hbz hun
            go_wp2_with fail
            go_region_with (go_at_call 33; refine HUN.out.mono ?_; rintro e w5 ⟨rfl, hS5, hst5⟩; have q0 := cell_of_blk (hS5.pick 5).get 0; have q1 := cell_of_blk (hS5.pick 5).get 1; have q2 := cell_of_blk (hS5.pick 5).get 2; have qf := frozen_of_blk (hS5.pick 5).get)
            all_goals
              go_wp2_with fail
              go_meet
              case rel =>
                have hcu := HC.out.disc n HZ.out
                have hap : upS cells l (k + 1) = discS (upS cells l k) n := by rw [HSUC.out]; simp [applyS]
                rw [← hap] at hcu
                refine ⟨by simp [applyE, HZ.out], ?_⟩
                rw [← List.append_nil (stA slv r.1)] at hS5
                exact Tail.mk (r' := discR r n) hcu (by simp only [discR]; omega) HSL.out HONE.out hS5 (HST.out.drew.trans hst5) (by simp [discR])
          · have hun := Discard9_no (base := r.2.2) HX.out.drew n (by rw [HC.out.chk]; exact hz)
            rw [HC.out.chk] at hun
            have HUN := Lib.hid hun
            have HZ := Lib.hid hz
            clear hz hun
            go_wp2_with fail
            go_region_with (go_at_call 33; refine HUN.out.mono ?_; rintro e w5 ⟨rfl, hS5, hst5⟩; have q0 := cell_of_blk (hS5.pick 5).get 0; have q1 := cell_of_blk (hS5.pick 5).get 1; have q2 := cell_of_blk (hS5.pick 5).get 2; have qf := frozen_of_blk (hS5.pick 5).get)
            all_goals
              go_wp2_with fail
              go_meet
              case rel =>
                have hap : upS cells l (k + 1) = upS cells l k := by rw [HSUC.out]; simp [applyS, discS, HZ.out]
                have hcu := HC.out
                rw [← hap] at hcu
                refine ⟨by simp [applyE], ?_⟩
                rw [← List.append_nil (stA slv r.1)] at hS5
                exact Tail.mk (r' := r) hcu (by omega) HSL.out HONE.out hS5 (HST.out.drew.trans hst5) (by simp)
        by_cases h3 : d = 3
        · subst h3
          by_cases hz : chk (upS cells l k).2.1 (upS cells l k).2.2 n = 0
          · obtain ⟨kk, rfl⟩ : ∃ kk : Nat, n = kk := ⟨n.toNat, by have := chk_zero hz; have := HC.out.low; omega⟩
            have hcz := chk_zero hz
            have hm := HC.out.mark
            have hbz := HC.out.base
            have hmemL := stA_mem slv r.1 r.2.1.length (by rw [HLEN.out]; omega) (by rw [HC.out.len]; omega)
            rw [HC.out.now] at hmemL
            obtain ⟨aq, cq, hlast, _⟩ := (HX.out.mem' (List.mem_append_right [_, _, _, _, _, _] hmemL)).rowShape
            have h6 := HINV.out.1
            have hun := Changed9_ok (base := r.2.2) HX.out.drew HLEN.out hk30 kk (by omega) (by omega) hlast (by omega)
            rw [HC.out.changed kk hz] at hun
            have HUN := Lib.hid hun
            have HZ := Lib.hid hz
            clear hz hcz hm hbz hun hmemL hlast h6
            go_wp2_with fail
            go_region_with (go_at_call 34; refine HUN.out.mono ?_; rintro e w5 ⟨v5, rfl, hS5, hst5⟩)
            all_goals
              go_wp2_with fail
              go_meet
              case rel =>
                have hap : upS cells l (k + 1) = upS cells l k := by rw [HSUC.out]; simp [applyS]
                have hcu := HC.out
                rw [← hap] at hcu
                refine ⟨by simp [applyE, HZ.out], ?_⟩
                exact Tail.keep (r' := r) hcu (by omega) HSL.out HONE.out hS5 (HST.out.drew.trans hst5)
          · have hun := Changed9_no (base := r.2.2) HX.out.drew n (by rw [HC.out.chk]; exact hz)
            rw [HC.out.chk] at hun
            have HUN := Lib.hid hun
            have HZ := Lib.hid hz
            clear hz hun
            go_wp2_with fail
            go_region_with (go_at_call 34; refine HUN.out.mono ?_; rintro e w5 ⟨rfl, hS5, hst5⟩)
            all_goals
              go_wp2_with fail
              go_meet
              case rel =>
                have hap : upS cells l (k + 1) = upS cells l k := by rw [HSUC.out]; simp [applyS]
                have hcu := HC.out
                rw [← hap] at hcu
                have hre : applyR (upS cells l k) (3, n, x) = [] := by simp [applyR, chgS, HZ.out]
                rw [hre]
                refine ⟨by simp [applyE], ?_⟩
                exact Tail.keep (r' := r) hcu (by omega) HSL.out HONE.out (hS5.addNil _ _) (HST.out.drew.trans hst5)
        · have b1 : (d == 1) = false := by simpa using h1
          have b2 : (d == 2) = false := by simpa using h2
          have b3 : (d == 3) = false := by simpa using h3
          have e1 : applyS (upS cells l k) (d, n, x) = setS (upS cells l k) n x := by simp [applyS, h1, h2, h3]
          have e2 : applyR (upS cells l k) (d, n, x) = [] := by simp [applyR, h3]
          have e3 : applyE (upS cells l k) (d, n, x) = 0 := by simp [applyE, h1, h2, h3]
          have hap : upS cells l (k + 1) = setS (upS cells l k) n x := by rw [HSUC.out, e1]
          have HAP := Lib.hid hap
          have E2 := Lib.hid e2
          have E3 := Lib.hid e3
          clear e1 e2 e3 hap h1 h2 h3
          by_cases hn : 0 ≤ n ∧ n < (upS cells l k).1.length
          · obtain ⟨kk, rfl⟩ : ∃ kk : Nat, n = kk := ⟨n.toNat, by omega⟩
            have hmemL := stA_mem slv r.1 r.2.1.length (by rw [HLEN.out]; omega) (by rw [HC.out.len]; omega)
            rw [HC.out.now] at hmemL
            obtain ⟨aq, cq, hlast, _⟩ := (HX.out.mem' (List.mem_append_right [_, _, _, _, _, _] hmemL)).rowShape
            have h6 := HINV.out.1
            have hmemL2 := hmemL
            rw [hlast] at hmemL2
            have hun := Set9_in (base := r.2.2) HX.out.drew HLEN.out hk30 HONE.out hlast (by omega) (fun w' h => (h.mem' (List.mem_append_right [_, _, _, _] hmemL2)).reads) kk x (by omega)
            have HUN := Lib.hid hun
            have HN := Lib.hid hn
            clear hn hun hmemL hmemL2 hlast h6
            go_wp2_with fail
            go_region_with (go_at_call 35; refine HUN.out.mono ?_; rintro e w5 ⟨vs5, vc5, an, cn, rfl, hS5, hst5⟩; obtain ⟨a5, m5, rfl, _⟩ := hS5.rowShape; obtain ⟨a6, m6, rfl, _⟩ := (hS5.pick 1).rowShape; have q0 := cell_of_blk (hS5.pick 6).get 0; have q1 := cell_of_blk (hS5.pick 6).get 1; have q2 := cell_of_blk (hS5.pick 6).get 2; have qf := frozen_of_blk (hS5.pick 6).get)
            all_goals
              go_wp2_with fail
              go_meet
              case rel =>
                have hcu := HC.out.set kk x (by have := HN.out; omega)
                rw [← HAP.out] at hcu
                refine ⟨by rw [E3.out], ?_⟩
                rw [E2.out]
                have hl1 := HSL.out
                have hS6 := hS5.perm (L' := _ :: _ :: _ :: _ :: _ :: _ :: (stA slv r.1 ++ [_])) (List.Perm.cons _ (List.Perm.cons _ (List.perm_append_singleton _ (_ :: _ :: _ :: _ :: stA slv r.1)).symm))
                rw [← stA_snoc _ _ _ _ hl1, ← List.append_nil (stA _ _)] at hS6
                exact Tail.mk (r' := setR r (upS cells l k).1 kk x) hcu (by simp only [setR, List.length_append, List.length_cons, List.length_nil]; omega) (by simp only [setR, List.length_append, List.length_cons, List.length_nil]; omega)
                  (fun u hu => by rcases List.mem_append.1 hu with hu | hu; exact HONE.out u hu; exact ⟨_, _, _, by simpa using hu⟩) hS6 (HST.out.drew.trans hst5) (by simp [setR])
          · have hmemL := stA_mem slv r.1 r.2.1.length (by rw [HLEN.out]; omega) (by rw [HC.out.len]; omega)
            rw [HC.out.now] at hmemL
            obtain ⟨aq, cq, hlast, _⟩ := (HX.out.mem' (List.mem_append_right [_, _, _, _, _, _] hmemL)).rowShape
            have h6 := HINV.out.1
            have hun := Set9_out (base := r.2.2) HX.out.drew HLEN.out hk30 hlast (by omega) n x (by omega)
            have HUN := Lib.hid hun
            have HN := Lib.hid hn
            clear hn hun hmemL hlast h6
            go_wp2_with fail
            go_region_with (go_at_call 35; refine HUN.out.mono ?_; rintro e w5 ⟨rfl, hS5, hst5⟩; have q0 := cell_of_blk (hS5.pick 5).get 0; have q1 := cell_of_blk (hS5.pick 5).get 1; have q2 := cell_of_blk (hS5.pick 5).get 2; have qf := frozen_of_blk (hS5.pick 5).get)
            all_goals
              go_wp2_with fail
              go_meet
              case rel =>
                have hcu := HC.out.setOut n x (by have := HN.out; omega)
                rw [← HAP.out] at hcu
                refine ⟨by rw [E3.out], ?_⟩
                rw [E2.out]
                rw [← List.append_nil (stA slv r.1)] at hS5
                exact Tail.mk (r' := r) hcu (by omega) HSL.out HONE.out hS5 (HST.out.drew.trans hst5) (by simp)
      case rest =>
        obtain ⟨rfl, r', vs', vc', slv', hcoh', hck', hsl', hone', hS, hst⟩ := hcut
        obtain ⟨aw, mw, rfl, _⟩ := hS.rowShape
        obtain ⟨va, vm, rfl, _⟩ := (hS.pick 5).rowShape
        obtain ⟨ca, cm, rfl, _⟩ := (hS.pick 6).rowShape
        have c1 := ((hS.pick 2).rowCell (i := k * 3) (by rw [ocells_length]; omega)).trans OC1.out
        have c2 := ((hS.pick 2).rowCell (i := k * 3 + 1) (by rw [ocells_length]; omega)).trans OC2.out
        have c3 := ((hS.pick 2).rowCell (i := k * 3 + 2) (by rw [ocells_length]; omega)).trans OC3.out
        have hinv := HINV.out
        have hap := apply_spec (hS.pick 1) (hinv.small (by omega)) (by have := hinv.2.2.1; have := hinv.2.1; omega) (d, n, x)
        rw [← HSUC.out] at hap
        have hrl : (applyR (upS cells l k) (d, n, x)).length ≤ 6 := by
          unfold applyR
          split
          · unfold chgS
            split
            · exact Nat.le_trans (upTo_length _ _) (by rw [hinv.1]; exact Nat.le_refl _)
            · simp
          · simp
        have hinv' := upS_inv cells l (k + 1) (by omega)
        have HAP := Lib.hid hap
        have HST := Lib.hid hst
        have HRL := Lib.hid hrl
        have HC := Lib.hid hcoh'
        have HO := Lib.hid hone'
        have HSL := Lib.hid hsl'
        have HINV' := Lib.hid hinv'
        have hsm' := hinv'.small (by omega)
        have HSM := Lib.hid hsm'
        clear hap hst hrl hcoh' hone' hsl' hinv' hsm' hinv hS HSR HCOH
        generalize applyE (upS cells l k) (d, n, x) = ee at *
        generalize applyR (upS cells l k) (d, n, x) = wl at *
        go_wp2_with fail
        refine HAP.out.mono ?_
        rintro e w7 ⟨v7, rfl, hS7, hst7⟩
        replace hst7 := HST.out.trans hst7
        obtain ⟨a7, m7, rfl, _⟩ := hS7.rowShape
        clear HAP HST c1 c2 c3
        generalize hs1 : upS cells l (k + 1) = s1 at *
        have HS1 := Lib.hid hs1
        clear hs1
        have hlen : slv'.length = r'.2.1.length + 1 := by rw [HSL.out]; exact HC.out.len
        have hmemL := stA_mem slv' r'.1 r'.2.1.length (by omega) (by rw [HC.out.len]; omega)
        rw [HC.out.now] at hmemL
        obtain ⟨aq, cq, hlast, _⟩ := (hS7.mem' (List.mem_append_right [_, _, _, _, _, _, _, _] hmemL)).rowShape
        rw [hlast] at hmemL
        have hmk := HC.out.mark
        have hbz := HC.out.base
        have h6 := HINV'.out.1
        have HMEM := Lib.hid hmemL
        have HLAST := Lib.hid hlast
        have HLEN := Lib.hid hlen
        have hmk' : s1.2.1 + (s1.2.2.length : Int) = (r'.2.1.length : Int) := hmk.symm
        have hlg' : (s1.2.2.length : Int) = (r'.2.1.length : Int) - r'.2.2 := by omega
        have HMK := Lib.hid hmk'
        have HLG := Lib.hid hlg'
        have hb0 : 0 ≤ r'.2.2 ∧ r'.2.2 ≤ 30 ∧ r'.2.1.length ≤ 1000 := by have := HC.out.low; have := HINV'.out.2.2.1; omega
        have HL6 := Lib.hid h6
        have q0 := cell_of_blk (hS7.pick 5).get 0
        have q1 := cell_of_blk (hS7.pick 5).get 1
        have q2 := cell_of_blk (hS7.pick 5).get 2
        clear hmemL hlast hlen hmk hbz h6 hmk' hlg'
        go_wp2_with fail
        have hwr : IntKind.i64.wrap ((r'.2.1.length : Int) - r'.2.2) = (r'.2.1.length : Int) - r'.2.2 := IntWalk.i64_in _ (by omega)
        go_region_held3 (fun w' => w'.cell? ⟨b6, 0, none⟩ = some (.slice va slv'.length vm) ∧ w'.cell? ⟨b6, 1, none⟩ = some (.slice ca r'.2.1.length cm) ∧ w'.cell? ⟨b6, 2, none⟩ = some (i64 r'.2.2)) (first | exact ⟨q0, q1, q2⟩) (first
          | (go_at_call 26; refine (Logged_spec (hS12.pick 1) HSM.out).mono ?_; rintro e w13 ⟨rfl, hw13⟩; have hS13 := hS12; rw [hw13] at hS13; have hst13 := hst12; rw [hw13] at hst13; clear hw13; rw [HLG.out]; have q0 := cell_of_blk (hS13.pick 6).get 0; have q1 := cell_of_blk (hS13.pick 6).get 1; have q2 := cell_of_blk (hS13.pick 6).get 2)
          | (go_at_call 38; refine (Mark9_spec r'.2.1.length w13).mono ?_; rintro e w14 ⟨rfl, hw14⟩; have hS14 := hS13.allocBeside (.cells #[.slice va slv'.length vm, .slice ca r'.2.1.length cm, i64 r'.2.2] 52); rw [← hw14] at hS14; have hst14 := hst13.alloc (.cells #[.slice va slv'.length vm, .slice ca r'.2.1.length cm, i64 r'.2.2] 52); rw [← hw14] at hst14; clear hw14; have q0 := cell_of_blk (hS14.pick 6).get 0; have q1 := cell_of_blk (hS14.pick 6).get 1; have q2 := cell_of_blk (hS14.pick 6).get 2)
          | (go_at_call 38; refine (Mark9_spec r'.2.1.length _).mono ?_; rintro e w12 ⟨rfl, hw12⟩; have hS12 := hS11.allocBeside (.cells #[.slice va slv'.length vm, .slice ca r'.2.1.length cm, i64 r'.2.2] 52); rw [← hw12] at hS12; have hst12 := hst11.alloc (.cells #[.slice va slv'.length vm, .slice ca r'.2.1.length cm, i64 r'.2.2] 52); rw [← hw12] at hst12; clear hw12; have q0 := cell_of_blk (hS12.pick 6).get 0; have q1 := cell_of_blk (hS12.pick 6).get 1; have q2 := cell_of_blk (hS12.pick 6).get 2)
          | (go_at_call 23; refine (Mark_spec (hS10.pick 1) HSM.out).mono ?_; rintro e w11 ⟨rfl, n11, hw11⟩; have hS11 := hS10.drewN n11; rw [← hw11] at hS11; have hst11 := hst10.drewN n11; rw [← hw11] at hst11; clear hw11; rw [HMK.out]; have q0 := cell_of_blk (hS11.pick 6).get 0; have q1 := cell_of_blk (hS11.pick 6).get 1; have q2 := cell_of_blk (hS11.pick 6).get 2)
          | (go_at_call 15; refine (SameInts_spec hS9.reads (hS9.mem' (List.mem_append_right [_, _, _, _, _, _, _, _, _] HMEM.out)).reads (by rw [HL6.out]; omega) (by rw [HL6.out]; omega)).mono ?_; rintro e w10 ⟨rfl, n10, hw10⟩; rw [sameE_self]; have hS10 := hS9.drewN n10; rw [← hw10] at hS10; have hst10 := hst9.drewN n10; rw [← hw10] at hst10; clear hw10; have q0 := cell_of_blk (hS10.pick 6).get 0; have q1 := cell_of_blk (hS10.pick 6).get 1; have q2 := cell_of_blk (hS10.pick 6).get 2)
          | (go_at_call 37; refine (Now9_spec (hS8.pick 7) HLEN.out (by omega)).mono ?_; rintro e w9 ⟨rfl, hw9⟩; rw [HLAST.out]; have hS9 := hS8.allocBeside (.cells #[.slice va slv'.length vm, .slice ca r'.2.1.length cm, i64 r'.2.2] 52); rw [← hw9] at hS9; have hst9 := hst8.alloc (.cells #[.slice va slv'.length vm, .slice ca r'.2.1.length cm, i64 r'.2.2] 52); rw [← hw9] at hst9; clear hw9; have q0 := cell_of_blk (hS9.pick 6).get 0; have q1 := cell_of_blk (hS9.pick 6).get 1; have q2 := cell_of_blk (hS9.pick 6).get 2)
          | (go_at_call 14; refine (Cells_spec (hS7'.pick 1) HSM.out).mono ?_; rintro e w8 ⟨v8, rfl, hS8, hst8⟩; replace hst8 := hst7'.trans hst8; obtain ⟨a8, m8, rfl, _⟩ := hS8.rowShape; have q0 := cell_of_blk (hS8.pick 6).get 0; have q1 := cell_of_blk (hS8.pick 6).get 1; have q2 := cell_of_blk (hS8.pick 6).get 2)
          | (go_at_call 15; refine (SameInts_spec hS7.drew.reads (hS7.drew.pick 2).reads (Nat.le_trans HRL.out (by omega)) (Nat.le_trans HRL.out (by omega))).mono ?_; rintro e w7' ⟨rfl, n7, hw7⟩; rw [sameE_self]; have hS7' := hS7.drew.drewN n7; rw [← hw7] at hS7'; have hst7' := hst7.drew.drewN n7; rw [← hw7] at hst7'; clear hw7; have q0 := cell_of_blk (hS7'.pick 5).get 0; have q1 := cell_of_blk (hS7'.pick 5).get 1; have q2 := cell_of_blk (hS7'.pick 5).get 2))
        go_wp2_with fail
        refine ⟨⟨k + 1, r', .slice va slv'.length vm, .slice ca r'.2.1.length cm, slv', by omega, by go_num, ?_, hck', HSL.out, HO.out, ?_, hst14⟩, by simp [intOf]; omega⟩
        · rw [HS1.out]; exact HC.out
        · rw [HS1.out]; exact (((hS14.drop.pick 1).drop).pick 1).drop
    · obtain rfl : k = (opsL l).length := by omega
      have hsm := hinv.small (by omega)
      have h6 := hinv.1
      have hlen := Len_spec hSr hsm
      rw [h6] at hlen
      clear hlt hinv hcoh hck hsl hone h6 hk
      generalize (opsL l).length = kk at *
      go_wp2_with fail
      refine hlen.mono ?_
      rintro e w8 ⟨rfl, rfl⟩
      go_wp2_with fail
      refine (lives_spec hSr).mono ?_
      rintro e w10 ⟨rfl, hS10, hst10⟩
      have hst10 := hst.trans hst10
      go_wp2_with fail
      go_ret
      exact ⟨rfl, (hS10.pick 2).below hst10⟩

end Go.Proofs.Ytcpicaalponnlaa
