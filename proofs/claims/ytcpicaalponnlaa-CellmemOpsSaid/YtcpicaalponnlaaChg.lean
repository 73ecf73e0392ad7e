/- Contracts of package cellmem: Changed. -/
import Derived.Test.YtcpicaalponnlaaDisc
import Derived.Test.YtcpicaalponnlaaChg0
namespace Go.Proofs.Ytcpicaalponnlaa
open Go.RowKit Go.Sl

theorem infoB : (Try.prog.info? 4).map (fun i => (i.zero, i.size, i.bytes)) = some (some (.bool false), 1, 1) := by kernel_rfl

theorem run_equalE (w : World) (a b c d : Int) : (Op.equal 68 (.agg #[i64 a, i64 b]) (.agg #[i64 c, i64 d])).run Try.prog w = .ok (a == c && b == d) w := by
  have hp : Try.prog.stoodInHeld 68 = false := by kernel_rfl
  have hu : Try.prog.underlying 68 = some (.struct (Try.prog.fieldsOf 68)) := by kernel_rfl
  obtain ⟨f1, f2, hf, n1, n2, t1, t2, o1, o2⟩ : ∃ f1 f2 : Field, (Try.prog.fieldsOf 68).toList = [f1, f2] ∧ f1.name ≠ "_" ∧ f2.name ≠ "_" ∧ f1.type = 3 ∧ f2.type = 3 ∧ f1.offset = 0 ∧ f2.offset = 1 :=
    ⟨_, _, rfl, by decide, by decide, rfl, rfl, rfl, rfl⟩
  have e1 : ∀ w x y, (Op.equalIn 9999 3 (i64 x) (i64 y)).run Try.prog w = .ok (x == y) w := fun w x y => run_equalIn_int w 9998 3 .i64 .i64 x y Try.underlying3
  simp [Op.equal, Op.maxDepth, run_equalIn_struct w 9999 68 _ _ hu hp, hf, Op.eqFields, n1, n2, t1, t2, o1, o2, part, e1]
  by_cases h1 : a = c <;> by_cases h2 : b = d <;> simp [h1, h2]
theorem eqGuardE : Try.prog.eqGuardType Try.prog.depth 68 = false := by kernel_rfl
@[go_sem ↓] theorem run_eqGuardE (w : World) (x y : Operand) (xs ys : Array Value) : (eqGuard .neq 68 x y (.agg xs) (.agg ys)).run Try.prog w = .ok () w := run_eqGuard_agg w .neq 68 x y xs ys eqGuardE
@[go_sem ↓] theorem run_neqE (w : World) (a b c d : Int) : (binOp .neq 68 (.agg #[i64 a, i64 b]) (.agg #[i64 c, i64 d])).run Try.prog w = .ok (.bool (!(a == c && b == d))) w := by
  simp only [binOp]
  simp [run_equalE]

variable {w : World} {L : List Asn} {p : Value} {cs : List Int} {base : Int} {log : List (Int × Int)}

set_option maxHeartbeats 400000 in
theorem Changed_no (hS : Sep w (mem p cs base log :: L)) (hb : Small cs base log) (mark : Int) (hc : chk base log mark ≠ 0) :
    Calls Try.prog 17 #[p, i64 mark] w fun e w' => e = .returned (.tuple #[.slice none 0 0, i64 (chk base log mark)]) ∧ Sep w' (mem p cs base log :: L) ∧ Stable w w' := by
  have hk := check_spec hS hb mark
  obtain ⟨p0, _, _, _, _, rfl, _⟩ := mem_cells hS
  clear hb
  have hc' : (chk base log mark != 0) = true := by simpa using hc
  clear hc
  generalize chk base log mark = c at *
  go_enter Try.func17, Try.ntmps17
  go_wp2_with (go_at_call 41; refine hk.mono ?_; rintro e w' ⟨rfl, nq, rfl⟩)
  go_ret2
  exact ⟨rfl, hS, (Stable.refl w).drewN _⟩

abbrev rowB (v : Value) (l : List Bool) : Asn := row 4 1 v l.length (bools l)

set_option maxRecDepth 100000 in
set_option maxHeartbeats 2000000 in
theorem Changed_ok (hS : Sep w (mem p cs base log :: L)) (hb : Small cs base log) (mark : Int) (h1 : base ≤ mark) (h2 : mark ≤ base + log.length) :
    Calls Try.prog 17 #[p, i64 mark] w fun e w' => ∃ v, e = .returned (.tuple #[v, i64 0]) ∧
      Sep w' (rowI v (changedL cs (log.drop (mark - base).toNat)) :: mem p cs base log :: L) ∧ Stable w w' := by
  have hchk : chk base log mark = 0 := by unfold chk; rw [if_neg (by omega), if_neg (by omega)]
  have hk := check_spec hS hb mark
  rw [hchk] at hk
  obtain ⟨p0, a, n, b, m, rfl, c0, c1, c2, hf0, hlm, hmm, hS2⟩ := mem_cells hS
  have hpos := hb.position
  have hlow := hb.low
  have hcl := hb.cells
  obtain ⟨keep, hkeep⟩ : ∃ k : Nat, mark = base + k := ⟨(mark - base).toNat, by omega⟩
  subst hkeep
  have hkl : keep ≤ log.length := by omega
  rw [show (base + (keep : Int) - base).toNat = keep from by omega]
  have hsub : base + (keep : Int) - base = keep := by omega
  have hwr : IntKind.i64.wrap (keep : Int) = keep := by rw [IntWalk.i64_in _ (by omega)]
  obtain ⟨sa, hsa⟩ : ∃ sa : Option Addr, (if m = keep then b else b.map (·.add (keep * 2))) = sa := ⟨_, rfl⟩
  have hkm : keep ≤ m := Nat.le_trans hkl hlm
  obtain ⟨iB, hiB, hB0, hB1, hB2⟩ := info_parts infoB
  have hent : ∀ x ∈ log.drop keep, 0 ≤ x.1 ∧ x.1 < cs.length := fun x hx => hasB_iff.1 (hb.entries x (List.mem_of_mem_drop hx))
  have HENT := Lib.hid hent
  clear hS hb hchk hent
  go_enter Try.func17, Try.ntmps17
  go_wp2_with first | (go_at_call 41; refine hk.mono ?_; rintro e w' ⟨rfl, nq, rfl⟩) | (at_make; refine wpList_make_sep rfl _ _ _ rfl 4 iB _ 1 Try.underlying69 hiB hB0 hB1 hB2 rfl cs.length rfl rfl (by omega) (by unfold maxLen; omega) (hS2.drewN nq) ?_; rintro v1 w1 ⟨g1, rfl⟩ hS3 hst3)
  have hS4 := hS3.alloc (.cells #[.int .i64 (-1), .int .i64 0] 68)
  have hst4 := (((Stable.refl w).drewN nq).trans hst3).alloc (.cells #[.int .i64 (-1), .int .i64 0] 68)
  clear hS2 hS3 hst3 c0 c1 c2 hf0 hk
  generalize w1.alloc (.cells #[.int .i64 (-1), .int .i64 0] 68) = W1 at hS4 hst4 ⊢
  generalize w1.heap.size = lb at hS4 ⊢
  have d1 := cell_of_blk (hS4.pick 2).get 1
  have d2 := cell_of_blk (hS4.pick 2).get 2
  go_quiet (fail)
  clear d1 d2
  go_wp2
  generalize hes : log.drop keep = es at *
  have hesl : es.length = log.length - keep := by rw [← hes, List.length_drop]
  have hesc : es.length ≤ 1000000000000 := by omega
  have HSA := Lib.hid hsa
  have HES := Lib.hid hes
  clear hsa hes
  rw [← hesl]
  have HESL := Lib.hid hesl
  clear hesl
  go_loopw [38] (fun i wr => ∃ k : Nat, k ≤ es.length ∧ i = .int .i64 k ∧ ∃ last : Int × Int, (last = (-1, 0) ∨ last ∈ es.take k) ∧
      Sep wr (pts lb (.cells #[i64 last.1, i64 last.2] 68 (0, 0)) :: rowB (.slice (some ⟨g1, 0, none⟩) cs.length cs.length) (marks cs.length (es.take k)) ::
        pts p0 (.cells #[.slice a cs.length n, i64 base, .slice b log.length m] 65 (0, 0)) :: rowI (.slice a cs.length n) cs :: rowE (.slice b log.length m) log :: L) ∧ Stable w wr)
    (fun i _ => es.length - (intOf i).toNat)
  case atStart =>
    refine ⟨0, Nat.zero_le _, rfl, (-1, 0), .inl rfl, ?_, hst4.drewN _⟩
    rw [List.take_zero]
    have q := hS4
    rw [← List.map_replicate (f := Value.bool) (a := false) (n := cs.length), ← marks_nil] at q
    show Sep _ (_ :: row 4 1 _ (marks cs.length []).length (bools (marks cs.length [])) :: _)
    rw [marks_length]
    exact q
  case round =>
    obtain ⟨k, hk, rfl, last, hlast, hSr, hstr⟩ := hrel
    by_cases hlt : k < es.length
    · obtain ⟨x, hx⟩ : ∃ x, es[k] = x := ⟨_, rfl⟩
      have hxm : x ∈ es := hx ▸ List.getElem_mem hlt
      have hxv := HENT.out x hxm
      have hrd := drop_reads (hSr.pick 4) hkl HSA.out
      rw [HES.out, ← HESL.out] at hrd
      obtain ⟨b', off', hsa', hcel⟩ : ∃ b' off', sa = some ⟨b', off', none⟩ ∧ ∀ i, i < (ents es).length → wr.cell? ⟨b', off' + i, none⟩ = (ents es)[i]? := by
        rcases hrd.2 with ⟨hz, _⟩ | ⟨b', off', cap', hv, _, _, q⟩
        · omega
        · exact ⟨b', off', by simpa using congrArg (fun v => match v with | Value.slice a _ _ => a | _ => none) hv, q⟩
      have hg2 := ents_get es k hlt
      have hgd : es.getD k (0, 0) = x := by simp [← hx, List.getD, List.getElem?_eq_getElem hlt]
      have e1 := (hcel (k * 2) (by rw [ents_length]; omega)).trans hg2.1
      have e2 := (hcel (k * 2 + 1) (by rw [ents_length]; omega)).trans hg2.2
      rw [hgd] at e1 e2
      rw [← Nat.add_assoc] at e2
      have l0 : wr.cell? ⟨lb, 0, none⟩ = some (i64 last.1) := cell_of_blk hSr.get 0
      have l1 : wr.cell? ⟨lb, 1, none⟩ = some (i64 last.2) := cell_of_blk hSr.get 1
      have lf := frozen_of_blk hSr.get
      have ll := hl_lt hSr.get
      have hX0 := hxv.1
      have hX1 := hxv.2
      obtain ⟨gg, cap', hv', _, _, hgc, hgf, hgl, hgs⟩ := (hSr.pick 1).rowAt (by rw [marks_length]; omega)
      obtain rfl : g1 = gg := by simpa using congrArg (fun v => match v with | Value.slice (some a) _ _ => a.block | _ => 0) hv'
      have hgx := hgc x.1.toNat (by rw [bools_length, marks_length]; omega)
      have htk : es.take (k + 1) = es.take k ++ [x] := by rw [List.take_succ_eq_append_getElem hlt, hx]
      have HTK := Lib.hid htk
      rw [bools_get _ _ (by rw [marks_length]; omega)] at hgx
      generalize (marks cs.length (List.take k es)).getD x.1.toNat false = ob at hgx
      have HSA' := Lib.hid hsa'
      have HGS := Lib.hid hgs
      have HLAST := Lib.hid hlast
      have HST := Lib.hid hstr
      clear hrd hcel hg2 hgd hv' hgc hgs hx htk hsa' hlast hstr HSA
      rw [HSA'.out]
      obtain ⟨xc, xo⟩ := x
      obtain ⟨lc, lo⟩ := last
      dsimp only at *
      have hne : g1 ≠ lb := by
        rcases (hSr.pick 1).rowCases with ⟨hv, _⟩ | ⟨g2, _, _, hv, _, _, _, _, _, q⟩
        · cases hv
        · obtain rfl : g1 = g2 := by simpa using congrArg (fun v => match v with | Value.slice (some a) _ _ => a.block | _ => 0) hv
          exact q.ne
      have m0 : (wr.setCell ⟨g1, xc.toNat, none⟩ (.bool true)).cell? ⟨lb, 0, none⟩ = some (i64 lc) := (World.cell?_setCell_other _ _ _ _ (fun e => hne (congrArg Addr.block e))).trans l0
      have m1 : (wr.setCell ⟨g1, xc.toNat, none⟩ (.bool true)).cell? ⟨lb, 1, none⟩ = some (i64 lo) := (World.cell?_setCell_other _ _ _ _ (fun e => hne (congrArg Addr.block e))).trans l1
      go_wp2
      · refine ⟨⟨k + 1, by omega, by go_num, (xc, xo), .inr (by rw [HTK.out]; simp), ?_, (((HST.out.setCell _ _).setCell _ _).setCell _ _).alloc _⟩, by simp [intOf]; omega⟩
        have q1 := HGS.out xc.toNat (.bool true) (by rw [bools_length, marks_length]; omega)
        rw [bools_set, ← marks_snoc _ _ (xc, xo) hX0, ← HTK.out] at q1
        have q2 := ((q1.pick 1).setCell 0 (i64 xc)).setCell 1 (i64 xo)
        simp only [List.setIfInBounds_toArray, List.set_cons_succ, List.set_cons_zero] at q2
        have q3 := q2.allocBeside (.cells #[.int .i64 xc, .int .i64 xo] 68)
        rw [marks_length] at q3
        show Sep _ (_ :: row 4 1 _ (marks cs.length (es.take (k + 1))).length _ :: _)
        rw [marks_length]
        exact q3
      · have hq : xc = lc ∧ xo = lo := by
          have hq : (!xc == lc) = false ∧ (!xo == lo) = false := by assumption
          simpa using hq
        obtain ⟨rfl, rfl⟩ := hq
        have hin : (xc, xo) ∈ es.take k := by
          rcases HLAST.out with q | q
          · simp only [Prod.mk.injEq] at q; omega
          · exact q
        refine ⟨⟨k + 1, by omega, by go_num, (xc, xo), .inr (by rw [HTK.out]; simp), ?_, ((HST.out.setCell _ _).setCell _ _).alloc _⟩, by simp [intOf]; omega⟩
        rw [HTK.out, marks_mem _ _ _ hin]
        have q2 := (hSr.setCell 0 (i64 xc)).setCell 1 (i64 xo)
        simp only [List.setIfInBounds_toArray, List.set_cons_succ, List.set_cons_zero] at q2
        exact q2.allocBeside _
    · obtain rfl : k = es.length := by omega
      rw [List.take_length] at hSr
      have z0 : wr.cell? ⟨p0, 0, none⟩ = some (.slice a cs.length n) := cell_of_blk (hSr.pick 2).get 0
      obtain ⟨iI, hiI, hI0, hI1, hI2⟩ := info_parts infoI
      have hS5 := (hSr.drop.addNil 3 1)
      clear hlast HENT hSr
      go_wp2
      clear z0
      go_loopw [11, 56] (fun out i wr => ∃ k : Nat, k ≤ cs.length ∧ i = .int .i64 k ∧
          Sep wr (rowI out (upTo es k) :: rowB (.slice (some ⟨g1, 0, none⟩) cs.length cs.length) (marks cs.length es) ::
            pts p0 (.cells #[.slice a cs.length n, i64 base, .slice b log.length m] 65 (0, 0)) :: rowI (.slice a cs.length n) cs :: rowE (.slice b log.length m) log :: L) ∧ Stable w wr)
        (fun _ i _ => cs.length - (intOf i).toNat)
      case atStart => exact ⟨0, Nat.zero_le _, rfl, hS5, hstr⟩
      case round =>
        clear hS5 hstr
        obtain ⟨k, hk, rfl, hSr, hstr⟩ := hrel
        by_cases hlt : k < cs.length
        · obtain ⟨gg, cap', hv', _, _, hgc, _, _, _⟩ := (hSr.pick 1).rowAt (by rw [marks_length]; omega)
          obtain rfl : g1 = gg := by simpa using congrArg (fun v => match v with | Value.slice (some a) _ _ => a.block | _ => 0) hv'
          have hgx := hgc k (by rw [bools_length, marks_length]; omega)
          rw [bools_get _ _ (by rw [marks_length]; omega)] at hgx
          have hul := upTo_length es k
          have hsuc := Lib.hid (upTo_succ es k cs.length hlt)
          clear hv' hgc
          generalize hob : (marks cs.length es).getD k false = ob at hgx
          have HOB := Lib.hid hob
          clear hob
          have hS6 := hSr.allocBeside (.cells #[.int .i64 k] 3)
          have HST := Lib.hid hstr
          clear hstr
          cases ob with
          | true =>
            go_wp2_with (at_builtin; refine wpList_append_sep rfl _ _ 22 22 rfl 3 iI _ 1 8 Try.underlying22 hiI hI0 hI1 hI2 rfl _ _ _ rfl hS6 1 [i64 k] (Src.ofSlice _ Try.underlying22 ⟨_, 0, none⟩ 1 1 _ rfl (fun j u hu => by rw [Addr.add_lit]; simpa using hu) (ints_one [(k : Int)])) (by unfold maxLen; omega) (by omega) ?_; intro v' w2 hS7 hst7 hn7)
            refine ⟨⟨k + 1, by omega, by go_num, ?_, (HST.out.alloc _).trans hst7⟩, by simp [intOf]; omega⟩
            rw [hsuc.out, HOB.out, if_pos rfl]
            exact rowI_app (l' := [(k : Int)]) hS7 rfl rfl
          | false =>
            go_wp2
            refine ⟨⟨k + 1, by omega, by go_num, ?_, HST.out⟩, by simp [intOf]; omega⟩
            rw [hsuc.out, HOB.out, if_neg (by simp)]
            exact hSr
        · obtain rfl : k = cs.length := by omega
          go_wp2
          go_ret2
          refine ⟨_, rfl, ?_, hstr⟩
          rw [HES.out]
          exact (mem_shut (((((((hSr.pick 1).drop).pick 1).pick 2).pick 3).pick 1).pick 2)).pick 1

end Go.Proofs.Ytcpicaalponnlaa
