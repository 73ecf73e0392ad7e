/- Contracts: layout.Initial; a copy into an owned row. -/
import Derived.Test.YtkalpgngoijdmaaLaw12
import Derived.Laws.CopyRow
import Derived.Deep.RegionLaw
import Derived.Deep.RegionHeldLaw
import Derived.Deep.RegionHeld3
namespace Go.Proofs.Ytkalpgngoijdmaa
open Go.RowKit Go.Sl

variable {w : World} {L : List Asn}

theorem step_copy_sep {P : Program} {ops : Array Oper} {o : Oper} {a : Act} {w : World} {K : Act → World → Prop} {Q : Exit → Act → World → Prop} {E : Prop} (hgd : o.guard = none) (d s : Operand) (dT sT : TypeId)
    (ho : o.op = .call { callee := .builtin .copy, args := #[d, s], argTypes := #[dT, sT] }) (elem : TypeId) (hu : P.underlying dT = some (.slice elem)) (hsz : (P.info? elem).map (·.size) = some 1)
    (g off dLen dCap : Nat) (ad : Addr) (sLen sCap : Nat) (hd : a.eval d = .slice (some ⟨g, off, none⟩) dLen dCap) (hs : a.eval s = .slice (some ad) sLen sCap)
    {n cap : Nat} {l : List Int} (hS : Sep w (rowI (.slice (some ⟨g, 0, none⟩) n cap) l :: L)) (news : List Int) (hn : news.length = Nat.min sLen dLen)
    (hsrc : ∀ j v, (ints news)[j]? = some v → w.cell? (ad.add j) = some v) (hfit : off + news.length ≤ l.length) (hpos : 0 < l.length)
    (h : ∀ w', Sep w' (rowI (.slice (some ⟨g, 0, none⟩) n cap) (l.take off ++ news ++ l.drop (off + news.length)) :: L) → Stable w w' → K (a.put o.dst (goInt (ints news).length)) w') :
    if Region.wanted o (yielded ops a.tmps) = true then Oper.wp P o a w K Q else E := by
  rw [if_pos (by simp [Region.wanted, hgd])]
  rcases hS.rowCases with ⟨hv, _⟩ | ⟨g', cap', cur, hv, k1, k2, k3, k4, k5, k6⟩
  · simp at hv
  · obtain ⟨rfl, rfl, rfl⟩ : g = g' ∧ n = l.length ∧ cap = cap' := by simpa using hv
    have hcs : cur.size = cap := by omega
    have hrun := run_copy_row (P := P) w dT sT o.type elem g off dLen dCap ad sLen sCap cur _ (ints news) hu hsz k6.get (by rw [ints_length]; exact hn) hsrc (by rw [ints_length]; omega) (ints_one news)
    unfold Oper.wp
    simp [execOp, ho, resolve, invoke, builtin, hd, hs, hrun, Result.andThen]
    refine h _ ?_ ⟨rfl, rfl, rfl, by simp [World.setRow]⟩
    have hp := k6.put (o' := .cells (cur.toList.take off ++ (ints news ++ cur.toList.drop (off + (ints news).length))).toArray _ (0, 0)) (setRow_heap w g cur _ _ _ k6.get) (fun k _ hk => setRow_other w g k _ hk)
    have hl : (l.take off ++ news ++ l.drop (off + news.length)).length = l.length := by simp; omega
    have k4' : cur.toList.take l.length = ints l := by rw [Nat.mul_one] at k4; exact k4
    obtain ⟨R, hR⟩ : ∃ R, cur.toList = ints l ++ R := ⟨cur.toList.drop l.length, by rw [← k4', List.take_append_drop]⟩
    have hcl : (ints l ++ R).length = cap := by rw [← hR]; simpa using hcs
    have := hp.toRow (size := 1) (n := l.length) (xs := ints (l.take off ++ news ++ l.drop (off + news.length))) k1 k2 (by
      rw [hR, ints_length]
      simp only [List.length_append, ints_length] at hcl
      simp [ints_length]; omega) (by
      have a1 : (ints l ++ R).take off = (ints l).take off := List.take_append_of_le_length (by rw [ints_length]; omega)
      have a2 : (ints l ++ R).drop (off + news.length) = (ints l).drop (off + news.length) ++ R := List.drop_append_of_le_length (by rw [ints_length]; omega)
      rw [Nat.mul_one, List.toList_toArray, hR, ints_length, a1, a2, ← List.append_assoc, ← List.append_assoc]
      rw [show (ints l).take off ++ ints news ++ (ints l).drop (off + news.length) = ints (l.take off ++ news ++ l.drop (off + news.length)) by simp [ints]]
      exact List.take_left' (by rw [ints_length, hl]))
    show Sep _ (row _ 1 _ _ _ :: L)
    rw [hl]
    exact this

theorem new_cells (w : World) (c : List Value) (t : TypeId) (j : Nat) (u : Value) (h : c[j]? = some u) : (w.alloc (.cells c.toArray t)).drew.cell? ((⟨w.heap.size, 0, none⟩ : Addr).add j) = some u := by
  rw [Addr.add_lit, Nat.zero_add]
  show (w.alloc (.cells c.toArray t)).cell? _ = _
  rw [World.cell?_alloc_new]
  simpa using h
theorem splice6 (l : List Int) (m : Nat) (h : m + 6 ≤ l.length) (x0 x1 x2 x3 x4 x5 : Int) :
    l.take m ++ [x0, x1, x2, x3, x4, x5] ++ l.drop (m + 6) = (((((l.set m x0).set (m + 1) x1).set (m + 2) x2).set (m + 3) x3).set (m + 4) x4).set (m + 5) x5 := by
  have hA : (l.take m).length = m := by rw [List.length_take]; omega
  have hB : 6 ≤ (l.drop m).length := by rw [List.length_drop]; omega
  have hl := List.take_append_drop m l
  have hd : l.drop (m + 6) = (l.drop m).drop 6 := by rw [List.drop_drop]
  rw [hd]
  generalize l.take m = A at *
  generalize l.drop m = R at *
  subst hl
  match R, hB with
  | b0 :: b1 :: b2 :: b3 :: b4 :: b5 :: R, _ =>
    subst hA
    simp

set_option maxRecDepth 100000 in
set_option maxHeartbeats 8000000 in
theorem Initial_spec (s : Su) (p : Nat) (hp : s.st.players = p) (hp3 : p ≤ 1000) (hnb : s.st.nb = s.bodies.length) (hn5 : s.bodies.length ≤ 1000) (h : readsBd w s.st.bodiesV s.bodies) :
    Calls Try.prog 30 #[s.st.val] w fun e w' => ∃ v, e = .returned v ∧ Sep w' [rowI v (initL p s.bodies), old w] ∧ Stable w w' := by
  obtain ⟨iI, hiI, hI0, hI1, hI2⟩ := info_parts infoI
  have hSz := fun W => Size_spec s.st (by omega) (by omega) W
  have hBd := fun (k : Nat) (hk : k < s.bodies.length) W => Body_spec s.st k (by omega) (by omega) W
  have hat : ∀ k : Nat, k < s.bodies.length → bodyAt s.st k = ((48 + 4 * p + 8 * k : Nat) : Int) := fun k hk => by unfold bodyAt; rw [if_pos (by omega)]; omega
  rw [show (48 : Int) + 4 * s.st.players + 8 * s.st.nb = ((48 + 4 * p + 8 * s.bodies.length : Nat) : Int) by omega] at hSz
  obtain ⟨s, bodies⟩ := s
  obtain ⟨players, nb, ba, bc, x0, y0, x1, y1, rooms, ra, rc, doors, da, dc, fog, gx, gy, push, drag, rest, rounds, fuel⟩ := s
  dsimp only [St.val, St.doorsV, St.bodiesV] at *
  subst hnb
  obtain rfl : players = (p : Int) := hp
  have H0 := Lib.hid (And.intro ((Sep.start w).alloc (.cells #[i64 p, .slice ba bodies.length bc, i64 x0, i64 y0, i64 x1, i64 y1, .slice ra rooms.length rc, .slice da doors.length dc, i64 fog, i64 gx, i64 gy, i64 push, i64 drag, i64 rest, i64 rounds, i64 fuel] 31)) ((Stable.refl w).alloc (.cells #[i64 p, .slice ba bodies.length bc, i64 x0, i64 y0, i64 x1, i64 y1, .slice ra rooms.length rc, .slice da doors.length dc, i64 fog, i64 gx, i64 gy, i64 push, i64 drag, i64 rest, i64 rounds, i64 fuel] 31)))
  have HC := Lib.hid (And.intro hSz (And.intro hBd hat))
  have HB := Lib.hid (show readsBd w (.slice ba bodies.length bc) bodies from h)
  clear hSz hBd hat h
  obtain ⟨N, hN⟩ : ∃ N : Nat, N = 48 + 4 * p + 8 * bodies.length := ⟨_, rfl⟩
  rw [← hN] at HC
  have hN2 : N ≤ 20000 := by omega
  have hN3 : 48 ≤ N := by omega
  have HN := Lib.hid hN
  clear hN
  go_enter Try.func30, Try.ntmps30
  go_wp2_with (refine wpList_load_g 31 _ rfl _ rfl _ _ _ _ (Sep.get H0.out.1) Try.underlying31 rfl (by kernel_rfl) (by first | rfl | (go_simp; done) | (go_simp; omega)) ?_)
  refine (HC.out.1 _).mono ?_
  rintro e w1 ⟨rfl, hS1, hst1⟩
  have H1 := Lib.hid (And.intro (H0.out.1.mount hS1) (H0.out.2.trans hst1))
  have s1 := cellD (H0.out.1.mount hS1) 1
  clear hS1 hst1
  go_wp2_with (at_make; refine wpList_make_sep rfl _ _ _ rfl 3 iI _ 8 Try.underlying22 hiI hI0 hI1 hI2 rfl N rfl rfl (by omega) (by unfold maxLen; omega) H1.out.1 ?_; rintro v2 w2 ⟨g, rfl⟩ hS2 hst2; clear s1; have s1 := cellD hS2.drop 1)
  have hr2 : Sep w2 [rowI (.slice (some ⟨g, 0, none⟩) N N) (initTo p bodies 0), pts w.heap.size (.cells #[i64 p, .slice ba bodies.length bc, i64 x0, i64 y0, i64 x1, i64 y1, .slice ra rooms.length rc, .slice da doors.length dc, i64 fog, i64 gx, i64 gy, i64 push, i64 drag, i64 rest, i64 rounds, i64 fuel] 31), old w] := by
    show Sep w2 (row 3 1 _ (initTo p bodies 0).length (ints (initTo p bodies 0)) :: _)
    rw [initTo_length _ _ _ (Nat.zero_le _), initTo_zero, ← HN.out, ints, List.map_replicate]
    exact hS2
  have s1 := cellD hr2.drop 1
  have H2 := Lib.hid (And.intro hr2 (H1.out.2.trans hst2))
  clear hr2 hst2 hS2 H1
  go_wp2_with fail
  go_loopw [13] (fun i wr => ∃ k : Nat, k ≤ bodies.length ∧ i = .int .i64 k ∧ Sep wr [rowI (.slice (some ⟨g, 0, none⟩) N N) (initTo p bodies k), pts w.heap.size (.cells #[i64 p, .slice ba bodies.length bc, i64 x0, i64 y0, i64 x1, i64 y1, .slice ra rooms.length rc, .slice da doors.length dc, i64 fog, i64 gx, i64 gy, i64 push, i64 drag, i64 rest, i64 rounds, i64 fuel] 31), old w] ∧ Stable w wr) (fun i _ => bodies.length - (intOf i).toNat)
  case atStart => exact ⟨0, Nat.zero_le _, rfl, H2.out.1, H2.out.2⟩
  case round =>
    clear H2 s1
    obtain ⟨k, hk, rfl, hSr, hst⟩ := hrel
    have HR := Lib.hid (And.intro hSr hst)
    clear hSr hst
    by_cases hlt : k < bodies.length
    · obtain ⟨b, off, cap, hv, hbl, hcb⟩ := readsBd_at HB.out (by omega)
      obtain ⟨rfl, rfl⟩ : ba = some ⟨b, off, none⟩ ∧ bc = cap := by simpa using hv
      have hld : ∀ (W : World) (M : List Asn), Sep W (old w :: M) → ∀ j u, (bodies.getD k bd0).cells.toArray.toList[j]? = some u → W.cell? ⟨b, off + k * 9 + j, none⟩ = some u := fun W M hW j u hu =>
        (World.cell?_of_block (a := ⟨b, off + k * 9 + j, none⟩) (hW.oldGet b hbl)).trans (hcb k hlt j u hu)
      have hsu := initTo_succ p bodies k hlt (48 + 4 * p + 8 * k) rfl
      have hlen := initTo_length p bodies k hk
      have HL := Lib.hid (And.intro hld (And.intro hsu hlen))
      have hBk := HC.out.2.1 k hlt
      rw [HC.out.2.2 k hlt] at hBk
      have HBK := Lib.hid hBk
      clear hv hcb hld hsu hlen hBk
      obtain ⟨m, hm⟩ : ∃ m : Nat, m = 48 + 4 * p + 8 * k := ⟨_, rfl⟩
      rw [← hm] at HBK HL
      have hmN : m + 8 ≤ N := by have := HN.out; omega
      clear hm
      generalize bodies.getD k bd0 = bd at *
      obtain ⟨⟨rad, pl, pa, pc⟩, px, py, vx, vy, im, A, B⟩ := bd
      have hlk : (k : Int) < bodies.length := by omega
      have H4 := Lib.hid (And.intro (HR.out.1.alloc (.cells #[i64 0, .slice none 0 0, i64 0, i64 0, i64 0, i64 0, i64 0, i64 0, i64 0] 52)) (HR.out.2.alloc (.cells #[i64 0, .slice none 0 0, i64 0, i64 0, i64 0, i64 0, i64 0, i64 0, i64 0] 52)))
      go_upto_region 5 with (first
        | (refine wpList_load_at 52 _ rfl b (off + k * 9) rfl #[i64 rad, .slice pa pl.length pc, i64 px, i64 py, i64 vx, i64 vy, i64 im, i64 A, i64 B] _ (HL.out.1 _ _ (HR.out.1.pick 2)) Try.underlying52 rfl (by kernel_rfl) (by first | rfl | (go_simp; done) | (go_simp; omega)) ?_)
        | (refine wpList_store_sep rfl 52 _ _ rfl wr.heap.size #[i64 rad, .slice pa pl.length pc, i64 px, i64 py, i64 vx, i64 vy, i64 im, i64 A, i64 B] rfl rfl H4.out.1 (by kernel_rfl) rfl (by kernel_rfl) ?_; intro w5 hS5 hst5))
      generalize wr.heap.size = q at *
      have H5 := Lib.hid (And.intro hS5 (H4.out.2.trans hst5))
      clear hS5 hst5 H4
      go_wp2_with (refine wpList_load_g 31 _ rfl _ rfl _ _ _ _ (Sep.get (H5.out.1.pick 2)) Try.underlying31 rfl (by kernel_rfl) (by first | rfl | (go_simp; done) | (go_simp; omega)) ?_)
      refine (HBK.out _).mono ?_
      rintro e w6 ⟨rfl, hS6, hst6⟩
      have hS7 := H5.out.1.mount hS6
      have cc := cellD hS7
      have d2 := cc 2
      have d3 := cc 3
      have d4 := cc 4
      have d5 := cc 5
      have d7 := cc 7
      have d8 := cc 8
      simp at d2 d3 d4 d5 d7 d8
      have hne : ¬ (N = m) := by omega
      have hmle : m ≤ N := by omega
      have H7 := Lib.hid (And.intro hS7 (H5.out.2.trans hst6))
      clear hS6 hst6 hS7 cc H5
      go_wp2_with fail
      have H8 := Lib.hid (And.intro (((H7.out.1.pick 1).allocBeside (.cells #[i64 px, i64 py, i64 vx, i64 vy, i64 A, i64 B] 3)).drew) ((H7.out.2.alloc (.cells #[i64 px, i64 py, i64 vx, i64 vy, i64 A, i64 B] 3)).drew))
      have hil : (initTo p bodies k).length = N := by have := HL.out.2.2; have := HN.out; omega
      have HIL := Lib.hid hil
      clear hil
      have hqd : ∀ (W : World) (M : List Asn), Sep W (pts q (.cells #[i64 rad, .slice pa pl.length pc, i64 px, i64 py, i64 vx, i64 vy, i64 im, i64 A, i64 B] 52) :: M) → (fun w' => w'.cell? ⟨q, 2, none⟩ = some (i64 px) ∧ w'.cell? ⟨q, 3, none⟩ = some (i64 py) ∧ w'.cell? ⟨q, 4, none⟩ = some (i64 vx) ∧ w'.cell? ⟨q, 5, none⟩ = some (i64 vy) ∧ w'.cell? ⟨q, 7, none⟩ = some (i64 A) ∧ w'.cell? ⟨q, 8, none⟩ = some (i64 B)) W := fun W M hW => by
        have e := cellD hW
        exact ⟨e 2, e 3, e 4, e 5, e 7, e 8⟩
      have HQD := Lib.hid hqd
      clear hqd
      have dd := HQD.out _ _ (show Sep w6.drew _ from H7.out.1)
      go_region_held_law (fun w' => w'.cell? ⟨q, 2, none⟩ = some (i64 px) ∧ w'.cell? ⟨q, 3, none⟩ = some (i64 py) ∧ w'.cell? ⟨q, 4, none⟩ = some (i64 vx) ∧ w'.cell? ⟨q, 5, none⟩ = some (i64 vy) ∧ w'.cell? ⟨q, 7, none⟩ = some (i64 A) ∧ w'.cell? ⟨q, 8, none⟩ = some (i64 B)) (first | exact dd | go_keep) ((refine step_copy_sep rfl (.tmp 23) (.tmp 44) 22 22 rfl 3 Try.underlying22 (by kernel_rfl) g m _ _ ⟨w6.heap.size, 0, none⟩ 6 6 rfl rfl H8.out.1 [px, py, vx, vy, A, B] (by show (6 : Nat) = min 6 (N - m); omega) (fun j u hu => new_cells w6 _ _ j u hu) (by rw [HIL.out]; simp; omega) (by rw [HIL.out]; omega) ?_; intro w9 hS9 hst9; have dd := HQD.out _ _ hS9.drop))
      have e9 : (initTo p bodies k).take m ++ [px, py, vx, vy, A, B] ++ (initTo p bodies k).drop (m + [px, py, vx, vy, A, B].length) = initTo p bodies (k + 1) := (splice6 _ m (by rw [HIL.out]; omega) px py vx vy A B).trans HL.out.2.1
      rw [e9] at hS9
      have H9 := Lib.hid (And.intro ((hS9.pick 1).drop) (H8.out.2.trans hst9))
      clear hS9 hst9 dd e9 H8 H7 d2 d3 d4 d5 d7 d8
      go_wp2_with fail
      exact ⟨⟨k + 1, by omega, by go_num, H9.out.1, H9.out.2⟩, by simp [intOf]; omega⟩
    · obtain rfl : bodies.length = k := by omega
      have h1 := initTo_all p bodies
      have s1 := cellD HR.out.1.drop 1
      have H5 := Lib.hid (And.intro (show Sep wr [rowI (.slice (some ⟨g, 0, none⟩) N N) (initL p bodies), pts w.heap.size (.cells #[i64 p, .slice ba bodies.length bc, i64 x0, i64 y0, i64 x1, i64 y1, .slice ra rooms.length rc, .slice da doors.length dc, i64 fog, i64 gx, i64 gy, i64 push, i64 drag, i64 rest, i64 rounds, i64 fuel] 31), old w] by rw [← h1]; exact HR.out.1) HR.out.2)
      clear h1 HR
      go_wp2_with fail
      go_ret
      exact ⟨_, rfl, (H5.out.1.pick 1).drop, H5.out.2⟩

end Go.Proofs.Ytkalpgngoijdmaa
