/- The log's length beside a ring: the plain law and the contracts. -/
import Derived.Test.YtfhjdfllkjjldaaNest
namespace Go.Proofs.Ytfhjdfllkjjldaa
open Go.RowKit Go.Sl

/-- What the marks say of the numbers of writes. -/
structure LgI (pre : Int) (k : Nat) (ws : List Int) (base : Int) (log es : Es) : Prop where
  many : es.length = min ws.length k
  pos : base + log.length = pre + ws.sum
  mark : ∀ i, i < es.length → eM es i = pre + (ws.take (ws.length - es.length + i)).sum
  gone : k < ws.length → base = eM es 0

theorem sum_cut (ws : List Int) (j : Nat) : (ws.take j).sum + (ws.drop j).sum = ws.sum := by
  have := congrArg List.sum (List.take_append_drop j ws)
  rw [List.sum_append] at this
  exact this
theorem sum_next (ws : List Int) (j : Nat) (h : j < ws.length) : (ws.take (j + 1)).sum = (ws.take j).sum + ws.getD j 0 := by
  rw [List.take_succ_eq_append_getElem h, List.sum_append]
  simp [List.getD, h]
theorem sum_box : ∀ {ws : List Int} {b : Int}, 0 ≤ b → b ≤ 40 → (∀ x ∈ ws, 0 ≤ x ∧ x ≤ b) → 0 ≤ ws.sum ∧ ws.sum ≤ 40 * ws.length
  | [], _, _, _, _ => by simp
  | x :: ws, b, h0, hb, h => by
    have h1 := h x (by simp)
    have h2 := sum_box (ws := ws) h0 hb (fun y hy => h y (by simp [hy]))
    simp only [List.sum_cons, List.length_cons]
    omega
theorem sum_box_take {ws : List Int} {b : Int} (j : Nat) (h0 : 0 ≤ b) (hb : b ≤ 40) (h : ∀ x ∈ ws, 0 ≤ x ∧ x ≤ b) : 0 ≤ (ws.take j).sum ∧ (ws.take j).sum ≤ 40 * ws.length := by
  have := sum_box h0 hb (ws := ws.take j) (fun x hx => h x (List.mem_of_mem_take hx))
  have hl : (ws.take j).length ≤ ws.length := by rw [List.length_take]; omega
  omega

/-- One more write since the newest tick. -/
def bump (ws : List Int) : List Int := ws.set (ws.length - 1) (ws.getD (ws.length - 1) 0 + 1)
theorem bump_length (ws : List Int) : (bump ws).length = ws.length := by simp [bump]
theorem bump_take (ws : List Int) (j : Nat) (h : j ≤ ws.length - 1) : (bump ws).take j = ws.take j := by
  unfold bump
  rw [List.take_set_of_le h]
theorem bump_sum (ws : List Int) (h : 0 < ws.length) : (bump ws).sum = ws.sum + 1 := by
  have h1 := sum_next ws (ws.length - 1) (by omega)
  have h2 := sum_next (bump ws) (ws.length - 1) (by rw [bump_length]; omega)
  rw [show ws.length - 1 + 1 = ws.length by omega] at h1 h2
  rw [List.take_length] at h1
  rw [List.take_of_length_le (by rw [bump_length]; omega), bump_take _ _ (Nat.le_refl _)] at h2
  have h3 : (bump ws).getD (ws.length - 1) 0 = ws.getD (ws.length - 1) 0 + 1 := by
    unfold bump
    rw [List.getD_eq_getElem?_getD, List.getElem?_set_self (by omega)]
    rfl
  omega
theorem bump_box {ws : List Int} {b : Int} (h : ∀ x ∈ ws, 0 ≤ x ∧ x ≤ b) : ∀ x ∈ bump ws, 0 ≤ x ∧ x ≤ b + 1 := by
  intro x hx
  unfold bump at hx
  by_cases h0 : ws.length = 0
  · have : ws = [] := List.eq_nil_of_length_eq_zero h0
    subst this
    simp at hx
  · rcases List.mem_or_eq_of_mem_set hx with hx | hx
    · have := h x hx; omega
    · have hm : ws.getD (ws.length - 1) 0 ∈ ws := by rw [List.getD_eq_getElem?_getD, List.getElem?_eq_getElem (by omega)]; exact List.getElem_mem ..
      have := h _ hm
      omega

variable {w : World} {L : List Asn} {p mp : Value} {k : Nat} {ws : List Int} {B : Nat} {pre base : Int} {log es : Es}

theorem LgI.nil (k : Nat) : LgI 0 k [] 0 [] [] := ⟨by simp, by simp, by simp, by simp⟩

theorem LgI.set (h : LgI pre k ws base log es) (x : Int × Int) : ∃ pre', LgI pre' k (bump ws) base (log ++ [x]) es := by
  have hp := h.pos
  have hm := h.many
  by_cases h0 : ws.length = 0
  · have : ws = [] := List.eq_nil_of_length_eq_zero h0
    subst this
    refine ⟨pre + 1, ⟨h.many, ?_, fun i hi => ?_, h.gone⟩⟩
    · simp [bump] at hp ⊢; omega
    · have : es.length = 0 := by rw [hm]; simp
      omega
  · refine ⟨pre, ⟨by rw [bump_length]; exact h.many, ?_, fun i hi => ?_, fun hk => h.gone (by rw [bump_length] at hk; exact hk)⟩⟩
    · rw [bump_sum _ (by omega)]; simp; omega
    · rw [bump_length, bump_take _ _ (by omega)]
      exact h.mark i hi

theorem take_app (ws : List Int) (x : Int) (j : Nat) (h : j ≤ ws.length) : (ws ++ [x]).take j = ws.take j := List.take_append_of_le_length h

theorem LgI.push (h : LgI pre k ws base log es) (hlt : es.length < k) (t : Int) : LgI pre k (ws ++ [0]) base log (es ++ [(t, base + log.length)]) := by
  have hm := h.many
  refine ⟨by simp; omega, by simp; exact h.pos, fun i hi => ?_, fun hk => by simp at hk; omega⟩
  simp only [List.length_append, List.length_cons, List.length_nil] at hi
  unfold eM
  have ea := take_app ws 0 (ws.length + (0 + 1) - (es.length + (0 + 1)) + i) (by omega)
  rw [eT_app, List.length_append, List.length_append, List.length_cons, List.length_nil, List.length_cons, List.length_nil, ea]
  by_cases hh : i < es.length
  · rw [if_pos hh]
    have := h.mark i hh
    unfold eM at this
    rw [this, show ws.length - es.length + i = ws.length + (0 + 1) - (es.length + (0 + 1)) + i by omega]
  · rw [if_neg hh, if_pos (by omega)]
    rw [List.take_of_length_le (by omega)]
    exact h.pos

theorem LgI.drop (h : LgI pre k ws base log es) (hk : 1 ≤ k) (hge : ¬ es.length < k) (t : Int) (hlo : base ≤ eM (es ++ [(t, base + log.length)]) 1) (hhi : eM (es ++ [(t, base + log.length)]) 1 ≤ base + log.length) :
    LgI pre k (ws ++ [0]) (eM (es ++ [(t, base + log.length)]) 1) (log.drop (eM (es ++ [(t, base + log.length)]) 1 - base).toNat) ((es ++ [(t, base + log.length)]).drop 1) := by
  have hm := h.many
  have hp := h.pos
  have e : ∀ i, ((es ++ [(t, base + log.length)]).drop 1).getD i (0, 0) = (es ++ [(t, base + log.length)]).getD (i + 1) (0, 0) := fun i => by rw [List.getD_eq_getElem?_getD, List.getElem?_drop, List.getD_eq_getElem?_getD, Nat.add_comm]
  refine ⟨by simp; omega, ?_, fun i hi => ?_, fun _ => ?_⟩
  · rw [List.length_drop]; simp; omega
  · simp only [List.length_drop, List.length_append, List.length_cons, List.length_nil] at hi
    unfold eM
    have ea := take_app ws 0 (ws.length + (0 + 1) - (es.length + (0 + 1) - 1) + i) (by omega)
    rw [e, eT_app, List.length_drop, List.length_append, List.length_append, List.length_cons, List.length_nil, List.length_cons, List.length_nil, ea]
    by_cases hh : i + 1 < es.length
    · rw [if_pos hh]
      have := h.mark (i + 1) hh
      unfold eM at this
      rw [this, show ws.length - es.length + (i + 1) = ws.length + (0 + 1) - (es.length + (0 + 1) - 1) + i by omega]
    · rw [if_neg hh, if_pos (by omega)]
      rw [List.take_of_length_le (by omega)]
      exact h.pos
  · unfold eM; rw [e]

/-- A ring over a memory, by the numbers of writes since each tick. -/
def LgS (w : World) (L : List Asn) (p mp : Value) (k : Nat) (ws : List Int) (B : Nat) : Prop :=
  ∃ pre cs base log es sn, Sep w (ring p mp k es :: mem mp cs base log :: L) ∧ RInv ((ws.length : Int) - es.length) cs base log es sn ∧ Small cs base log ∧ LgI pre k ws base log es ∧ cs.length = 6 ∧ base + log.length ≤ B

theorem LgS.drew (h : LgS w L p mp k ws B) : LgS w.drew L p mp k ws B := h
theorem LgS.mono {B' : Nat} (h : LgS w L p mp k ws B) (hB : B ≤ B') : LgS w L p mp k ws B' := by
  obtain ⟨pre, cs, base, log, es, sn, hS, hi, hs, hl, hc, hb⟩ := h
  exact ⟨pre, cs, base, log, es, sn, hS, hi, hs, hl, hc, by omega⟩
theorem LgS.made (hS : Sep w (ring p mp k [] :: mem mp [3, 1, 4, 1, 5, 9] 0 [] :: L)) : LgS w L p mp k [] 0 :=
  ⟨0, _, 0, [], [], [], hS, RInv.nil _ _ _ _, small_lit _ _ _ (by decide) (by decide) (by decide) (by simp), LgI.nil k, rfl, by simp⟩
theorem LgS.drop (h : LgS w L p mp k ws B) : Sep w L := by
  obtain ⟨pre, cs, base, log, es, sn, hS, _⟩ := h
  exact hS.drop.drop

theorem SetLg (h : LgS w L p mp k ws B) (hB : B ≤ 1000000) (i v : Int) (h0 : 0 ≤ i) (h6 : i < 6) :
    Calls Try.prog 13 #[mp, i64 i, i64 v] w fun e w' => e = .returned (.tuple #[]) ∧ LgS w' L p mp k (bump ws) (B + 1) ∧ Stable w w' := by
  obtain ⟨pre, cs, base, log, es, sn, hS, hi, hs, hl, hc, hb⟩ := h
  have hlow := hs.low
  have hh : hasB cs i = true := hasB_iff.2 ⟨h0, by omega⟩
  refine (Set_spec (hS.pick 1) hs (by omega) i v).mono ?_
  rintro e w' ⟨rfl, hS', hst⟩
  have hi' := hi.set i v
  have hs' := hs.set i v (by omega)
  have hset : setL cs log i = log ++ [(i, cs.getD i.toNat 0)] := by unfold setL; rw [if_pos hh]
  rw [hset] at hS' hi' hs'
  obtain ⟨pre', hl'⟩ := hl.set (i, cs.getD i.toNat 0)
  exact ⟨rfl, ⟨pre', _, base, _, es, sn, hS'.pick 1, by rw [bump_length]; exact hi', hs', hl', by rw [setC_length]; exact hc, by simp; omega⟩, hst⟩

theorem PushLg (h : LgS w L p mp k ws B) (hB : B ≤ 1000000) (hk1 : 1 ≤ k) (hk2 : k ≤ 1000) (hw : ws.length ≤ 1000000) :
    Calls Try.prog 12 #[p, i64 ws.length] w fun e w' => e = .returned (i64 0) ∧ LgS w' L p mp k (ws ++ [0]) B ∧ Stable w w' := by
  obtain ⟨pre, cs, base, log, es, sn, hS, hi, hs, hl, hc, hb⟩ := h
  have hlow := hs.low
  have hm := hl.many
  have hp := hi.push (by omega)
  have hnw : -1000000 ≤ newest es ∧ newest es ≤ 1000000000000 := by
    by_cases h0 : es.length = 0
    · unfold newest; rw [if_pos h0]; omega
    · rw [hi.newest (by omega)]; omega
  rw [show (ws.length : Int) - es.length + es.length = ws.length by omega] at hp
  refine (Push_acc hS hs (by omega) hnw ws.length (by omega) (fun h0 => by rw [hi.newest h0]; omega) (by omega) (by omega) (by omega) (fun h0 => ⟨hp.lo 1 (by simp; omega), hp.hi 1 (by simp; omega)⟩)).mono ?_
  rintro e w' ⟨rfl, hP⟩
  unfold pushPost at hP
  refine ⟨rfl, ?_, hP.2⟩
  by_cases hlt : es.length < k
  · rw [if_pos (by omega)] at hP
    refine ⟨pre, cs, base, log, _, sn ++ [cs], hP.1, ?_, hs, hl.push hlt _, hc, hb⟩
    rw [List.length_append, List.length_append, show ((ws.length + [(0 : Int)].length : Nat) : Int) - ((es.length + [((ws.length : Int), base + (log.length : Int))].length : Nat) : Int) = (ws.length : Int) - es.length by simp; omega]
    exact hp
  · rw [if_neg (by omega)] at hP
    have hf := hp.forget (by simp; omega)
    have hlo := hp.lo 1 (by simp; omega)
    have hhi := hp.hi 1 (by simp; omega)
    have hld := hl.drop hk1 hlt ws.length hlo hhi
    unfold eM at hlo hhi
    refine ⟨pre, cs, _, _, _, (sn ++ [cs]).drop 1, hP.1, ?_, ⟨hs.cells, by omega, ?_, fun x hx => hs.4 x (List.mem_of_mem_drop hx)⟩, hld, hc, ?_⟩
    · have e : (ws.length : Int) - es.length + 1 = ((ws ++ [0]).length : Int) - ((es ++ [((ws.length : Int), base + (log.length : Int))]).drop 1).length := by simp; omega
      rw [← e]
      exact hf
    · rw [List.length_drop]; have := hs.position; omega
    · rw [List.length_drop]; omega

theorem LoggedLg (h : LgS w L p mp k ws B) (hk : k < ws.length) (hk1 : 1 ≤ k) :
    Calls Try.prog 28 #[mp] w fun e w' => e = .returned (i64 (ws.sum - (ws.take (ws.length - k)).sum)) ∧ w = w' := by
  obtain ⟨pre, cs, base, log, es, sn, hS, hi, hs, hl, hc, hb⟩ := h
  have h1 := hl.gone hk
  have hm := hl.many
  have h2 := hl.mark 0 (by omega)
  have h3 := hl.pos
  have h4 : (log.length : Int) = ws.sum - (ws.take (ws.length - k)).sum := by
    rw [show ws.length - es.length + 0 = ws.length - k by omega] at h2
    omega
  rw [← h4]
  exact Logged_spec (hS.pick 1) hs

end Go.Proofs.Ytfhjdfllkjjldaa
