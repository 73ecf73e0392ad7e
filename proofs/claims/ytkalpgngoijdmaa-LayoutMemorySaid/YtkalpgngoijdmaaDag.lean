/- Regions that draw their order, by what each operation takes and leaves: one proof an operation, whatever the order. Program independent. -/
import Derived.Test.YtkalpgngoijdmaaHeld
import Derived.OrdersHeld
import Derived.Lib.Hide
namespace Go.Sl
open Go Go.RowKit

/-- What an operation of a region needs of the operations before it (by number), which of their parts of the heap it takes over, what holds of its value, and the part of the heap that it leaves. -/
structure Sp where
  on : List Nat
  take : List Nat
  val : List Value → Value → Prop
  res : List Value → Value → Asn
instance : Inhabited Sp := ⟨⟨[], [], fun _ _ => True, fun _ _ _ => True⟩⟩

def emp : Asn := fun _ => True
def dagPut (a : Act) : List (Option Tmp) → List Value → Act
  | d :: ds, x :: xs => dagPut (a.put d x) ds xs
  | _, _ => a
def getL (xs : List Value) (l : List Nat) : List Value := l.map fun j => xs.getD j undef
def dagDsts (ops : Array Oper) : List (Option Tmp) := ops.toList.map (·.dst)
def distinctB : List (Option Tmp) → Bool
  | [] => true
  | none :: l => distinctB l
  | some d :: l => !l.contains (some d) && distinctB l

theorem putAll_put : ∀ (ds : List (Option Tmp)) (xs : List Value) (a : Act) (d : Option Tmp) (v : Value), (∀ t, d = some t → some t ∉ ds) → (dagPut a ds xs).put d v = dagPut (a.put d v) ds xs
  | [], _, _, _, _, _ => rfl
  | e :: ds, [], _, _, _, _ => rfl
  | e :: ds, x :: xs, a, d, v, h => by
    simp only [dagPut]
    rw [putAll_put ds xs _ d v (fun t ht hm => h t ht (List.mem_cons_of_mem _ hm))]
    rw [Act.put_comm a v x (x := d) (y := e) (fun t ht he => h t ht (by rw [he]; exact List.mem_cons_self ..))]
theorem put_put (a : Act) (d : Option Tmp) (x v : Value) : (a.put d x).put d v = a.put d v := by
  cases d with
  | none => rfl
  | some t => simp [Act.put]
theorem putAll_set : ∀ (ds : List (Option Tmp)) (xs : List Value) (a : Act) (i : Nat) (v : Value), distinctB ds = true → i < ds.length → i < xs.length →
    dagPut a ds (xs.set i v) = (dagPut a ds xs).put (ds.getD i none) v
  | [], _, _, i, _, _, h, _ => by simp at h
  | d :: ds, [], _, i, _, _, _, h => by simp at h
  | d :: ds, x :: xs, a, 0, v, hd, _, _ => by
    simp only [List.set_cons_zero, dagPut, List.getD_cons_zero]
    rw [putAll_put ds xs _ d v, put_put]
    rintro t rfl hm
    simp [distinctB, hm] at hd
  | d :: ds, x :: xs, a, i + 1, v, hd, h1, h2 => by
    simp only [List.set_cons_succ, dagPut, List.getD_cons_succ]
    refine putAll_set ds xs _ i v ?_ (by simpa using h1) (by simpa using h2)
    cases d with
    | none => exact hd
    | some t => simp only [distinctB, Bool.and_eq_true] at hd; exact hd.2

/-! Lists of parts: taking some out, laying one in. -/
variable {A : Asn} {M M' F : List Asn} {h : Hl}
theorem star_emp : star (emp :: M) h ↔ star M h :=
  ⟨fun ⟨_, _, _, s, _, _, l⟩ => star_le s l, fun s => ⟨Hl.none, h, trivial, s, Hl.dj_none _, Hl.none_le _, Hl.le_refl _⟩⟩
theorem split_at {j : Nat} (hj : j < M.length) : ∃ M1 M2, M = M1 ++ M[j] :: M2 ∧ ∀ B, M.set j B = M1 ++ B :: M2 := by
  refine ⟨M.take j, M.drop (j + 1), by simp, fun B => ?_⟩
  rw [List.set_eq_take_append_cons_drop, if_pos hj]
theorem star_extract {j : Nat} (hj : j < M.length) (s : star (M ++ F) h) : star (M[j] :: (M.set j emp ++ F)) h := by
  obtain ⟨M1, M2, e, es⟩ := split_at hj
  rw [es emp]
  have s2 : star (M1 ++ M[j] :: M2 ++ F) h := by rw [← e]; exact s
  generalize M[j] = A at *
  have p1 : star (A :: (M1 ++ M2 ++ F)) h := star_perm (by simp) _ s2
  refine star_tail (fun k sk => ?_) p1
  refine star_perm (List.Perm.symm ?_) _ (star_emp.2 sk)
  simp
theorem star_insert {j : Nat} (hj : j < M.length) (s : star (A :: (M.set j emp ++ F)) h) : star (M.set j A ++ F) h := by
  obtain ⟨M1, M2, e, es⟩ := split_at hj
  rw [es emp] at s
  rw [es A]
  have p1 : star (A :: (M1 ++ M2 ++ F)) h := by
    refine star_tail (fun k sk => ?_) s
    refine star_emp.1 (star_perm ?_ _ sk)
    simp
  refine star_perm (List.Perm.symm ?_) _ p1
  simp
theorem star_forget {j : Nat} (hj : j < M.length) (s : star (M ++ F) h) : star (M.set j emp ++ F) h := by
  have s2 := star_extract hj s
  obtain ⟨_, _, _, s3, _, _, l⟩ := s2
  exact star_le s3 l

def atL (M : List Asn) (j : Nat) : Asn := M.getD j emp
theorem star_out : ∀ (T : List Nat) (M M' : List Asn) (i : Nat) (F : List Asn) (h : Hl), T.Nodup → i ∉ T → M.length = M'.length → (∀ j ∈ T, j < M.length) → i < M.length → (∀ j ∈ T, atL M' j = emp) → (∀ j, j ∉ T → j ≠ i → atL M' j = atL M j) →
    star (M ++ F) h → star (T.map (atL M) ++ (M'.set i emp ++ F)) h
  | [], M, M', i, F, h, _, _, hl, _, hi, _, hs, s => by
    have : M'.set i emp = M.set i emp := by
      apply List.ext_getElem (by simp [hl])
      intro k h1 h2
      simp only [List.length_set] at h1 h2
      by_cases e : k = i
      · subst e; simp
      · have := hs k (by simp) e
        rw [atL, atL, List.getD_eq_getElem?_getD, List.getD_eq_getElem?_getD, List.getElem?_eq_getElem h1, List.getElem?_eq_getElem h2] at this
        simp [Ne.symm e]; simpa using this
    rw [this]
    exact star_forget hi s
  | j :: T, M, M', i, F, h, hn, hiT, hl, hT, hi, he, hs, s => by
    have hj := hT j (by simp)
    have hjT : j ∉ T := (List.nodup_cons.1 hn).1
    have e1 : atL M j = M[j] := by simp [atL, List.getD_eq_getElem?_getD, hj]
    have hij : i ≠ j := fun e => hiT (by simp [e])
    have at_set : ∀ k, k ≠ j → atL (M.set j emp) k = atL M k := fun k hk => by simp [atL, List.getD_eq_getElem?_getD, Ne.symm hk]
    have at_self : atL (M.set j emp) j = emp := by simp [atL, List.getD_eq_getElem?_getD, hj]
    simp only [List.map_cons, List.cons_append]
    rw [e1]
    refine star_tail (fun k sk => ?_) (star_extract hj s)
    have ih := star_out T (M.set j emp) M' i F k (List.nodup_cons.1 hn).2 (fun h => hiT (by simp [h])) (by simp [hl]) (fun x hx => by simpa using hT x (by simp [hx])) (by simpa using hi)
      (fun x hx => he x (by simp [hx])) (fun x hx hxi => by
        by_cases hxj : x = j
        · subst hxj; rw [at_self]; exact he x (by simp)
        · rw [at_set x hxj]; exact hs x (by simp [hx, hxj]) hxi) sk
    have em : T.map (atL (M.set j emp)) = T.map (atL M) := List.map_congr_left fun x hx => at_set x (fun e => hjT (e ▸ hx))
    rw [em] at ih
    exact ih

/-! The rule. -/
section
variable {P : Program} {ops : Array Oper} {Q : Exit → Act → World → Prop} {sp : List Sp} {w0 : World}

def spOf (sp : List Sp) (i : Nat) : Sp := sp.getD i default
def takenBy (sp : List Sp) (listed : Array Bool) (i : Nat) : Bool := (List.range sp.length).any fun k => (spOf sp k).take.contains i && listed.getD k false
def resOf (sp : List Sp) (xs : List Value) (i : Nat) : Asn := (spOf sp i).res (getL xs (spOf sp i).on) (xs.getD i undef)
def resAt (sp : List Sp) (listed : Array Bool) (xs : List Value) (i : Nat) : Asn := if listed.getD i false && !takenBy sp listed i then resOf sp xs i else emp
def valAt (sp : List Sp) (xs : List Value) (i : Nat) : Prop := (spOf sp i).val (getL xs (spOf sp i).on) (xs.getD i undef)
def resAll (sp : List Sp) (listed : Array Bool) (xs : List Value) : List Asn := (List.range sp.length).map (resAt sp listed xs)

/-- The rule's side conditions, to be checked by evaluation. -/
def dagB (ops : Array Oper) (sp : List Sp) : Bool :=
  decide (sp.length = ops.size) && (distinctB (dagDsts ops) &&
  ((List.range sp.length).all fun i =>
    (((spOf sp i).on ++ (spOf sp i).take).all fun j => decide (j < i) && ((ops[i]?).map fun o => o.after.any fun e => e.on == j && Region.binds .any e).getD false) &&
    (decide (spOf sp i).take.Nodup &&
    (((List.range sp.length).all fun k => k == i || (spOf sp i).take.all fun j => !(spOf sp k).take.contains j) &&
    ((ops[i]?).map fun o => o.after.all fun e => !Region.binds .any e || decide (e.on < i)).getD false))))

def allVal (sp : List Sp) (xs : List Value) : List Nat → Prop
  | [] => True
  | j :: l => valAt sp xs j ∧ allVal sp xs l
theorem allVal_of {xs : List Value} : ∀ {l : List Nat}, (∀ j ∈ l, valAt sp xs j) → allVal sp xs l
  | [], _ => trivial
  | j :: _, h => ⟨h j (by simp), allVal_of fun k hk => h k (by simp [hk])⟩
def below (p : Nat → Prop) : Nat → Prop
  | 0 => True
  | n + 1 => below p n ∧ p n
theorem below_lt {p : Nat → Prop} : ∀ {n : Nat}, below p n → ∀ i, i < n → p i
  | 0, _, _, h => absurd h (by omega)
  | n + 1, hb, i, h => by
    rcases Nat.lt_or_ge i n with h1 | h1
    · exact below_lt hb.1 i h1
    · obtain rfl : i = n := by omega
      exact hb.2
theorem lt_below {p : Nat → Prop} : ∀ {n : Nat}, (∀ i, i < n → p i) → below p n
  | 0, _ => trivial
  | n + 1, h => ⟨lt_below fun i hi => h i (by omega), h n (by omega)⟩
theorem cons_of_len {xs : List Value} {n : Nat} (h : xs.length = n + 1) : ∃ x t, xs = x :: t ∧ t.length = n := by
  cases xs with
  | nil => simp at h
  | cons x t => exact ⟨x, t, rfl, by simpa using h⟩
theorem nil_of_len {xs : List Value} (h : xs.length = 0) : xs = [] := List.eq_nil_of_length_eq_zero h

theorem len1 {xs : List Value} (h : xs.length = 1) : ∃ x0, xs = [x0] := by
  obtain ⟨x0, t, rfl, k⟩ := cons_of_len h
  exact ⟨x0, by rw [nil_of_len k]⟩
theorem len2 {xs : List Value} (h : xs.length = 2) : ∃ x0 x1, xs = [x0, x1] := by
  obtain ⟨y, t, rfl, k⟩ := cons_of_len h
  obtain ⟨x1, rfl⟩ := len1 k
  exact ⟨y, x1, rfl⟩
theorem len3 {xs : List Value} (h : xs.length = 3) : ∃ x0 x1 x2, xs = [x0, x1, x2] := by
  obtain ⟨y, t, rfl, k⟩ := cons_of_len h
  obtain ⟨x1, x2, rfl⟩ := len2 k
  exact ⟨y, x1, x2, rfl⟩
theorem len4 {xs : List Value} (h : xs.length = 4) : ∃ x0 x1 x2 x3, xs = [x0, x1, x2, x3] := by
  obtain ⟨y, t, rfl, k⟩ := cons_of_len h
  obtain ⟨x1, x2, x3, rfl⟩ := len3 k
  exact ⟨y, x1, x2, x3, rfl⟩
theorem len5 {xs : List Value} (h : xs.length = 5) : ∃ x0 x1 x2 x3 x4, xs = [x0, x1, x2, x3, x4] := by
  obtain ⟨y, t, rfl, k⟩ := cons_of_len h
  obtain ⟨x1, x2, x3, x4, rfl⟩ := len4 k
  exact ⟨y, x1, x2, x3, x4, rfl⟩
theorem len6 {xs : List Value} (h : xs.length = 6) : ∃ x0 x1 x2 x3 x4 x5, xs = [x0, x1, x2, x3, x4, x5] := by
  obtain ⟨y, t, rfl, k⟩ := cons_of_len h
  obtain ⟨x1, x2, x3, x4, x5, rfl⟩ := len5 k
  exact ⟨y, x1, x2, x3, x4, x5, rfl⟩
theorem len7 {xs : List Value} (h : xs.length = 7) : ∃ x0 x1 x2 x3 x4 x5 x6, xs = [x0, x1, x2, x3, x4, x5, x6] := by
  obtain ⟨y, t, rfl, k⟩ := cons_of_len h
  obtain ⟨x1, x2, x3, x4, x5, x6, rfl⟩ := len6 k
  exact ⟨y, x1, x2, x3, x4, x5, x6, rfl⟩
theorem len8 {xs : List Value} (h : xs.length = 8) : ∃ x0 x1 x2 x3 x4 x5 x6 x7, xs = [x0, x1, x2, x3, x4, x5, x6, x7] := by
  obtain ⟨y, t, rfl, k⟩ := cons_of_len h
  obtain ⟨x1, x2, x3, x4, x5, x6, x7, rfl⟩ := len7 k
  exact ⟨y, x1, x2, x3, x4, x5, x6, x7, rfl⟩
theorem len9 {xs : List Value} (h : xs.length = 9) : ∃ x0 x1 x2 x3 x4 x5 x6 x7 x8, xs = [x0, x1, x2, x3, x4, x5, x6, x7, x8] := by
  obtain ⟨y, t, rfl, k⟩ := cons_of_len h
  obtain ⟨x1, x2, x3, x4, x5, x6, x7, x8, rfl⟩ := len8 k
  exact ⟨y, x1, x2, x3, x4, x5, x6, x7, x8, rfl⟩
theorem len10 {xs : List Value} (h : xs.length = 10) : ∃ x0 x1 x2 x3 x4 x5 x6 x7 x8 x9, xs = [x0, x1, x2, x3, x4, x5, x6, x7, x8, x9] := by
  obtain ⟨y, t, rfl, k⟩ := cons_of_len h
  obtain ⟨x1, x2, x3, x4, x5, x6, x7, x8, x9, rfl⟩ := len9 k
  exact ⟨y, x1, x2, x3, x4, x5, x6, x7, x8, x9, rfl⟩
theorem len11 {xs : List Value} (h : xs.length = 11) : ∃ x0 x1 x2 x3 x4 x5 x6 x7 x8 x9 x10, xs = [x0, x1, x2, x3, x4, x5, x6, x7, x8, x9, x10] := by
  obtain ⟨y, t, rfl, k⟩ := cons_of_len h
  obtain ⟨x1, x2, x3, x4, x5, x6, x7, x8, x9, x10, rfl⟩ := len10 k
  exact ⟨y, x1, x2, x3, x4, x5, x6, x7, x8, x9, x10, rfl⟩
theorem len12 {xs : List Value} (h : xs.length = 12) : ∃ x0 x1 x2 x3 x4 x5 x6 x7 x8 x9 x10 x11, xs = [x0, x1, x2, x3, x4, x5, x6, x7, x8, x9, x10, x11] := by
  obtain ⟨y, t, rfl, k⟩ := cons_of_len h
  obtain ⟨x1, x2, x3, x4, x5, x6, x7, x8, x9, x10, x11, rfl⟩ := len11 k
  exact ⟨y, x1, x2, x3, x4, x5, x6, x7, x8, x9, x10, x11, rfl⟩
theorem len13 {xs : List Value} (h : xs.length = 13) : ∃ x0 x1 x2 x3 x4 x5 x6 x7 x8 x9 x10 x11 x12, xs = [x0, x1, x2, x3, x4, x5, x6, x7, x8, x9, x10, x11, x12] := by
  obtain ⟨y, t, rfl, k⟩ := cons_of_len h
  obtain ⟨x1, x2, x3, x4, x5, x6, x7, x8, x9, x10, x11, x12, rfl⟩ := len12 k
  exact ⟨y, x1, x2, x3, x4, x5, x6, x7, x8, x9, x10, x11, x12, rfl⟩
theorem len14 {xs : List Value} (h : xs.length = 14) : ∃ x0 x1 x2 x3 x4 x5 x6 x7 x8 x9 x10 x11 x12 x13, xs = [x0, x1, x2, x3, x4, x5, x6, x7, x8, x9, x10, x11, x12, x13] := by
  obtain ⟨y, t, rfl, k⟩ := cons_of_len h
  obtain ⟨x1, x2, x3, x4, x5, x6, x7, x8, x9, x10, x11, x12, x13, rfl⟩ := len13 k
  exact ⟨y, x1, x2, x3, x4, x5, x6, x7, x8, x9, x10, x11, x12, x13, rfl⟩
theorem len15 {xs : List Value} (h : xs.length = 15) : ∃ x0 x1 x2 x3 x4 x5 x6 x7 x8 x9 x10 x11 x12 x13 x14, xs = [x0, x1, x2, x3, x4, x5, x6, x7, x8, x9, x10, x11, x12, x13, x14] := by
  obtain ⟨y, t, rfl, k⟩ := cons_of_len h
  obtain ⟨x1, x2, x3, x4, x5, x6, x7, x8, x9, x10, x11, x12, x13, x14, rfl⟩ := len14 k
  exact ⟨y, x1, x2, x3, x4, x5, x6, x7, x8, x9, x10, x11, x12, x13, x14, rfl⟩
theorem len16 {xs : List Value} (h : xs.length = 16) : ∃ x0 x1 x2 x3 x4 x5 x6 x7 x8 x9 x10 x11 x12 x13 x14 x15, xs = [x0, x1, x2, x3, x4, x5, x6, x7, x8, x9, x10, x11, x12, x13, x14, x15] := by
  obtain ⟨y, t, rfl, k⟩ := cons_of_len h
  obtain ⟨x1, x2, x3, x4, x5, x6, x7, x8, x9, x10, x11, x12, x13, x14, x15, rfl⟩ := len15 k
  exact ⟨y, x1, x2, x3, x4, x5, x6, x7, x8, x9, x10, x11, x12, x13, x14, x15, rfl⟩
theorem len17 {xs : List Value} (h : xs.length = 17) : ∃ x0 x1 x2 x3 x4 x5 x6 x7 x8 x9 x10 x11 x12 x13 x14 x15 x16, xs = [x0, x1, x2, x3, x4, x5, x6, x7, x8, x9, x10, x11, x12, x13, x14, x15, x16] := by
  obtain ⟨y, t, rfl, k⟩ := cons_of_len h
  obtain ⟨x1, x2, x3, x4, x5, x6, x7, x8, x9, x10, x11, x12, x13, x14, x15, x16, rfl⟩ := len16 k
  exact ⟨y, x1, x2, x3, x4, x5, x6, x7, x8, x9, x10, x11, x12, x13, x14, x15, x16, rfl⟩
theorem len18 {xs : List Value} (h : xs.length = 18) : ∃ x0 x1 x2 x3 x4 x5 x6 x7 x8 x9 x10 x11 x12 x13 x14 x15 x16 x17, xs = [x0, x1, x2, x3, x4, x5, x6, x7, x8, x9, x10, x11, x12, x13, x14, x15, x16, x17] := by
  obtain ⟨y, t, rfl, k⟩ := cons_of_len h
  obtain ⟨x1, x2, x3, x4, x5, x6, x7, x8, x9, x10, x11, x12, x13, x14, x15, x16, x17, rfl⟩ := len17 k
  exact ⟨y, x1, x2, x3, x4, x5, x6, x7, x8, x9, x10, x11, x12, x13, x14, x15, x16, x17, rfl⟩
theorem len19 {xs : List Value} (h : xs.length = 19) : ∃ x0 x1 x2 x3 x4 x5 x6 x7 x8 x9 x10 x11 x12 x13 x14 x15 x16 x17 x18, xs = [x0, x1, x2, x3, x4, x5, x6, x7, x8, x9, x10, x11, x12, x13, x14, x15, x16, x17, x18] := by
  obtain ⟨y, t, rfl, k⟩ := cons_of_len h
  obtain ⟨x1, x2, x3, x4, x5, x6, x7, x8, x9, x10, x11, x12, x13, x14, x15, x16, x17, x18, rfl⟩ := len18 k
  exact ⟨y, x1, x2, x3, x4, x5, x6, x7, x8, x9, x10, x11, x12, x13, x14, x15, x16, x17, x18, rfl⟩
theorem len20 {xs : List Value} (h : xs.length = 20) : ∃ x0 x1 x2 x3 x4 x5 x6 x7 x8 x9 x10 x11 x12 x13 x14 x15 x16 x17 x18 x19, xs = [x0, x1, x2, x3, x4, x5, x6, x7, x8, x9, x10, x11, x12, x13, x14, x15, x16, x17, x18, x19] := by
  obtain ⟨y, t, rfl, k⟩ := cons_of_len h
  obtain ⟨x1, x2, x3, x4, x5, x6, x7, x8, x9, x10, x11, x12, x13, x14, x15, x16, x17, x18, x19, rfl⟩ := len19 k
  exact ⟨y, x1, x2, x3, x4, x5, x6, x7, x8, x9, x10, x11, x12, x13, x14, x15, x16, x17, x18, x19, rfl⟩
theorem len21 {xs : List Value} (h : xs.length = 21) : ∃ x0 x1 x2 x3 x4 x5 x6 x7 x8 x9 x10 x11 x12 x13 x14 x15 x16 x17 x18 x19 x20, xs = [x0, x1, x2, x3, x4, x5, x6, x7, x8, x9, x10, x11, x12, x13, x14, x15, x16, x17, x18, x19, x20] := by
  obtain ⟨y, t, rfl, k⟩ := cons_of_len h
  obtain ⟨x1, x2, x3, x4, x5, x6, x7, x8, x9, x10, x11, x12, x13, x14, x15, x16, x17, x18, x19, x20, rfl⟩ := len20 k
  exact ⟨y, x1, x2, x3, x4, x5, x6, x7, x8, x9, x10, x11, x12, x13, x14, x15, x16, x17, x18, x19, x20, rfl⟩
theorem len22 {xs : List Value} (h : xs.length = 22) : ∃ x0 x1 x2 x3 x4 x5 x6 x7 x8 x9 x10 x11 x12 x13 x14 x15 x16 x17 x18 x19 x20 x21, xs = [x0, x1, x2, x3, x4, x5, x6, x7, x8, x9, x10, x11, x12, x13, x14, x15, x16, x17, x18, x19, x20, x21] := by
  obtain ⟨y, t, rfl, k⟩ := cons_of_len h
  obtain ⟨x1, x2, x3, x4, x5, x6, x7, x8, x9, x10, x11, x12, x13, x14, x15, x16, x17, x18, x19, x20, x21, rfl⟩ := len21 k
  exact ⟨y, x1, x2, x3, x4, x5, x6, x7, x8, x9, x10, x11, x12, x13, x14, x15, x16, x17, x18, x19, x20, x21, rfl⟩
theorem len23 {xs : List Value} (h : xs.length = 23) : ∃ x0 x1 x2 x3 x4 x5 x6 x7 x8 x9 x10 x11 x12 x13 x14 x15 x16 x17 x18 x19 x20 x21 x22, xs = [x0, x1, x2, x3, x4, x5, x6, x7, x8, x9, x10, x11, x12, x13, x14, x15, x16, x17, x18, x19, x20, x21, x22] := by
  obtain ⟨y, t, rfl, k⟩ := cons_of_len h
  obtain ⟨x1, x2, x3, x4, x5, x6, x7, x8, x9, x10, x11, x12, x13, x14, x15, x16, x17, x18, x19, x20, x21, x22, rfl⟩ := len22 k
  exact ⟨y, x1, x2, x3, x4, x5, x6, x7, x8, x9, x10, x11, x12, x13, x14, x15, x16, x17, x18, x19, x20, x21, x22, rfl⟩
theorem len24 {xs : List Value} (h : xs.length = 24) : ∃ x0 x1 x2 x3 x4 x5 x6 x7 x8 x9 x10 x11 x12 x13 x14 x15 x16 x17 x18 x19 x20 x21 x22 x23, xs = [x0, x1, x2, x3, x4, x5, x6, x7, x8, x9, x10, x11, x12, x13, x14, x15, x16, x17, x18, x19, x20, x21, x22, x23] := by
  obtain ⟨y, t, rfl, k⟩ := cons_of_len h
  obtain ⟨x1, x2, x3, x4, x5, x6, x7, x8, x9, x10, x11, x12, x13, x14, x15, x16, x17, x18, x19, x20, x21, x22, x23, rfl⟩ := len23 k
  exact ⟨y, x1, x2, x3, x4, x5, x6, x7, x8, x9, x10, x11, x12, x13, x14, x15, x16, x17, x18, x19, x20, x21, x22, x23, rfl⟩
theorem len25 {xs : List Value} (h : xs.length = 25) : ∃ x0 x1 x2 x3 x4 x5 x6 x7 x8 x9 x10 x11 x12 x13 x14 x15 x16 x17 x18 x19 x20 x21 x22 x23 x24, xs = [x0, x1, x2, x3, x4, x5, x6, x7, x8, x9, x10, x11, x12, x13, x14, x15, x16, x17, x18, x19, x20, x21, x22, x23, x24] := by
  obtain ⟨y, t, rfl, k⟩ := cons_of_len h
  obtain ⟨x1, x2, x3, x4, x5, x6, x7, x8, x9, x10, x11, x12, x13, x14, x15, x16, x17, x18, x19, x20, x21, x22, x23, x24, rfl⟩ := len24 k
  exact ⟨y, x1, x2, x3, x4, x5, x6, x7, x8, x9, x10, x11, x12, x13, x14, x15, x16, x17, x18, x19, x20, x21, x22, x23, x24, rfl⟩
theorem len26 {xs : List Value} (h : xs.length = 26) : ∃ x0 x1 x2 x3 x4 x5 x6 x7 x8 x9 x10 x11 x12 x13 x14 x15 x16 x17 x18 x19 x20 x21 x22 x23 x24 x25, xs = [x0, x1, x2, x3, x4, x5, x6, x7, x8, x9, x10, x11, x12, x13, x14, x15, x16, x17, x18, x19, x20, x21, x22, x23, x24, x25] := by
  obtain ⟨y, t, rfl, k⟩ := cons_of_len h
  obtain ⟨x1, x2, x3, x4, x5, x6, x7, x8, x9, x10, x11, x12, x13, x14, x15, x16, x17, x18, x19, x20, x21, x22, x23, x24, x25, rfl⟩ := len25 k
  exact ⟨y, x1, x2, x3, x4, x5, x6, x7, x8, x9, x10, x11, x12, x13, x14, x15, x16, x17, x18, x19, x20, x21, x22, x23, x24, x25, rfl⟩
theorem len27 {xs : List Value} (h : xs.length = 27) : ∃ x0 x1 x2 x3 x4 x5 x6 x7 x8 x9 x10 x11 x12 x13 x14 x15 x16 x17 x18 x19 x20 x21 x22 x23 x24 x25 x26, xs = [x0, x1, x2, x3, x4, x5, x6, x7, x8, x9, x10, x11, x12, x13, x14, x15, x16, x17, x18, x19, x20, x21, x22, x23, x24, x25, x26] := by
  obtain ⟨y, t, rfl, k⟩ := cons_of_len h
  obtain ⟨x1, x2, x3, x4, x5, x6, x7, x8, x9, x10, x11, x12, x13, x14, x15, x16, x17, x18, x19, x20, x21, x22, x23, x24, x25, x26, rfl⟩ := len26 k
  exact ⟨y, x1, x2, x3, x4, x5, x6, x7, x8, x9, x10, x11, x12, x13, x14, x15, x16, x17, x18, x19, x20, x21, x22, x23, x24, x25, x26, rfl⟩
theorem len28 {xs : List Value} (h : xs.length = 28) : ∃ x0 x1 x2 x3 x4 x5 x6 x7 x8 x9 x10 x11 x12 x13 x14 x15 x16 x17 x18 x19 x20 x21 x22 x23 x24 x25 x26 x27, xs = [x0, x1, x2, x3, x4, x5, x6, x7, x8, x9, x10, x11, x12, x13, x14, x15, x16, x17, x18, x19, x20, x21, x22, x23, x24, x25, x26, x27] := by
  obtain ⟨y, t, rfl, k⟩ := cons_of_len h
  obtain ⟨x1, x2, x3, x4, x5, x6, x7, x8, x9, x10, x11, x12, x13, x14, x15, x16, x17, x18, x19, x20, x21, x22, x23, x24, x25, x26, x27, rfl⟩ := len27 k
  exact ⟨y, x1, x2, x3, x4, x5, x6, x7, x8, x9, x10, x11, x12, x13, x14, x15, x16, x17, x18, x19, x20, x21, x22, x23, x24, x25, x26, x27, rfl⟩
theorem len29 {xs : List Value} (h : xs.length = 29) : ∃ x0 x1 x2 x3 x4 x5 x6 x7 x8 x9 x10 x11 x12 x13 x14 x15 x16 x17 x18 x19 x20 x21 x22 x23 x24 x25 x26 x27 x28, xs = [x0, x1, x2, x3, x4, x5, x6, x7, x8, x9, x10, x11, x12, x13, x14, x15, x16, x17, x18, x19, x20, x21, x22, x23, x24, x25, x26, x27, x28] := by
  obtain ⟨y, t, rfl, k⟩ := cons_of_len h
  obtain ⟨x1, x2, x3, x4, x5, x6, x7, x8, x9, x10, x11, x12, x13, x14, x15, x16, x17, x18, x19, x20, x21, x22, x23, x24, x25, x26, x27, x28, rfl⟩ := len28 k
  exact ⟨y, x1, x2, x3, x4, x5, x6, x7, x8, x9, x10, x11, x12, x13, x14, x15, x16, x17, x18, x19, x20, x21, x22, x23, x24, x25, x26, x27, x28, rfl⟩
theorem len30 {xs : List Value} (h : xs.length = 30) : ∃ x0 x1 x2 x3 x4 x5 x6 x7 x8 x9 x10 x11 x12 x13 x14 x15 x16 x17 x18 x19 x20 x21 x22 x23 x24 x25 x26 x27 x28 x29, xs = [x0, x1, x2, x3, x4, x5, x6, x7, x8, x9, x10, x11, x12, x13, x14, x15, x16, x17, x18, x19, x20, x21, x22, x23, x24, x25, x26, x27, x28, x29] := by
  obtain ⟨y, t, rfl, k⟩ := cons_of_len h
  obtain ⟨x1, x2, x3, x4, x5, x6, x7, x8, x9, x10, x11, x12, x13, x14, x15, x16, x17, x18, x19, x20, x21, x22, x23, x24, x25, x26, x27, x28, x29, rfl⟩ := len29 k
  exact ⟨y, x1, x2, x3, x4, x5, x6, x7, x8, x9, x10, x11, x12, x13, x14, x15, x16, x17, x18, x19, x20, x21, x22, x23, x24, x25, x26, x27, x28, x29, rfl⟩
theorem len31 {xs : List Value} (h : xs.length = 31) : ∃ x0 x1 x2 x3 x4 x5 x6 x7 x8 x9 x10 x11 x12 x13 x14 x15 x16 x17 x18 x19 x20 x21 x22 x23 x24 x25 x26 x27 x28 x29 x30, xs = [x0, x1, x2, x3, x4, x5, x6, x7, x8, x9, x10, x11, x12, x13, x14, x15, x16, x17, x18, x19, x20, x21, x22, x23, x24, x25, x26, x27, x28, x29, x30] := by
  obtain ⟨y, t, rfl, k⟩ := cons_of_len h
  obtain ⟨x1, x2, x3, x4, x5, x6, x7, x8, x9, x10, x11, x12, x13, x14, x15, x16, x17, x18, x19, x20, x21, x22, x23, x24, x25, x26, x27, x28, x29, x30, rfl⟩ := len30 k
  exact ⟨y, x1, x2, x3, x4, x5, x6, x7, x8, x9, x10, x11, x12, x13, x14, x15, x16, x17, x18, x19, x20, x21, x22, x23, x24, x25, x26, x27, x28, x29, x30, rfl⟩
theorem len32 {xs : List Value} (h : xs.length = 32) : ∃ x0 x1 x2 x3 x4 x5 x6 x7 x8 x9 x10 x11 x12 x13 x14 x15 x16 x17 x18 x19 x20 x21 x22 x23 x24 x25 x26 x27 x28 x29 x30 x31, xs = [x0, x1, x2, x3, x4, x5, x6, x7, x8, x9, x10, x11, x12, x13, x14, x15, x16, x17, x18, x19, x20, x21, x22, x23, x24, x25, x26, x27, x28, x29, x30, x31] := by
  obtain ⟨y, t, rfl, k⟩ := cons_of_len h
  obtain ⟨x1, x2, x3, x4, x5, x6, x7, x8, x9, x10, x11, x12, x13, x14, x15, x16, x17, x18, x19, x20, x21, x22, x23, x24, x25, x26, x27, x28, x29, x30, x31, rfl⟩ := len31 k
  exact ⟨y, x1, x2, x3, x4, x5, x6, x7, x8, x9, x10, x11, x12, x13, x14, x15, x16, x17, x18, x19, x20, x21, x22, x23, x24, x25, x26, x27, x28, x29, x30, x31, rfl⟩
theorem len33 {xs : List Value} (h : xs.length = 33) : ∃ x0 x1 x2 x3 x4 x5 x6 x7 x8 x9 x10 x11 x12 x13 x14 x15 x16 x17 x18 x19 x20 x21 x22 x23 x24 x25 x26 x27 x28 x29 x30 x31 x32, xs = [x0, x1, x2, x3, x4, x5, x6, x7, x8, x9, x10, x11, x12, x13, x14, x15, x16, x17, x18, x19, x20, x21, x22, x23, x24, x25, x26, x27, x28, x29, x30, x31, x32] := by
  obtain ⟨y, t, rfl, k⟩ := cons_of_len h
  obtain ⟨x1, x2, x3, x4, x5, x6, x7, x8, x9, x10, x11, x12, x13, x14, x15, x16, x17, x18, x19, x20, x21, x22, x23, x24, x25, x26, x27, x28, x29, x30, x31, x32, rfl⟩ := len32 k
  exact ⟨y, x1, x2, x3, x4, x5, x6, x7, x8, x9, x10, x11, x12, x13, x14, x15, x16, x17, x18, x19, x20, x21, x22, x23, x24, x25, x26, x27, x28, x29, x30, x31, x32, rfl⟩
theorem len34 {xs : List Value} (h : xs.length = 34) : ∃ x0 x1 x2 x3 x4 x5 x6 x7 x8 x9 x10 x11 x12 x13 x14 x15 x16 x17 x18 x19 x20 x21 x22 x23 x24 x25 x26 x27 x28 x29 x30 x31 x32 x33, xs = [x0, x1, x2, x3, x4, x5, x6, x7, x8, x9, x10, x11, x12, x13, x14, x15, x16, x17, x18, x19, x20, x21, x22, x23, x24, x25, x26, x27, x28, x29, x30, x31, x32, x33] := by
  obtain ⟨y, t, rfl, k⟩ := cons_of_len h
  obtain ⟨x1, x2, x3, x4, x5, x6, x7, x8, x9, x10, x11, x12, x13, x14, x15, x16, x17, x18, x19, x20, x21, x22, x23, x24, x25, x26, x27, x28, x29, x30, x31, x32, x33, rfl⟩ := len33 k
  exact ⟨y, x1, x2, x3, x4, x5, x6, x7, x8, x9, x10, x11, x12, x13, x14, x15, x16, x17, x18, x19, x20, x21, x22, x23, x24, x25, x26, x27, x28, x29, x30, x31, x32, x33, rfl⟩
theorem len35 {xs : List Value} (h : xs.length = 35) : ∃ x0 x1 x2 x3 x4 x5 x6 x7 x8 x9 x10 x11 x12 x13 x14 x15 x16 x17 x18 x19 x20 x21 x22 x23 x24 x25 x26 x27 x28 x29 x30 x31 x32 x33 x34, xs = [x0, x1, x2, x3, x4, x5, x6, x7, x8, x9, x10, x11, x12, x13, x14, x15, x16, x17, x18, x19, x20, x21, x22, x23, x24, x25, x26, x27, x28, x29, x30, x31, x32, x33, x34] := by
  obtain ⟨y, t, rfl, k⟩ := cons_of_len h
  obtain ⟨x1, x2, x3, x4, x5, x6, x7, x8, x9, x10, x11, x12, x13, x14, x15, x16, x17, x18, x19, x20, x21, x22, x23, x24, x25, x26, x27, x28, x29, x30, x31, x32, x33, x34, rfl⟩ := len34 k
  exact ⟨y, x1, x2, x3, x4, x5, x6, x7, x8, x9, x10, x11, x12, x13, x14, x15, x16, x17, x18, x19, x20, x21, x22, x23, x24, x25, x26, x27, x28, x29, x30, x31, x32, x33, x34, rfl⟩
theorem len36 {xs : List Value} (h : xs.length = 36) : ∃ x0 x1 x2 x3 x4 x5 x6 x7 x8 x9 x10 x11 x12 x13 x14 x15 x16 x17 x18 x19 x20 x21 x22 x23 x24 x25 x26 x27 x28 x29 x30 x31 x32 x33 x34 x35, xs = [x0, x1, x2, x3, x4, x5, x6, x7, x8, x9, x10, x11, x12, x13, x14, x15, x16, x17, x18, x19, x20, x21, x22, x23, x24, x25, x26, x27, x28, x29, x30, x31, x32, x33, x34, x35] := by
  obtain ⟨y, t, rfl, k⟩ := cons_of_len h
  obtain ⟨x1, x2, x3, x4, x5, x6, x7, x8, x9, x10, x11, x12, x13, x14, x15, x16, x17, x18, x19, x20, x21, x22, x23, x24, x25, x26, x27, x28, x29, x30, x31, x32, x33, x34, x35, rfl⟩ := len35 k
  exact ⟨y, x1, x2, x3, x4, x5, x6, x7, x8, x9, x10, x11, x12, x13, x14, x15, x16, x17, x18, x19, x20, x21, x22, x23, x24, x25, x26, x27, x28, x29, x30, x31, x32, x33, x34, x35, rfl⟩
theorem len37 {xs : List Value} (h : xs.length = 37) : ∃ x0 x1 x2 x3 x4 x5 x6 x7 x8 x9 x10 x11 x12 x13 x14 x15 x16 x17 x18 x19 x20 x21 x22 x23 x24 x25 x26 x27 x28 x29 x30 x31 x32 x33 x34 x35 x36, xs = [x0, x1, x2, x3, x4, x5, x6, x7, x8, x9, x10, x11, x12, x13, x14, x15, x16, x17, x18, x19, x20, x21, x22, x23, x24, x25, x26, x27, x28, x29, x30, x31, x32, x33, x34, x35, x36] := by
  obtain ⟨y, t, rfl, k⟩ := cons_of_len h
  obtain ⟨x1, x2, x3, x4, x5, x6, x7, x8, x9, x10, x11, x12, x13, x14, x15, x16, x17, x18, x19, x20, x21, x22, x23, x24, x25, x26, x27, x28, x29, x30, x31, x32, x33, x34, x35, x36, rfl⟩ := len36 k
  exact ⟨y, x1, x2, x3, x4, x5, x6, x7, x8, x9, x10, x11, x12, x13, x14, x15, x16, x17, x18, x19, x20, x21, x22, x23, x24, x25, x26, x27, x28, x29, x30, x31, x32, x33, x34, x35, x36, rfl⟩
theorem len38 {xs : List Value} (h : xs.length = 38) : ∃ x0 x1 x2 x3 x4 x5 x6 x7 x8 x9 x10 x11 x12 x13 x14 x15 x16 x17 x18 x19 x20 x21 x22 x23 x24 x25 x26 x27 x28 x29 x30 x31 x32 x33 x34 x35 x36 x37, xs = [x0, x1, x2, x3, x4, x5, x6, x7, x8, x9, x10, x11, x12, x13, x14, x15, x16, x17, x18, x19, x20, x21, x22, x23, x24, x25, x26, x27, x28, x29, x30, x31, x32, x33, x34, x35, x36, x37] := by
  obtain ⟨y, t, rfl, k⟩ := cons_of_len h
  obtain ⟨x1, x2, x3, x4, x5, x6, x7, x8, x9, x10, x11, x12, x13, x14, x15, x16, x17, x18, x19, x20, x21, x22, x23, x24, x25, x26, x27, x28, x29, x30, x31, x32, x33, x34, x35, x36, x37, rfl⟩ := len37 k
  exact ⟨y, x1, x2, x3, x4, x5, x6, x7, x8, x9, x10, x11, x12, x13, x14, x15, x16, x17, x18, x19, x20, x21, x22, x23, x24, x25, x26, x27, x28, x29, x30, x31, x32, x33, x34, x35, x36, x37, rfl⟩
theorem len39 {xs : List Value} (h : xs.length = 39) : ∃ x0 x1 x2 x3 x4 x5 x6 x7 x8 x9 x10 x11 x12 x13 x14 x15 x16 x17 x18 x19 x20 x21 x22 x23 x24 x25 x26 x27 x28 x29 x30 x31 x32 x33 x34 x35 x36 x37 x38, xs = [x0, x1, x2, x3, x4, x5, x6, x7, x8, x9, x10, x11, x12, x13, x14, x15, x16, x17, x18, x19, x20, x21, x22, x23, x24, x25, x26, x27, x28, x29, x30, x31, x32, x33, x34, x35, x36, x37, x38] := by
  obtain ⟨y, t, rfl, k⟩ := cons_of_len h
  obtain ⟨x1, x2, x3, x4, x5, x6, x7, x8, x9, x10, x11, x12, x13, x14, x15, x16, x17, x18, x19, x20, x21, x22, x23, x24, x25, x26, x27, x28, x29, x30, x31, x32, x33, x34, x35, x36, x37, x38, rfl⟩ := len38 k
  exact ⟨y, x1, x2, x3, x4, x5, x6, x7, x8, x9, x10, x11, x12, x13, x14, x15, x16, x17, x18, x19, x20, x21, x22, x23, x24, x25, x26, x27, x28, x29, x30, x31, x32, x33, x34, x35, x36, x37, x38, rfl⟩
theorem len40 {xs : List Value} (h : xs.length = 40) : ∃ x0 x1 x2 x3 x4 x5 x6 x7 x8 x9 x10 x11 x12 x13 x14 x15 x16 x17 x18 x19 x20 x21 x22 x23 x24 x25 x26 x27 x28 x29 x30 x31 x32 x33 x34 x35 x36 x37 x38 x39, xs = [x0, x1, x2, x3, x4, x5, x6, x7, x8, x9, x10, x11, x12, x13, x14, x15, x16, x17, x18, x19, x20, x21, x22, x23, x24, x25, x26, x27, x28, x29, x30, x31, x32, x33, x34, x35, x36, x37, x38, x39] := by
  obtain ⟨y, t, rfl, k⟩ := cons_of_len h
  obtain ⟨x1, x2, x3, x4, x5, x6, x7, x8, x9, x10, x11, x12, x13, x14, x15, x16, x17, x18, x19, x20, x21, x22, x23, x24, x25, x26, x27, x28, x29, x30, x31, x32, x33, x34, x35, x36, x37, x38, x39, rfl⟩ := len39 k
  exact ⟨y, x1, x2, x3, x4, x5, x6, x7, x8, x9, x10, x11, x12, x13, x14, x15, x16, x17, x18, x19, x20, x21, x22, x23, x24, x25, x26, x27, x28, x29, x30, x31, x32, x33, x34, x35, x36, x37, x38, x39, rfl⟩

theorem all1 {p : List Value → Prop} (h : ∀ x0 : Value, p [x0]) : ∀ xs, xs.length = 1 → p xs := fun xs hl => by
  obtain ⟨x0, rfl⟩ := len1 hl
  exact h _
theorem all2 {p : List Value → Prop} (h : ∀ x0 x1 : Value, p [x0, x1]) : ∀ xs, xs.length = 2 → p xs := fun xs hl => by
  obtain ⟨x0, x1, rfl⟩ := len2 hl
  exact h _ _
theorem all3 {p : List Value → Prop} (h : ∀ x0 x1 x2 : Value, p [x0, x1, x2]) : ∀ xs, xs.length = 3 → p xs := fun xs hl => by
  obtain ⟨x0, x1, x2, rfl⟩ := len3 hl
  exact h _ _ _
theorem all4 {p : List Value → Prop} (h : ∀ x0 x1 x2 x3 : Value, p [x0, x1, x2, x3]) : ∀ xs, xs.length = 4 → p xs := fun xs hl => by
  obtain ⟨x0, x1, x2, x3, rfl⟩ := len4 hl
  exact h _ _ _ _
theorem all5 {p : List Value → Prop} (h : ∀ x0 x1 x2 x3 x4 : Value, p [x0, x1, x2, x3, x4]) : ∀ xs, xs.length = 5 → p xs := fun xs hl => by
  obtain ⟨x0, x1, x2, x3, x4, rfl⟩ := len5 hl
  exact h _ _ _ _ _
theorem all6 {p : List Value → Prop} (h : ∀ x0 x1 x2 x3 x4 x5 : Value, p [x0, x1, x2, x3, x4, x5]) : ∀ xs, xs.length = 6 → p xs := fun xs hl => by
  obtain ⟨x0, x1, x2, x3, x4, x5, rfl⟩ := len6 hl
  exact h _ _ _ _ _ _
theorem all7 {p : List Value → Prop} (h : ∀ x0 x1 x2 x3 x4 x5 x6 : Value, p [x0, x1, x2, x3, x4, x5, x6]) : ∀ xs, xs.length = 7 → p xs := fun xs hl => by
  obtain ⟨x0, x1, x2, x3, x4, x5, x6, rfl⟩ := len7 hl
  exact h _ _ _ _ _ _ _
theorem all8 {p : List Value → Prop} (h : ∀ x0 x1 x2 x3 x4 x5 x6 x7 : Value, p [x0, x1, x2, x3, x4, x5, x6, x7]) : ∀ xs, xs.length = 8 → p xs := fun xs hl => by
  obtain ⟨x0, x1, x2, x3, x4, x5, x6, x7, rfl⟩ := len8 hl
  exact h _ _ _ _ _ _ _ _
theorem all9 {p : List Value → Prop} (h : ∀ x0 x1 x2 x3 x4 x5 x6 x7 x8 : Value, p [x0, x1, x2, x3, x4, x5, x6, x7, x8]) : ∀ xs, xs.length = 9 → p xs := fun xs hl => by
  obtain ⟨x0, x1, x2, x3, x4, x5, x6, x7, x8, rfl⟩ := len9 hl
  exact h _ _ _ _ _ _ _ _ _
theorem all10 {p : List Value → Prop} (h : ∀ x0 x1 x2 x3 x4 x5 x6 x7 x8 x9 : Value, p [x0, x1, x2, x3, x4, x5, x6, x7, x8, x9]) : ∀ xs, xs.length = 10 → p xs := fun xs hl => by
  obtain ⟨x0, x1, x2, x3, x4, x5, x6, x7, x8, x9, rfl⟩ := len10 hl
  exact h _ _ _ _ _ _ _ _ _ _
theorem all11 {p : List Value → Prop} (h : ∀ x0 x1 x2 x3 x4 x5 x6 x7 x8 x9 x10 : Value, p [x0, x1, x2, x3, x4, x5, x6, x7, x8, x9, x10]) : ∀ xs, xs.length = 11 → p xs := fun xs hl => by
  obtain ⟨x0, x1, x2, x3, x4, x5, x6, x7, x8, x9, x10, rfl⟩ := len11 hl
  exact h _ _ _ _ _ _ _ _ _ _ _
theorem all12 {p : List Value → Prop} (h : ∀ x0 x1 x2 x3 x4 x5 x6 x7 x8 x9 x10 x11 : Value, p [x0, x1, x2, x3, x4, x5, x6, x7, x8, x9, x10, x11]) : ∀ xs, xs.length = 12 → p xs := fun xs hl => by
  obtain ⟨x0, x1, x2, x3, x4, x5, x6, x7, x8, x9, x10, x11, rfl⟩ := len12 hl
  exact h _ _ _ _ _ _ _ _ _ _ _ _
theorem all13 {p : List Value → Prop} (h : ∀ x0 x1 x2 x3 x4 x5 x6 x7 x8 x9 x10 x11 x12 : Value, p [x0, x1, x2, x3, x4, x5, x6, x7, x8, x9, x10, x11, x12]) : ∀ xs, xs.length = 13 → p xs := fun xs hl => by
  obtain ⟨x0, x1, x2, x3, x4, x5, x6, x7, x8, x9, x10, x11, x12, rfl⟩ := len13 hl
  exact h _ _ _ _ _ _ _ _ _ _ _ _ _
theorem all14 {p : List Value → Prop} (h : ∀ x0 x1 x2 x3 x4 x5 x6 x7 x8 x9 x10 x11 x12 x13 : Value, p [x0, x1, x2, x3, x4, x5, x6, x7, x8, x9, x10, x11, x12, x13]) : ∀ xs, xs.length = 14 → p xs := fun xs hl => by
  obtain ⟨x0, x1, x2, x3, x4, x5, x6, x7, x8, x9, x10, x11, x12, x13, rfl⟩ := len14 hl
  exact h _ _ _ _ _ _ _ _ _ _ _ _ _ _
theorem all15 {p : List Value → Prop} (h : ∀ x0 x1 x2 x3 x4 x5 x6 x7 x8 x9 x10 x11 x12 x13 x14 : Value, p [x0, x1, x2, x3, x4, x5, x6, x7, x8, x9, x10, x11, x12, x13, x14]) : ∀ xs, xs.length = 15 → p xs := fun xs hl => by
  obtain ⟨x0, x1, x2, x3, x4, x5, x6, x7, x8, x9, x10, x11, x12, x13, x14, rfl⟩ := len15 hl
  exact h _ _ _ _ _ _ _ _ _ _ _ _ _ _ _
theorem all16 {p : List Value → Prop} (h : ∀ x0 x1 x2 x3 x4 x5 x6 x7 x8 x9 x10 x11 x12 x13 x14 x15 : Value, p [x0, x1, x2, x3, x4, x5, x6, x7, x8, x9, x10, x11, x12, x13, x14, x15]) : ∀ xs, xs.length = 16 → p xs := fun xs hl => by
  obtain ⟨x0, x1, x2, x3, x4, x5, x6, x7, x8, x9, x10, x11, x12, x13, x14, x15, rfl⟩ := len16 hl
  exact h _ _ _ _ _ _ _ _ _ _ _ _ _ _ _ _
theorem all17 {p : List Value → Prop} (h : ∀ x0 x1 x2 x3 x4 x5 x6 x7 x8 x9 x10 x11 x12 x13 x14 x15 x16 : Value, p [x0, x1, x2, x3, x4, x5, x6, x7, x8, x9, x10, x11, x12, x13, x14, x15, x16]) : ∀ xs, xs.length = 17 → p xs := fun xs hl => by
  obtain ⟨x0, x1, x2, x3, x4, x5, x6, x7, x8, x9, x10, x11, x12, x13, x14, x15, x16, rfl⟩ := len17 hl
  exact h _ _ _ _ _ _ _ _ _ _ _ _ _ _ _ _ _
theorem all18 {p : List Value → Prop} (h : ∀ x0 x1 x2 x3 x4 x5 x6 x7 x8 x9 x10 x11 x12 x13 x14 x15 x16 x17 : Value, p [x0, x1, x2, x3, x4, x5, x6, x7, x8, x9, x10, x11, x12, x13, x14, x15, x16, x17]) : ∀ xs, xs.length = 18 → p xs := fun xs hl => by
  obtain ⟨x0, x1, x2, x3, x4, x5, x6, x7, x8, x9, x10, x11, x12, x13, x14, x15, x16, x17, rfl⟩ := len18 hl
  exact h _ _ _ _ _ _ _ _ _ _ _ _ _ _ _ _ _ _
theorem all19 {p : List Value → Prop} (h : ∀ x0 x1 x2 x3 x4 x5 x6 x7 x8 x9 x10 x11 x12 x13 x14 x15 x16 x17 x18 : Value, p [x0, x1, x2, x3, x4, x5, x6, x7, x8, x9, x10, x11, x12, x13, x14, x15, x16, x17, x18]) : ∀ xs, xs.length = 19 → p xs := fun xs hl => by
  obtain ⟨x0, x1, x2, x3, x4, x5, x6, x7, x8, x9, x10, x11, x12, x13, x14, x15, x16, x17, x18, rfl⟩ := len19 hl
  exact h _ _ _ _ _ _ _ _ _ _ _ _ _ _ _ _ _ _ _
theorem all20 {p : List Value → Prop} (h : ∀ x0 x1 x2 x3 x4 x5 x6 x7 x8 x9 x10 x11 x12 x13 x14 x15 x16 x17 x18 x19 : Value, p [x0, x1, x2, x3, x4, x5, x6, x7, x8, x9, x10, x11, x12, x13, x14, x15, x16, x17, x18, x19]) : ∀ xs, xs.length = 20 → p xs := fun xs hl => by
  obtain ⟨x0, x1, x2, x3, x4, x5, x6, x7, x8, x9, x10, x11, x12, x13, x14, x15, x16, x17, x18, x19, rfl⟩ := len20 hl
  exact h _ _ _ _ _ _ _ _ _ _ _ _ _ _ _ _ _ _ _ _
theorem all21 {p : List Value → Prop} (h : ∀ x0 x1 x2 x3 x4 x5 x6 x7 x8 x9 x10 x11 x12 x13 x14 x15 x16 x17 x18 x19 x20 : Value, p [x0, x1, x2, x3, x4, x5, x6, x7, x8, x9, x10, x11, x12, x13, x14, x15, x16, x17, x18, x19, x20]) : ∀ xs, xs.length = 21 → p xs := fun xs hl => by
  obtain ⟨x0, x1, x2, x3, x4, x5, x6, x7, x8, x9, x10, x11, x12, x13, x14, x15, x16, x17, x18, x19, x20, rfl⟩ := len21 hl
  exact h _ _ _ _ _ _ _ _ _ _ _ _ _ _ _ _ _ _ _ _ _
theorem all22 {p : List Value → Prop} (h : ∀ x0 x1 x2 x3 x4 x5 x6 x7 x8 x9 x10 x11 x12 x13 x14 x15 x16 x17 x18 x19 x20 x21 : Value, p [x0, x1, x2, x3, x4, x5, x6, x7, x8, x9, x10, x11, x12, x13, x14, x15, x16, x17, x18, x19, x20, x21]) : ∀ xs, xs.length = 22 → p xs := fun xs hl => by
  obtain ⟨x0, x1, x2, x3, x4, x5, x6, x7, x8, x9, x10, x11, x12, x13, x14, x15, x16, x17, x18, x19, x20, x21, rfl⟩ := len22 hl
  exact h _ _ _ _ _ _ _ _ _ _ _ _ _ _ _ _ _ _ _ _ _ _
theorem all23 {p : List Value → Prop} (h : ∀ x0 x1 x2 x3 x4 x5 x6 x7 x8 x9 x10 x11 x12 x13 x14 x15 x16 x17 x18 x19 x20 x21 x22 : Value, p [x0, x1, x2, x3, x4, x5, x6, x7, x8, x9, x10, x11, x12, x13, x14, x15, x16, x17, x18, x19, x20, x21, x22]) : ∀ xs, xs.length = 23 → p xs := fun xs hl => by
  obtain ⟨x0, x1, x2, x3, x4, x5, x6, x7, x8, x9, x10, x11, x12, x13, x14, x15, x16, x17, x18, x19, x20, x21, x22, rfl⟩ := len23 hl
  exact h _ _ _ _ _ _ _ _ _ _ _ _ _ _ _ _ _ _ _ _ _ _ _
theorem all24 {p : List Value → Prop} (h : ∀ x0 x1 x2 x3 x4 x5 x6 x7 x8 x9 x10 x11 x12 x13 x14 x15 x16 x17 x18 x19 x20 x21 x22 x23 : Value, p [x0, x1, x2, x3, x4, x5, x6, x7, x8, x9, x10, x11, x12, x13, x14, x15, x16, x17, x18, x19, x20, x21, x22, x23]) : ∀ xs, xs.length = 24 → p xs := fun xs hl => by
  obtain ⟨x0, x1, x2, x3, x4, x5, x6, x7, x8, x9, x10, x11, x12, x13, x14, x15, x16, x17, x18, x19, x20, x21, x22, x23, rfl⟩ := len24 hl
  exact h _ _ _ _ _ _ _ _ _ _ _ _ _ _ _ _ _ _ _ _ _ _ _ _
theorem all25 {p : List Value → Prop} (h : ∀ x0 x1 x2 x3 x4 x5 x6 x7 x8 x9 x10 x11 x12 x13 x14 x15 x16 x17 x18 x19 x20 x21 x22 x23 x24 : Value, p [x0, x1, x2, x3, x4, x5, x6, x7, x8, x9, x10, x11, x12, x13, x14, x15, x16, x17, x18, x19, x20, x21, x22, x23, x24]) : ∀ xs, xs.length = 25 → p xs := fun xs hl => by
  obtain ⟨x0, x1, x2, x3, x4, x5, x6, x7, x8, x9, x10, x11, x12, x13, x14, x15, x16, x17, x18, x19, x20, x21, x22, x23, x24, rfl⟩ := len25 hl
  exact h _ _ _ _ _ _ _ _ _ _ _ _ _ _ _ _ _ _ _ _ _ _ _ _ _
theorem all26 {p : List Value → Prop} (h : ∀ x0 x1 x2 x3 x4 x5 x6 x7 x8 x9 x10 x11 x12 x13 x14 x15 x16 x17 x18 x19 x20 x21 x22 x23 x24 x25 : Value, p [x0, x1, x2, x3, x4, x5, x6, x7, x8, x9, x10, x11, x12, x13, x14, x15, x16, x17, x18, x19, x20, x21, x22, x23, x24, x25]) : ∀ xs, xs.length = 26 → p xs := fun xs hl => by
  obtain ⟨x0, x1, x2, x3, x4, x5, x6, x7, x8, x9, x10, x11, x12, x13, x14, x15, x16, x17, x18, x19, x20, x21, x22, x23, x24, x25, rfl⟩ := len26 hl
  exact h _ _ _ _ _ _ _ _ _ _ _ _ _ _ _ _ _ _ _ _ _ _ _ _ _ _
theorem all27 {p : List Value → Prop} (h : ∀ x0 x1 x2 x3 x4 x5 x6 x7 x8 x9 x10 x11 x12 x13 x14 x15 x16 x17 x18 x19 x20 x21 x22 x23 x24 x25 x26 : Value, p [x0, x1, x2, x3, x4, x5, x6, x7, x8, x9, x10, x11, x12, x13, x14, x15, x16, x17, x18, x19, x20, x21, x22, x23, x24, x25, x26]) : ∀ xs, xs.length = 27 → p xs := fun xs hl => by
  obtain ⟨x0, x1, x2, x3, x4, x5, x6, x7, x8, x9, x10, x11, x12, x13, x14, x15, x16, x17, x18, x19, x20, x21, x22, x23, x24, x25, x26, rfl⟩ := len27 hl
  exact h _ _ _ _ _ _ _ _ _ _ _ _ _ _ _ _ _ _ _ _ _ _ _ _ _ _ _
theorem all28 {p : List Value → Prop} (h : ∀ x0 x1 x2 x3 x4 x5 x6 x7 x8 x9 x10 x11 x12 x13 x14 x15 x16 x17 x18 x19 x20 x21 x22 x23 x24 x25 x26 x27 : Value, p [x0, x1, x2, x3, x4, x5, x6, x7, x8, x9, x10, x11, x12, x13, x14, x15, x16, x17, x18, x19, x20, x21, x22, x23, x24, x25, x26, x27]) : ∀ xs, xs.length = 28 → p xs := fun xs hl => by
  obtain ⟨x0, x1, x2, x3, x4, x5, x6, x7, x8, x9, x10, x11, x12, x13, x14, x15, x16, x17, x18, x19, x20, x21, x22, x23, x24, x25, x26, x27, rfl⟩ := len28 hl
  exact h _ _ _ _ _ _ _ _ _ _ _ _ _ _ _ _ _ _ _ _ _ _ _ _ _ _ _ _
theorem all29 {p : List Value → Prop} (h : ∀ x0 x1 x2 x3 x4 x5 x6 x7 x8 x9 x10 x11 x12 x13 x14 x15 x16 x17 x18 x19 x20 x21 x22 x23 x24 x25 x26 x27 x28 : Value, p [x0, x1, x2, x3, x4, x5, x6, x7, x8, x9, x10, x11, x12, x13, x14, x15, x16, x17, x18, x19, x20, x21, x22, x23, x24, x25, x26, x27, x28]) : ∀ xs, xs.length = 29 → p xs := fun xs hl => by
  obtain ⟨x0, x1, x2, x3, x4, x5, x6, x7, x8, x9, x10, x11, x12, x13, x14, x15, x16, x17, x18, x19, x20, x21, x22, x23, x24, x25, x26, x27, x28, rfl⟩ := len29 hl
  exact h _ _ _ _ _ _ _ _ _ _ _ _ _ _ _ _ _ _ _ _ _ _ _ _ _ _ _ _ _
theorem all30 {p : List Value → Prop} (h : ∀ x0 x1 x2 x3 x4 x5 x6 x7 x8 x9 x10 x11 x12 x13 x14 x15 x16 x17 x18 x19 x20 x21 x22 x23 x24 x25 x26 x27 x28 x29 : Value, p [x0, x1, x2, x3, x4, x5, x6, x7, x8, x9, x10, x11, x12, x13, x14, x15, x16, x17, x18, x19, x20, x21, x22, x23, x24, x25, x26, x27, x28, x29]) : ∀ xs, xs.length = 30 → p xs := fun xs hl => by
  obtain ⟨x0, x1, x2, x3, x4, x5, x6, x7, x8, x9, x10, x11, x12, x13, x14, x15, x16, x17, x18, x19, x20, x21, x22, x23, x24, x25, x26, x27, x28, x29, rfl⟩ := len30 hl
  exact h _ _ _ _ _ _ _ _ _ _ _ _ _ _ _ _ _ _ _ _ _ _ _ _ _ _ _ _ _ _
theorem all31 {p : List Value → Prop} (h : ∀ x0 x1 x2 x3 x4 x5 x6 x7 x8 x9 x10 x11 x12 x13 x14 x15 x16 x17 x18 x19 x20 x21 x22 x23 x24 x25 x26 x27 x28 x29 x30 : Value, p [x0, x1, x2, x3, x4, x5, x6, x7, x8, x9, x10, x11, x12, x13, x14, x15, x16, x17, x18, x19, x20, x21, x22, x23, x24, x25, x26, x27, x28, x29, x30]) : ∀ xs, xs.length = 31 → p xs := fun xs hl => by
  obtain ⟨x0, x1, x2, x3, x4, x5, x6, x7, x8, x9, x10, x11, x12, x13, x14, x15, x16, x17, x18, x19, x20, x21, x22, x23, x24, x25, x26, x27, x28, x29, x30, rfl⟩ := len31 hl
  exact h _ _ _ _ _ _ _ _ _ _ _ _ _ _ _ _ _ _ _ _ _ _ _ _ _ _ _ _ _ _ _
theorem all32 {p : List Value → Prop} (h : ∀ x0 x1 x2 x3 x4 x5 x6 x7 x8 x9 x10 x11 x12 x13 x14 x15 x16 x17 x18 x19 x20 x21 x22 x23 x24 x25 x26 x27 x28 x29 x30 x31 : Value, p [x0, x1, x2, x3, x4, x5, x6, x7, x8, x9, x10, x11, x12, x13, x14, x15, x16, x17, x18, x19, x20, x21, x22, x23, x24, x25, x26, x27, x28, x29, x30, x31]) : ∀ xs, xs.length = 32 → p xs := fun xs hl => by
  obtain ⟨x0, x1, x2, x3, x4, x5, x6, x7, x8, x9, x10, x11, x12, x13, x14, x15, x16, x17, x18, x19, x20, x21, x22, x23, x24, x25, x26, x27, x28, x29, x30, x31, rfl⟩ := len32 hl
  exact h _ _ _ _ _ _ _ _ _ _ _ _ _ _ _ _ _ _ _ _ _ _ _ _ _ _ _ _ _ _ _ _
theorem all33 {p : List Value → Prop} (h : ∀ x0 x1 x2 x3 x4 x5 x6 x7 x8 x9 x10 x11 x12 x13 x14 x15 x16 x17 x18 x19 x20 x21 x22 x23 x24 x25 x26 x27 x28 x29 x30 x31 x32 : Value, p [x0, x1, x2, x3, x4, x5, x6, x7, x8, x9, x10, x11, x12, x13, x14, x15, x16, x17, x18, x19, x20, x21, x22, x23, x24, x25, x26, x27, x28, x29, x30, x31, x32]) : ∀ xs, xs.length = 33 → p xs := fun xs hl => by
  obtain ⟨x0, x1, x2, x3, x4, x5, x6, x7, x8, x9, x10, x11, x12, x13, x14, x15, x16, x17, x18, x19, x20, x21, x22, x23, x24, x25, x26, x27, x28, x29, x30, x31, x32, rfl⟩ := len33 hl
  exact h _ _ _ _ _ _ _ _ _ _ _ _ _ _ _ _ _ _ _ _ _ _ _ _ _ _ _ _ _ _ _ _ _
theorem all34 {p : List Value → Prop} (h : ∀ x0 x1 x2 x3 x4 x5 x6 x7 x8 x9 x10 x11 x12 x13 x14 x15 x16 x17 x18 x19 x20 x21 x22 x23 x24 x25 x26 x27 x28 x29 x30 x31 x32 x33 : Value, p [x0, x1, x2, x3, x4, x5, x6, x7, x8, x9, x10, x11, x12, x13, x14, x15, x16, x17, x18, x19, x20, x21, x22, x23, x24, x25, x26, x27, x28, x29, x30, x31, x32, x33]) : ∀ xs, xs.length = 34 → p xs := fun xs hl => by
  obtain ⟨x0, x1, x2, x3, x4, x5, x6, x7, x8, x9, x10, x11, x12, x13, x14, x15, x16, x17, x18, x19, x20, x21, x22, x23, x24, x25, x26, x27, x28, x29, x30, x31, x32, x33, rfl⟩ := len34 hl
  exact h _ _ _ _ _ _ _ _ _ _ _ _ _ _ _ _ _ _ _ _ _ _ _ _ _ _ _ _ _ _ _ _ _ _
theorem all35 {p : List Value → Prop} (h : ∀ x0 x1 x2 x3 x4 x5 x6 x7 x8 x9 x10 x11 x12 x13 x14 x15 x16 x17 x18 x19 x20 x21 x22 x23 x24 x25 x26 x27 x28 x29 x30 x31 x32 x33 x34 : Value, p [x0, x1, x2, x3, x4, x5, x6, x7, x8, x9, x10, x11, x12, x13, x14, x15, x16, x17, x18, x19, x20, x21, x22, x23, x24, x25, x26, x27, x28, x29, x30, x31, x32, x33, x34]) : ∀ xs, xs.length = 35 → p xs := fun xs hl => by
  obtain ⟨x0, x1, x2, x3, x4, x5, x6, x7, x8, x9, x10, x11, x12, x13, x14, x15, x16, x17, x18, x19, x20, x21, x22, x23, x24, x25, x26, x27, x28, x29, x30, x31, x32, x33, x34, rfl⟩ := len35 hl
  exact h _ _ _ _ _ _ _ _ _ _ _ _ _ _ _ _ _ _ _ _ _ _ _ _ _ _ _ _ _ _ _ _ _ _ _
theorem all36 {p : List Value → Prop} (h : ∀ x0 x1 x2 x3 x4 x5 x6 x7 x8 x9 x10 x11 x12 x13 x14 x15 x16 x17 x18 x19 x20 x21 x22 x23 x24 x25 x26 x27 x28 x29 x30 x31 x32 x33 x34 x35 : Value, p [x0, x1, x2, x3, x4, x5, x6, x7, x8, x9, x10, x11, x12, x13, x14, x15, x16, x17, x18, x19, x20, x21, x22, x23, x24, x25, x26, x27, x28, x29, x30, x31, x32, x33, x34, x35]) : ∀ xs, xs.length = 36 → p xs := fun xs hl => by
  obtain ⟨x0, x1, x2, x3, x4, x5, x6, x7, x8, x9, x10, x11, x12, x13, x14, x15, x16, x17, x18, x19, x20, x21, x22, x23, x24, x25, x26, x27, x28, x29, x30, x31, x32, x33, x34, x35, rfl⟩ := len36 hl
  exact h _ _ _ _ _ _ _ _ _ _ _ _ _ _ _ _ _ _ _ _ _ _ _ _ _ _ _ _ _ _ _ _ _ _ _ _
theorem all37 {p : List Value → Prop} (h : ∀ x0 x1 x2 x3 x4 x5 x6 x7 x8 x9 x10 x11 x12 x13 x14 x15 x16 x17 x18 x19 x20 x21 x22 x23 x24 x25 x26 x27 x28 x29 x30 x31 x32 x33 x34 x35 x36 : Value, p [x0, x1, x2, x3, x4, x5, x6, x7, x8, x9, x10, x11, x12, x13, x14, x15, x16, x17, x18, x19, x20, x21, x22, x23, x24, x25, x26, x27, x28, x29, x30, x31, x32, x33, x34, x35, x36]) : ∀ xs, xs.length = 37 → p xs := fun xs hl => by
  obtain ⟨x0, x1, x2, x3, x4, x5, x6, x7, x8, x9, x10, x11, x12, x13, x14, x15, x16, x17, x18, x19, x20, x21, x22, x23, x24, x25, x26, x27, x28, x29, x30, x31, x32, x33, x34, x35, x36, rfl⟩ := len37 hl
  exact h _ _ _ _ _ _ _ _ _ _ _ _ _ _ _ _ _ _ _ _ _ _ _ _ _ _ _ _ _ _ _ _ _ _ _ _ _
theorem all38 {p : List Value → Prop} (h : ∀ x0 x1 x2 x3 x4 x5 x6 x7 x8 x9 x10 x11 x12 x13 x14 x15 x16 x17 x18 x19 x20 x21 x22 x23 x24 x25 x26 x27 x28 x29 x30 x31 x32 x33 x34 x35 x36 x37 : Value, p [x0, x1, x2, x3, x4, x5, x6, x7, x8, x9, x10, x11, x12, x13, x14, x15, x16, x17, x18, x19, x20, x21, x22, x23, x24, x25, x26, x27, x28, x29, x30, x31, x32, x33, x34, x35, x36, x37]) : ∀ xs, xs.length = 38 → p xs := fun xs hl => by
  obtain ⟨x0, x1, x2, x3, x4, x5, x6, x7, x8, x9, x10, x11, x12, x13, x14, x15, x16, x17, x18, x19, x20, x21, x22, x23, x24, x25, x26, x27, x28, x29, x30, x31, x32, x33, x34, x35, x36, x37, rfl⟩ := len38 hl
  exact h _ _ _ _ _ _ _ _ _ _ _ _ _ _ _ _ _ _ _ _ _ _ _ _ _ _ _ _ _ _ _ _ _ _ _ _ _ _
theorem all39 {p : List Value → Prop} (h : ∀ x0 x1 x2 x3 x4 x5 x6 x7 x8 x9 x10 x11 x12 x13 x14 x15 x16 x17 x18 x19 x20 x21 x22 x23 x24 x25 x26 x27 x28 x29 x30 x31 x32 x33 x34 x35 x36 x37 x38 : Value, p [x0, x1, x2, x3, x4, x5, x6, x7, x8, x9, x10, x11, x12, x13, x14, x15, x16, x17, x18, x19, x20, x21, x22, x23, x24, x25, x26, x27, x28, x29, x30, x31, x32, x33, x34, x35, x36, x37, x38]) : ∀ xs, xs.length = 39 → p xs := fun xs hl => by
  obtain ⟨x0, x1, x2, x3, x4, x5, x6, x7, x8, x9, x10, x11, x12, x13, x14, x15, x16, x17, x18, x19, x20, x21, x22, x23, x24, x25, x26, x27, x28, x29, x30, x31, x32, x33, x34, x35, x36, x37, x38, rfl⟩ := len39 hl
  exact h _ _ _ _ _ _ _ _ _ _ _ _ _ _ _ _ _ _ _ _ _ _ _ _ _ _ _ _ _ _ _ _ _ _ _ _ _ _ _
theorem all40 {p : List Value → Prop} (h : ∀ x0 x1 x2 x3 x4 x5 x6 x7 x8 x9 x10 x11 x12 x13 x14 x15 x16 x17 x18 x19 x20 x21 x22 x23 x24 x25 x26 x27 x28 x29 x30 x31 x32 x33 x34 x35 x36 x37 x38 x39 : Value, p [x0, x1, x2, x3, x4, x5, x6, x7, x8, x9, x10, x11, x12, x13, x14, x15, x16, x17, x18, x19, x20, x21, x22, x23, x24, x25, x26, x27, x28, x29, x30, x31, x32, x33, x34, x35, x36, x37, x38, x39]) : ∀ xs, xs.length = 40 → p xs := fun xs hl => by
  obtain ⟨x0, x1, x2, x3, x4, x5, x6, x7, x8, x9, x10, x11, x12, x13, x14, x15, x16, x17, x18, x19, x20, x21, x22, x23, x24, x25, x26, x27, x28, x29, x30, x31, x32, x33, x34, x35, x36, x37, x38, x39, rfl⟩ := len40 hl
  exact h _ _ _ _ _ _ _ _ _ _ _ _ _ _ _ _ _ _ _ _ _ _ _ _ _ _ _ _ _ _ _ _ _ _ _ _ _ _ _ _

/-- A fact that no tactic looks into. -/
structure Kept (p : Prop) : Prop where
  out : p

/-- One operation, wherever it comes up. -/
def Step (P : Program) (ops : Array Oper) (ds : List (Option Tmp)) (Q : Exit → Act → World → Prop) (n : Nat) (sp : List Sp) (F : List Asn) (w0 : World) (a0 : Act) (i : Nat) : Prop :=
  ∀ xs, xs.length = n → ∀ w L, allVal sp xs (spOf sp i).on → Sep w ((spOf sp i).take.map (resOf sp xs) ++ (F ++ L)) → Stable w0 w → ∀ a, a = dagPut a0 ds xs →
    ∀ K : Act → World → Prop, Kept (∀ v w', (spOf sp i).val (getL xs (spOf sp i).on) v → Sep w' ((spOf sp i).res (getL xs (spOf sp i).on) v :: (F ++ L)) → Stable w0 w' → K (a.put (ds.getD i none) v) w') →
      wpOp P ops Q i K a w

theorem nodup_le : ∀ (n : Nat) (T : List Nat), T.Nodup → (∀ k ∈ T, k < n) → T.length ≤ n
  | 0, [], _, _ => Nat.le_refl _
  | 0, k :: _, _, h => absurd (h k (by simp)) (by omega)
  | n + 1, T, hn, h => by
    by_cases hm : n ∈ T
    · have := nodup_le n (T.erase n) (hn.erase n) (fun k hk => by
        have h1 := (hn.mem_erase_iff).1 hk
        have := h k h1.2
        omega)
      rw [List.length_erase_of_mem hm] at this
      omega
    · have := nodup_le n T hn (fun k hk => by
        have := h k hk
        have : k ≠ n := fun e => hm (e ▸ hk)
        omega)
      omega

def cur (a : Act) : Option Tmp → Value
  | some t => a.tmps.getD t undef
  | none => undef
theorem put_cur (a : Act) (d : Option Tmp) : a.put d (cur a d) = a := by
  cases d with
  | none => rfl
  | some t =>
    obtain ⟨tmps, defers⟩ := a
    simp only [Act.put, cur]
    congr 1
    apply Array.ext_getElem?
    intro i
    simp only [Array.getElem?_setIfInBounds]
    by_cases e : t = i
    · subst e
      by_cases h : t < tmps.size <;> simp [h]
    · simp [e]
theorem putAll_cur : ∀ (ds : List (Option Tmp)) (a : Act), dagPut a ds (ds.map (cur a)) = a
  | [], _ => rfl
  | d :: ds, a => by
    simp only [List.map_cons, dagPut]
    rw [put_cur]
    exact putAll_cur ds a

structure Inv (ops : Array Oper) (sp : List Sp) (F : List Asn) (w0 : World) (listed : Array Bool) (xs : List Value) (w : World) : Prop where
  len : xs.length = sp.length
  size : listed.size = sp.length
  val : ∀ i, listed.getD i false = true → valAt sp xs i
  closed : ∀ i, listed.getD i false = true → ∀ j ∈ (spOf sp i).on ++ (spOf sp i).take, listed.getD j false = true
  sep : Sep w (resAll sp listed xs ++ F)
  stable : Stable w0 w

theorem dagB_spec (h : dagB ops sp = true) : sp.length = ops.size ∧ distinctB (dagDsts ops) = true ∧ ∀ i, i < sp.length →
    (∀ j ∈ (spOf sp i).on ++ (spOf sp i).take, j < i ∧ ∃ o, ops[i]? = some o ∧ ∃ e ∈ o.after, e.on = j ∧ Region.binds .any e = true) ∧ (spOf sp i).take.Nodup ∧
    (∀ k, k < sp.length → k ≠ i → ∀ j ∈ (spOf sp i).take, j ∉ (spOf sp k).take) ∧ (∃ o, ops[i]? = some o ∧ ∀ e ∈ o.after, Region.binds .any e = true → e.on < i) := by
  simp only [dagB, Bool.and_eq_true, decide_eq_true_eq, List.all_eq_true, List.mem_range] at h
  obtain ⟨h1, h2, h3⟩ := h
  refine ⟨h1, h2, fun i hi => ?_⟩
  obtain ⟨a, b, c, d⟩ := h3 i hi
  have ho : ∃ o, ops[i]? = some o := ⟨ops[i]'(by omega), by simp [show i < ops.size by omega]⟩
  obtain ⟨o, ho⟩ := ho
  rw [ho] at a d
  refine ⟨fun j hj => ?_, b, fun k hk hki j hj hjk => ?_, o, ho, fun e he hb => ?_⟩
  · obtain ⟨x, y⟩ := a j hj
    simp only [Option.map_some, Option.getD_some, Array.any_eq_true'] at y
    obtain ⟨e, he, h5⟩ := y
    simp only [Bool.and_eq_true, beq_iff_eq] at h5
    exact ⟨x, o, ho, e, he, h5.1, h5.2⟩
  · have := c k hk
    simp only [Bool.or_eq_true, beq_iff_eq, hki, false_or, List.all_eq_true] at this
    have := this j hj
    simp [hjk] at this
  · simp only [Option.map_some, Option.getD_some, Array.all_eq_true_iff_forall_mem] at d
    have := d e he
    simpa [hb] using this

theorem getL_set {xs : List Value} {l : List Nat} {i : Nat} {v : Value} (h : i ∉ l) : getL (xs.set i v) l = getL xs l :=
  List.map_congr_left fun j hj => by
    have : i ≠ j := fun e => h (e ▸ hj)
    simp [List.getD_eq_getElem?_getD, this]
theorem getD_set_self {xs : List Value} {i : Nat} {v : Value} (h : i < xs.length) : (xs.set i v).getD i undef = v := by simp [List.getD_eq_getElem?_getD, h]
theorem getD_set_other {xs : List Value} {i j : Nat} {v : Value} (h : j ≠ i) : (xs.set i v).getD j undef = xs.getD j undef := by simp [List.getD_eq_getElem?_getD, Ne.symm h]
theorem lst_set {l : Array Bool} {i j : Nat} (hi : i < l.size) : (l.setIfInBounds i true).getD j false = (decide (j = i) || l.getD j false) := by
  by_cases e : j = i
  · subst e; simp [hi]
  · simp [Array.getD_eq_getD_getElem?, e, Ne.symm e]

theorem Inv.step {F : List Asn} {listed : Array Bool} {xs : List Value} {w : World} (hw : dagB ops sp = true) (inv : Inv ops sp F w0 listed xs w) {i : Nat} (hi : i < sp.length) (hun : listed.getD i false = false)
    (hdep : ∀ j ∈ (spOf sp i).on ++ (spOf sp i).take, listed.getD j false = true) :
    ∃ M : List Asn, Sep w ((spOf sp i).take.map (resOf sp xs) ++ (F ++ M)) ∧ ∀ v w', (spOf sp i).val (getL xs (spOf sp i).on) v → Sep w' ((spOf sp i).res (getL xs (spOf sp i).on) v :: (F ++ M)) → Stable w0 w' →
      Inv ops sp F w0 (listed.setIfInBounds i true) (xs.set i v) w' := by
  obtain ⟨_, _, hall⟩ := dagB_spec hw
  obtain ⟨hon, hnd, huniq, _⟩ := hall i hi
  have hnotself : i ∉ (spOf sp i).on ++ (spOf sp i).take := fun h => by have := (hon i h).1; omega
  have hitake : i ∉ (spOf sp i).take := fun h => hnotself (List.mem_append_right _ h)
  have hion : i ∉ (spOf sp i).on := fun h => hnotself (List.mem_append_left _ h)
  have hsz : i < listed.size := by rw [inv.size]; exact hi
  have taken_iff : ∀ l j, takenBy sp l j = true ↔ ∃ k, k < sp.length ∧ j ∈ (spOf sp k).take ∧ l.getD k false = true := fun l j => by
    simp only [takenBy, List.any_eq_true, List.mem_range, Bool.and_eq_true, List.contains_iff_mem]
  -- what a part is, before and behind the operation
  have notTakenI : takenBy sp (listed.setIfInBounds i true) i = false := by
    rw [Bool.eq_false_iff]
    intro h
    obtain ⟨k, hk, hm, hl⟩ := (taken_iff _ _).1 h
    rw [lst_set hsz] at hl
    by_cases e : k = i
    · subst e; exact hitake hm
    · simp only [e, decide_false, Bool.false_or] at hl
      have := inv.closed k hl i (List.mem_append_right _ hm)
      rw [hun] at this; cases this
  have atTake : ∀ j ∈ (spOf sp i).take, resAt sp listed xs j = resOf sp xs j := fun j hj => by
    have hl := hdep j (List.mem_append_right _ hj)
    have : takenBy sp listed j = false := by
      rw [Bool.eq_false_iff]
      intro h
      obtain ⟨k, hk, hm, hlk⟩ := (taken_iff _ _).1 h
      have hki : k ≠ i := fun e => by subst e; rw [hun] at hlk; cases hlk
      exact huniq k hk hki j hj hm
    unfold resAt
    rw [hl, this]; rfl
  have goneTake : ∀ (v : Value), ∀ j ∈ (spOf sp i).take, resAt sp (listed.setIfInBounds i true) (xs.set i v) j = emp := fun v j hj => by
    have : takenBy sp (listed.setIfInBounds i true) j = true := (taken_iff _ _).2 ⟨i, hi, hj, by rw [lst_set hsz]; simp⟩
    unfold resAt
    rw [this]; simp
  have otherSame : ∀ (v : Value), ∀ j, j ∉ (spOf sp i).take → j ≠ i → resAt sp (listed.setIfInBounds i true) (xs.set i v) j = resAt sp listed xs j := fun v j hj hji => by
    have e1 : (listed.setIfInBounds i true).getD j false = listed.getD j false := by rw [lst_set hsz]; simp [hji]
    have e2 : takenBy sp (listed.setIfInBounds i true) j = takenBy sp listed j := by
      rw [Bool.eq_iff_iff, taken_iff, taken_iff]
      constructor
      · rintro ⟨k, hk, hm, hl⟩
        rw [lst_set hsz] at hl
        by_cases e : k = i
        · subst e; exact absurd hm hj
        · exact ⟨k, hk, hm, by simpa [e] using hl⟩
      · rintro ⟨k, hk, hm, hl⟩
        exact ⟨k, hk, hm, by rw [lst_set hsz, hl]; simp⟩
    unfold resAt
    rw [e1, e2]
    cases hl : listed.getD j false with
    | false => rfl
    | true =>
      have : i ∉ (spOf sp j).on := fun hm => by
        have := inv.closed j hl i (List.mem_append_left _ hm)
        rw [hun] at this; cases this
      have e3 : resOf sp (xs.set i v) j = resOf sp xs j := by
        unfold resOf; rw [getL_set this, getD_set_other hji]
      rw [e3]
  have selfIs : ∀ (v : Value), resAt sp (listed.setIfInBounds i true) (xs.set i v) i = (spOf sp i).res (getL xs (spOf sp i).on) v := fun v => by
    unfold resAt
    rw [notTakenI, lst_set hsz]
    simp only [decide_true, Bool.true_or, Bool.not_false, Bool.and_self, if_true]
    unfold resOf
    rw [getL_set hion, getD_set_self (by rw [inv.len]; exact hi)]
  have atAll : ∀ l ys j, j < sp.length → atL (resAll sp l ys) j = resAt sp l ys j := fun l ys j hj => by
    simp [atL, resAll, List.getD_eq_getElem?_getD, hj]
  have outAll : ∀ l ys j, ¬ j < sp.length → atL (resAll sp l ys) j = emp := fun l ys j hj => by
    simp [atL, resAll, List.getD_eq_getElem?_getD, hj]
  have lenAll : ∀ l ys, (resAll sp l ys).length = sp.length := fun l ys => by simp [resAll]
  -- the list behind the operation, but for the operation's own part
  let N : List Asn := (resAll sp (listed.setIfInBounds i true) (xs.set i undef)).set i emp
  have sameN : ∀ v, (resAll sp (listed.setIfInBounds i true) (xs.set i v)).set i emp = N := fun v => by
    apply List.ext_getElem (by simp [N, lenAll])
    intro k h1 h2
    simp only [List.length_set, lenAll] at h1
    by_cases e : k = i
    · subst e; simp [N]
    · simp only [N]
      rw [List.getElem_set_ne (Ne.symm e), List.getElem_set_ne (Ne.symm e)]
      simp only [resAll, List.getElem_map, List.getElem_range]
      by_cases ht : k ∈ (spOf sp i).take
      · rw [goneTake v k ht, goneTake undef k ht]
      · rw [otherSame v k ht e, otherSame undef k ht e]
  refine ⟨N, ?_, fun v w' hv hS hst => ?_⟩
  · have h1 := star_out (spOf sp i).take (resAll sp listed xs) (resAll sp (listed.setIfInBounds i true) (xs.set i undef)) i F (hl w) hnd hitake (by rw [lenAll, lenAll])
      (fun j hj => by rw [lenAll]; have := (hon j (List.mem_append_right _ hj)).1; omega) (by rw [lenAll]; exact hi)
      (fun j hj => by rw [atAll _ _ j (by have := (hon j (List.mem_append_right _ hj)).1; omega)]; exact goneTake undef j hj)
      (fun j hj hji => by
        by_cases hlt : j < sp.length
        · rw [atAll _ _ j hlt, atAll _ _ j hlt]; exact otherSame undef j hj hji
        · rw [outAll _ _ j hlt, outAll _ _ j hlt])
      inv.sep
    have e : (spOf sp i).take.map (atL (resAll sp listed xs)) = (spOf sp i).take.map (resOf sp xs) :=
      List.map_congr_left fun j hj => by rw [atAll _ _ j (by have := (hon j (List.mem_append_right _ hj)).1; omega)]; exact atTake j hj
    rw [e] at h1
    exact star_perm (List.Perm.append_left _ List.perm_append_comm) _ h1
  · refine ⟨by simp [inv.len], by simp [inv.size], fun j hj => ?_, fun j hj k hk => ?_, ?_, hst⟩
    · rw [lst_set hsz] at hj
      by_cases e : j = i
      · subst e
        unfold valAt
        rw [getL_set hion, getD_set_self (by rw [inv.len]; exact hi)]
        exact hv
      · simp only [e, decide_false, Bool.false_or] at hj
        have : i ∉ (spOf sp j).on := fun hm => by
          have := inv.closed j hj i (List.mem_append_left _ hm)
          rw [hun] at this; cases this
        unfold valAt
        rw [getL_set this, getD_set_other e]
        exact inv.val j hj
    · rw [lst_set hsz] at hj ⊢
      by_cases e : j = i
      · subst e; rw [hdep k hk]; simp
      · simp only [e, decide_false, Bool.false_or] at hj
        rw [inv.closed j hj k hk]; simp
    · have h2 : Sep w' ((spOf sp i).res (getL xs (spOf sp i).on) v :: (N ++ F)) := star_perm (List.Perm.cons _ List.perm_append_comm) _ hS
      rw [← sameN v] at h2
      have h3 := star_insert (j := i) (by rw [lenAll]; exact hi) h2
      have e : (resAll sp (listed.setIfInBounds i true) (xs.set i v)).set i ((spOf sp i).res (getL xs (spOf sp i).on) v) = resAll sp (listed.setIfInBounds i true) (xs.set i v) := by
        rw [← selfIs v]
        have := List.set_getElem_self (as := resAll sp (listed.setIfInBounds i true) (xs.set i v)) (i := i) (by rw [lenAll]; exact hi)
        simpa [resAll] using this
      rw [e] at h3
      exact h3

/-- What is left at the end: the parts named in fins. -/
def finsB (sp : List Sp) (fins : List Nat) : Bool := decide fins.Nodup && fins.all fun j => decide (j < sp.length) && (List.range sp.length).all fun k => !(spOf sp k).take.contains j

theorem star_some : ∀ (T : List Nat) (M F : List Asn) (h : Hl), T.Nodup → (∀ j ∈ T, j < M.length) → star (M ++ F) h → star (T.map (atL M) ++ F) h
  | [], M, F, h, _, _, s => by
    obtain ⟨_, y, _, s2, _, _, l⟩ := star_app.1 s
    exact star_le s2 l
  | j :: T, M, F, h, hn, hT, s => by
    have hj := hT j (by simp)
    have hjT : j ∉ T := (List.nodup_cons.1 hn).1
    have e1 : atL M j = M[j] := by simp [atL, List.getD_eq_getElem?_getD, hj]
    simp only [List.map_cons, List.cons_append]
    rw [e1]
    refine star_tail (fun k sk => ?_) (star_extract hj s)
    have ih := star_some T (M.set j emp) F k (List.nodup_cons.1 hn).2 (fun x hx => by simpa using hT x (by simp [hx])) sk
    have em : T.map (atL (M.set j emp)) = T.map (atL M) := List.map_congr_left fun x hx => by
      have : j ≠ x := fun e => hjT (e ▸ hx)
      simp [atL, List.getD_eq_getElem?_getD, this]
    rw [em] at ih
    exact ih

theorem Inv.finish {F : List Asn} {listed : Array Bool} {xs : List Value} {w : World} {fins : List Nat} (hf : finsB sp fins = true) (inv : Inv ops sp F w0 listed xs w) (hall : ∀ i, i < sp.length → listed.getD i false = true) :
    Sep w (fins.map (resOf sp xs) ++ F) := by
  simp only [finsB, Bool.and_eq_true, decide_eq_true_eq, List.all_eq_true, List.mem_range] at hf
  obtain ⟨hn, hf⟩ := hf
  have h := star_some fins (resAll sp listed xs) F (hl w) hn (fun j hj => by simpa [resAll] using (hf j hj).1) inv.sep
  have e : fins.map (atL (resAll sp listed xs)) = fins.map (resOf sp xs) := List.map_congr_left fun j hj => by
    have hlt := (hf j hj).1
    have e1 : atL (resAll sp listed xs) j = resAt sp listed xs j := by simp [atL, resAll, List.getD_eq_getElem?_getD, hlt]
    have e2 : takenBy sp listed j = false := by
      rw [Bool.eq_false_iff]
      intro h
      simp only [takenBy, List.any_eq_true, List.mem_range, Bool.and_eq_true] at h
      obtain ⟨k, hk, hm, _⟩ := h
      have := (hf j hj).2 k hk
      rw [hm] at this; cases this
    rw [e1]
    unfold resAt
    rw [hall j hlt, e2]; rfl
  rw [e] at h
  exact h

theorem all_listed {listed : Array Bool} (hw : dagB ops sp = true) (hsz : listed.size = sp.length) (hr : Region.ready .any ops listed = []) : ∀ i, i < sp.length → listed.getD i false = true := by
  obtain ⟨_, _, hall⟩ := dagB_spec hw
  intro i
  induction i using Nat.strongRecOn with
  | ind i ih =>
    intro hi
    cases hl : listed.getD i false with
    | true => rfl
    | false =>
      exfalso
      obtain ⟨_, _, _, o, ho, he⟩ := hall i hi
      have : i ∈ Region.ready .any ops listed := mem_ready.2 ⟨by
        have : i < listed.size := by omega
        simp [Array.getD_eq_getD_getElem?, this] at hl ⊢; exact hl, o, ho, fun e hem hb => ih e.on (he e hem hb) (by have := he e hem hb; omega)⟩
      rw [hr] at this
      cases this

theorem wpAny_dag {F : List Asn} {a0 : Act} {fins : List Nat} (hw : dagB ops sp = true) (hf : finsB sp fins = true)
    (hstep : ∀ i, i < sp.length → Step P ops (dagDsts ops) Q sp.length sp F w0 a0 i)
    (hend : ∀ xs w', xs.length = sp.length → (∀ i, i < sp.length → valAt sp xs i) → Sep w' (fins.map (resOf sp xs) ++ F) → Stable w0 w' → Q .normal (dagPut a0 (dagDsts ops) xs) w') :
    ∀ (fuel : Nat) (listed : Array Bool) (xs : List Value) (w : World), Inv ops sp F w0 listed xs w → (∀ T : List Nat, T.Nodup → (∀ k ∈ T, k < sp.length ∧ listed.getD k false = false) → T.length ≤ fuel) →
      wpAny P .any ops Q fuel listed (dagPut a0 (dagDsts ops) xs) w := by
  obtain ⟨hlen, hdist, hall⟩ := dagB_spec hw
  have fin : ∀ (listed : Array Bool) (xs : List Value) (w : World), Inv ops sp F w0 listed xs w → Region.ready .any ops listed = [] → Q .normal (dagPut a0 (dagDsts ops) xs) w := fun listed xs w inv hr => by
    have hA := all_listed hw inv.size hr
    exact hend xs w inv.len (fun i hi => inv.val i (hA i hi)) (inv.finish hf hA) inv.stable
  intro fuel
  induction fuel with
  | zero =>
    intro listed xs w inv hT
    have hr : Region.ready .any ops listed = [] := by
      rw [List.eq_nil_iff_forall_not_mem]
      intro i hi
      obtain ⟨h1, o, ho, _⟩ := mem_ready.1 hi
      have hlt : i < sp.length := by have := (Array.getElem?_eq_some_iff.1 ho).1; omega
      have := hT [i] (by simp) (fun k hk => by
        obtain rfl : k = i := by simpa using hk
        refine ⟨hlt, ?_⟩
        have : k < listed.size := by rw [inv.size]; exact hlt
        simp [Array.getD_eq_getD_getElem?, this] at h1 ⊢; exact h1)
      simp at this
    exact ⟨hr, fin listed xs w inv hr⟩
  | succ fuel ih =>
    intro listed xs w inv hT
    refine ⟨fun hr => fin listed xs w inv hr, fun i hi => ?_⟩
    obtain ⟨h1, o, ho, hdeps⟩ := mem_ready.1 hi
    have hlt : i < sp.length := by have := (Array.getElem?_eq_some_iff.1 ho).1; omega
    have hsz : i < listed.size := by rw [inv.size]; exact hlt
    have hun : listed.getD i false = false := by simp [Array.getD_eq_getD_getElem?, hsz] at h1 ⊢; exact h1
    have hdep : ∀ j ∈ (spOf sp i).on ++ (spOf sp i).take, listed.getD j false = true := fun j hj => by
      obtain ⟨_, o', ho', e, he, he1, he2⟩ := (hall i hlt).1 j hj
      rw [ho] at ho'
      obtain rfl : o = o' := by simpa using ho'
      rw [← he1]
      exact hdeps e he he2
    obtain ⟨M, hS, hnext⟩ := inv.step hw hlt hun hdep
    refine hstep i hlt xs inv.len w M (allVal_of fun j hj => inv.val j (hdep j (List.mem_append_left _ hj))) hS inv.stable _ rfl _ ⟨fun v w' hv hS' hst' => ?_⟩
    have inv' := hnext v w' hv hS' hst'
    have := ih (listed.setIfInBounds i true) (xs.set i v) w' inv' (fun T hn hTk => by
      have hi' : i ∉ T := fun hm => by
        have := (hTk i hm).2
        rw [lst_set hsz] at this; simp at this
      have := hT (i :: T) (List.nodup_cons.2 ⟨hi', hn⟩) (fun k hk => by
        rcases List.mem_cons.1 hk with rfl | hk
        · exact ⟨hlt, hun⟩
        · have h := hTk k hk
          refine ⟨h.1, ?_⟩
          have h2 := h.2
          rw [lst_set hsz] at h2
          simpa using (Bool.or_eq_false_iff.1 h2).2)
      simp at this; omega)
    rw [putAll_set (dagDsts ops) xs a0 i v hdist (by simp [dagDsts]; omega) (by rw [inv.len]; exact hlt)] at this
    exact this

/-- A region that draws its order: one proof for each operation. -/
theorem wp_region_dag {id : Nat} {a0 : Act} {w : World} (n : Nat) (ds : List (Option Tmp)) (sp : List Sp) (F : List Asn) (fins : List Nat) (hn : sp.length = n) (hds : dagDsts ops = ds) (hm : P.follows .mixedOrders = true) (hw : dagB ops sp = true) (hf : finsB sp fins = true) (hS : Sep w F) (hst : Stable w0 w)
    (hstep : below (Step P ops ds Q n sp F w0 a0) n)
    (hend : ∀ xs, xs.length = n → ∀ w', below (valAt sp xs) n → Sep w' (fins.map (resOf sp xs) ++ F) → Stable w0 w' → ∀ a, a = dagPut a0 ds xs → Q .normal a w') :
    (Code.region id ops true).wp P Q a0 w := by
  subst hds
  subst hn
  have hstep := below_lt hstep
  have hend : ∀ xs w', xs.length = sp.length → (∀ i, i < sp.length → valAt sp xs i) → Sep w' (fins.map (resOf sp xs) ++ F) → Stable w0 w' → Q .normal (dagPut a0 (dagDsts ops) xs) w' := fun xs w' h1 h2 h3 h4 => hend xs h1 w' (lt_below h2) h3 h4 _ rfl
  refine wp_region_any hm ?_
  obtain ⟨hlen, _, _⟩ := dagB_spec hw
  have h := wpAny_dag (P := P) (Q := Q) (w0 := w0) hw hf hstep hend ops.size (Array.replicate ops.size false) ((dagDsts ops).map (cur a0)) { w with drawn := w.drawn + 1 } ?_ ?_
  · rw [putAll_cur] at h
    exact h
  · have nolist : ∀ i, (Array.replicate ops.size false).getD i false = false := fun i => by
      by_cases h : i < ops.size <;> simp [Array.getD_eq_getD_getElem?, h]
    refine ⟨by simp [dagDsts, hlen], by simp [hlen], fun i h => (by rw [nolist] at h; cases h), fun i h => (by rw [nolist] at h; cases h), ?_, hst.drew⟩
    have e : resAll sp (Array.replicate ops.size false) ((dagDsts ops).map (cur a0)) = List.replicate sp.length emp := by
      apply List.ext_getElem (by simp [resAll])
      intro k h1 h2
      simp only [resAll, List.getElem_map, List.getElem_range, List.getElem_replicate]
      unfold resAt
      rw [nolist]; rfl
    rw [e]
    have emps : ∀ n, star (List.replicate n emp ++ F) (hl w) := fun n => by
      induction n with
      | zero => exact hS
      | succ n ih => exact star_emp.2 ih
    exact emps _
  · intro T hn hT
    have := nodup_le sp.length T hn (fun k hk => (hT k hk).1)
    omega

theorem wpOp_of {i : Nat} {o : Oper} {K : Act → World → Prop} {a : Act} {w : World} (h : ops[i]? = some o) (k : if Region.wanted o (yielded ops a.tmps) = true then o.wp P a w K Q else K (a.put o.dst undef) w) : wpOp P ops Q i K a w := by
  unfold wpOp
  rw [h]
  dsimp only
  split
  · rename_i hw; rw [if_pos hw] at k; exact .inl k
  · rename_i hw; rw [if_neg hw] at k; exact k

def opAtL : List Oper → Nat → Option Oper
  | [], _ => none
  | o :: _, 0 => some o
  | _ :: l, n + 1 => opAtL l n
theorem opAtL_eq : ∀ (l : List Oper) (i : Nat), opAtL l i = l[i]?
  | [], _ => by simp [opAtL]
  | o :: l, 0 => by simp [opAtL]
  | o :: l, n + 1 => by simp [opAtL, opAtL_eq l n]
/-- An operation without a guard. -/
theorem wpOp_plain {i : Nat} {l : List Oper} {o : Oper} {K : Act → World → Prop} {a : Act} {w : World} (h : opAtL l i = some o) (hg : o.guard = none) (k : o.wp P a w K Q) : wpOp P l.toArray Q i K a w := by
  refine wpOp_of (o := o) (by rw [opAtL_eq] at h; simpa using h) ?_
  rw [if_pos (by simp [Region.wanted, hg])]
  exact k

/-- An operation whose guard says yes; no. -/
theorem wpOp_on {i : Nat} {l : List Oper} {o : Oper} {K : Act → World → Prop} {a : Act} {w : World} (h : opAtL l i = some o) (hw : Region.wanted o (yielded l.toArray a.tmps) = true) (k : o.wp P a w K Q) : wpOp P l.toArray Q i K a w := by
  refine wpOp_of (o := o) (by rw [opAtL_eq] at h; simpa using h) ?_
  rw [if_pos hw]
  exact k
theorem wpOp_off {i : Nat} {l : List Oper} {o : Oper} {K : Act → World → Prop} {a : Act} {w : World} (h : opAtL l i = some o) (hw : Region.wanted o (yielded l.toArray a.tmps) = false) (k : K (a.put o.dst undef) w) : wpOp P l.toArray Q i K a w := by
  refine wpOp_of (o := o) (by rw [opAtL_eq] at h; simpa using h) ?_
  rw [if_neg (by simp [hw])]
  exact k

/-- A value that is determined. -/
@[reducible] def Sp.det (on : List Nat) (v : Value) : Sp := ⟨on, [], fun _ x => x = v, fun _ _ => emp⟩
/-- A value of which nothing is said. -/
@[reducible] def Sp.any (on : List Nat) : Sp := ⟨on, [], fun _ _ => True, fun _ _ => emp⟩
/-- A new block. -/
@[reducible] def Sp.new (o : Obj) : Sp := ⟨[], [], fun _ x => ∃ b, x = .pointer (some ⟨b, 0, none⟩), fun _ x h => ∃ b, x = .pointer (some ⟨b, 0, none⟩) ∧ pts b o h⟩
/-- A store that makes the block of operation p hold o. -/
@[reducible] def Sp.store (p : Nat) (on : List Nat) (o : Obj) : Sp := ⟨p :: on, [p], fun _ _ => True, fun l _ h => ∃ b, l.getD 0 undef = .pointer (some ⟨b, 0, none⟩) ∧ pts b o h⟩
/-- A call (or a literal) that leaves a part of the heap that its value names. -/
@[reducible] def Sp.make (on : List Nat) (A : Value → Asn) : Sp := ⟨on, [], fun _ _ => True, fun _ x => A x⟩
theorem sepEmp {w : World} {L : List Asn} (h : Sep w L) : Sep w (emp :: L) := star_emp.2 h
theorem Sep.unEmp {w : World} {L : List Asn} (h : Sep w (emp :: L)) : Sep w L := star_emp.1 h
theorem Sep.box {w : World} {L : List Asn} {b : Nat} {o : Obj} (h : Sep w (pts b o :: L)) : Sep w ((fun h => ∃ b', Value.pointer (some ⟨b, 0, none⟩) = .pointer (some ⟨b', 0, none⟩) ∧ pts b' o h) :: L) := h.imp fun _ hk => ⟨b, rfl, hk⟩
theorem Sep.unbox {w : World} {L : List Asn} {x : Value} {o : Obj} (h : Sep w ((fun h => ∃ b, x = .pointer (some ⟨b, 0, none⟩) ∧ pts b o h) :: L)) : ∃ b, x = .pointer (some ⟨b, 0, none⟩) ∧ Sep w (pts b o :: L) := by
  obtain ⟨b, h⟩ := Sep.ex (F := fun b k => x = .pointer (some ⟨b, 0, none⟩) ∧ pts b o k) h
  obtain ⟨hx, h⟩ := h.pure
  exact ⟨b, hx, h⟩
theorem Sep.set2 {w : World} {L : List Asn} {b : Nat} {x y : Value} {t : TypeId} {f : Nat × Nat} (h : Sep w (pts b (.cells #[x, y] t f) :: L)) (x' y' : Value) :
    Sep ((w.setCell ⟨b, 0, none⟩ x').setCell ⟨b, 1, none⟩ y') (pts b (.cells #[x', y'] t f) :: L) := by
  have := (h.setCell 0 x').setCell 1 y'
  simpa only [List.setIfInBounds_toArray, List.set_cons_succ, List.set_cons_zero] using this
end

end Go.Sl
