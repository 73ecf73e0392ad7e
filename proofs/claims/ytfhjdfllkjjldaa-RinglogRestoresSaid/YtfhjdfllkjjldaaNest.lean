/- Rows that lie in a pool; further contracts of the ring's state. -/
import Derived.Test.YtfhjdfllkjjldaaActs
import Derived.Test.YtfhjdfllkjjldaaSame
namespace Go.Proofs.Ytfhjdfllkjjldaa
open Go.RowKit Go.Sl

variable {w : World} {L : List Asn} {p mp : Value} {keep t0 : Int} {cs : List Int} {sn : List (List Int)} {B : Nat}

/-- Rows that nobody writes any more. -/
def pool : List (Value × List Int) → Asn
  | [] => emp
  | x :: r => star [rowI x.1 x.2, pool r]
theorem pool_add {v : Value} {l : List Int} {ps : List (Value × List Int)} (h : Sep w (rowI v l :: pool ps :: L)) : Sep w (pool ((v, l) :: ps) :: L) := Sep.unflat [rowI v l, pool ps] h
theorem pool_start (h : Sep w L) : Sep w (pool [] :: L) := sepEmp h
theorem pool_get {x : Value × List Int} : ∀ {ps : List (Value × List Int)} {L : List Asn}, x ∈ ps → Sep w (pool ps :: L) → readsI w x.1 x.2
  | [], _, hx, _ => by simp at hx
  | y :: r, L, hx, h => by
    have h2 : Sep w (rowI y.1 y.2 :: pool r :: L) := Sep.flat (M := [rowI y.1 y.2, pool r]) h
    rcases List.mem_cons.1 hx with rfl | hx
    · exact h2.reads
    · exact pool_get hx h2.drop

theorem infoN : (Try.prog.info? 36).map (fun i => (i.zero, i.size, i.bytes)) = some (some (.slice none 0 0), 1, 24) := by kernel_rfl

theorem CellsRS (h : RSt w L p mp keep t0 cs sn B) :
    Calls Try.prog 20 #[mp] w fun e w' => ∃ v, e = .returned v ∧ RSt w' (rowI v cs :: L) p mp keep t0 cs sn B ∧ Stable w w' := by
  obtain ⟨base, log, es, hS, hi, hs, hk, hb⟩ := h
  refine (Cells_spec (hS.pick 1) hs).mono ?_
  rintro e w' ⟨v, rfl, hS', hst⟩
  exact ⟨v, rfl, ⟨base, log, es, (hS'.pick 2).perm (.cons _ (.swap _ _ _)), hi, hs, hk, hb⟩, hst⟩

theorem RSt.swap {A C : Asn} (h : RSt w (A :: C :: L) p mp keep t0 cs sn B) : RSt w (C :: A :: L) p mp keep t0 cs sn B := by
  obtain ⟨base, log, es, hS, h⟩ := h
  exact ⟨base, log, es, hS.perm (.cons _ (.cons _ (.swap _ _ _))), h⟩
theorem RSt.perm {L' : List Asn} (hp : L.Perm L') (h : RSt w L p mp keep t0 cs sn B) : RSt w L' p mp keep t0 cs sn B := by
  obtain ⟨base, log, es, hS, h⟩ := h
  exact ⟨base, log, es, hS.perm (.cons _ (.cons _ hp)), h⟩
/-- A change beside the ring and its memory. -/
theorem RSt.beside {w' : World} {L' : List Asn} (h : RSt w L p mp keep t0 cs sn B) (f : ∀ A C, Sep w (A :: C :: L) → Sep w' (A :: C :: L')) : RSt w' L' p mp keep t0 cs sn B := by
  obtain ⟨base, log, es, hS, h⟩ := h
  exact ⟨base, log, es, f _ _ hS, h⟩
theorem RSt.drop1 {A : Asn} (h : RSt w (A :: L) p mp keep t0 cs sn B) : RSt w L p mp keep t0 cs sn B := by
  obtain ⟨base, log, es, hS, h⟩ := h
  exact ⟨base, log, es, (hS.pick 2).drop, h⟩

theorem findT_miss {es : Es} {tick : Int} (h : ∀ i, i < es.length → ((es.getD i (0, 0)).1 == tick) = false) : findT es tick = -1 := findT_none h

theorem RangeRS (h : RSt w L p mp keep t0 cs sn B) (hk2 : keep ≤ 1000) (hl : 0 < sn.length) (tick : Int) (ht : t0 + sn.length ≤ tick) :
    Calls Try.prog 16 #[p, i64 tick] w fun e w' => e = .returned (i64 6) ∧ RSt w' L p mp keep t0 cs sn B ∧ Stable w w' := by
  obtain ⟨base, log, es, hS, hi, hs, hk, hb⟩ := h
  have hlen := hi.len
  refine (Rew_range hS hs (by omega) tick (by omega) (by rw [hi.oldest (by omega)]; omega) (findT_miss fun i hi' => by have := hi.tick i hi'; unfold eT at this; rw [this, beq_eq_false_iff_ne]; omega)).mono ?_
  rintro e w' ⟨rfl, hS', hst⟩
  exact ⟨rfl, ⟨base, log, es, hS', hi, hs, hk, hb⟩, hst⟩

end Go.Proofs.Ytfhjdfllkjjldaa
