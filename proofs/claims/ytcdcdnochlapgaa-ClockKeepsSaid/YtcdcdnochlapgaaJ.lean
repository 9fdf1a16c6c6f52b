/-
  Plain laws: the least time that is looked at never falls.
-/
import Derived.Test.YtcdcdnochlapgaaI
import Derived.Deep.SlicePairs
namespace Go.Proofs.Ytcdcdnochlapgaa
open Go.RowKit Go.Maps

/-- A list of acts in memory. -/
def Script (w : World) (r : Option Addr) (ops : List (Int × Int)) : Prop :=
  0 < ops.length → ∃ sb off, r = some ⟨sb, off, none⟩ ∧ ∀ i p, ops[i]? = some p → w.cell? ⟨sb, off + i * 2, none⟩ = some (.int .i64 p.1) ∧ w.cell? ⟨sb, off + i * 2 + 1, none⟩ = some (.int .i64 p.2)

theorem Script.below {w w' : World} {r : Option Addr} {ops : List (Int × Int)} (h : Script w r ops) (hb : Below w.heap.size w w') : Script w' r ops := fun hl => by
  obtain ⟨sb, off, e, hc⟩ := h hl
  refine ⟨sb, off, e, fun i p hp => ?_⟩
  obtain ⟨c1, c2⟩ := hc i p hp
  exact ⟨(hb.cell (World.block_lt_of_cell? w _ c1)).trans c1, (hb.cell (World.block_lt_of_cell? w _ c2)).trans c2⟩

/-- The least time that is looked at. -/
def LeastS (s : St) (t : Int) : Prop := t ≤ s.now ∧ (∀ id, alive s.ls id = true → t ≤ timeOf s.ts s.ls id) ∧ (t = s.now ∨ ∃ id, alive s.ls id = true ∧ t = timeOf s.ts s.ls id)

theorem Least.toS {D : Dt} {s : St} {t : Int} (h : Least D s.now t) (hr : Rel D s.ts s.ls) (hlen : s.ts.length = s.ls.length) : LeastS s t := by
  obtain ⟨h1, h2, h3⟩ := h
  have hat : ∀ id, alive s.ls id = true → D.atKey (id64 id) (u64d 0) = u64d (timeOf s.ts s.ls id) := fun id ha => by
    have hk := (List.getElem?_eq_some_iff.1 (alive_iff.1 ha).2).1
    have hx : s.ts[(id - 1).toNat]? = some (s.ts[(id - 1).toNat]'(by omega)) := List.getElem?_eq_getElem _
    rw [hr.at_ id _ ha hx]
    unfold timeOf
    rw [ha, if_pos rfl, hx]
    rfl
  refine ⟨h1, fun id ha => h2 id _ (by rw [hr.has, ha]) (hat id ha), ?_⟩
  rcases h3 with h3 | ⟨id, hid, ht⟩
  · exact .inl h3
  · rw [hr.has] at hid
    rw [hat id hid] at ht
    exact .inr ⟨id, hid, (u64d_inj ht).symm⟩

theorem LeastS.unique {s : St} {t u : Int} (h : LeastS s t) (k : LeastS s u) : t = u := by
  obtain ⟨a1, a2, a3⟩ := h
  obtain ⟨b1, b2, b3⟩ := k
  have : t ≤ u := by
    rcases b3 with b3 | ⟨id, hid, hu⟩
    · omega
    · have := a2 id hid; omega
  have : u ≤ t := by
    rcases a3 with a3 | ⟨id, hid, hu⟩
    · omega
    · have := b2 id hid; omega
  omega

theorem alive_time_le {s : St} {N : Nat} (h : s.Ok N) {id : Int} (ha : alive s.ls id = true) : timeOf s.ts s.ls id ≤ s.now := by
  have hk := (List.getElem?_eq_some_iff.1 (alive_iff.1 ha).2).1
  have hk2 : (id - 1).toNat < s.ts.length := by rw [h.len]; exact hk
  unfold timeOf
  rw [ha, if_pos rfl, List.getElem?_eq_getElem hk2]
  exact h.le _ (List.getElem_mem hk2)

/-- 'Oldest never falls; nor does the time.' -/
theorem LeastS.act {s : St} {N : Nat} {t u : Int} (hok : s.Ok N) (h : LeastS s t) (k id : Int) (hu : LeastS (s.act k id) u) : t ≤ u ∧ s.now ≤ (s.act k id).now := by
  obtain ⟨a1, a2, a3⟩ := h
  obtain ⟨b1, b2, b3⟩ := hu
  -- who lives then lived before at that time, or has the time that is
  have key : ∀ i, alive (s.act k id).ls i = true → (alive s.ls i = true ∧ timeOf (s.act k id).ts (s.act k id).ls i = timeOf s.ts s.ls i) ∨ timeOf (s.act k id).ts (s.act k id).ls i = s.now := by
    intro i hi
    unfold St.act at hi ⊢
    by_cases k1 : k = 1
    · rw [if_pos k1] at hi ⊢
      unfold St.tick at hi ⊢
      split at hi
      · rename_i e; rw [if_pos e]; exact .inl ⟨hi, rfl⟩
      · rename_i e; rw [if_neg e]; exact .inl ⟨hi, rfl⟩
    rw [if_neg k1] at hi ⊢
    by_cases k2 : k = 2
    · rw [if_pos k2] at hi ⊢
      unfold St.take at hi ⊢
      by_cases hf : free s.ls < s.ls.length
      · rw [if_pos hf] at hi ⊢
        have hf2 : free s.ls < s.ts.length := by rw [hok.len]; exact hf
        by_cases e : i = (free s.ls : Int) + 1
        · right
          unfold timeOf
          rw [hi, if_pos rfl, show (i - 1).toNat = free s.ls by omega, List.getElem?_set_self hf2]
          rfl
        · left
          have hi2 := hi
          rw [alive_set hf, if_neg e] at hi2
          refine ⟨hi2, ?_⟩
          unfold timeOf
          rw [hi, hi2, if_pos rfl, if_pos rfl]
          have := (alive_iff.1 hi2).1
          rw [List.getElem?_set_ne (by omega)]
      · rw [if_neg hf] at hi ⊢
        by_cases e : i = (s.ls.length : Int) + 1
        · right
          unfold timeOf
          rw [hi, if_pos rfl, show (i - 1).toNat = s.ts.length by rw [hok.len]; omega]
          simp
        · left
          have hi2 := hi
          rw [alive_snoc, if_neg e] at hi2
          refine ⟨hi2, ?_⟩
          unfold timeOf
          rw [hi, hi2, if_pos rfl, if_pos rfl]
          have := (List.getElem?_eq_some_iff.1 (alive_iff.1 hi2).2).1
          rw [List.getElem?_append_left (by rw [hok.len]; exact this)]
    rw [if_neg k2] at hi ⊢
    by_cases k3 : k = 3
    · rw [if_pos k3] at hi ⊢
      unfold St.drop at hi ⊢
      cases ha : alive s.ls id with
      | false => rw [ha] at hi; exact .inl ⟨hi, rfl⟩
      | true =>
        rw [ha] at hi
        simp only [if_true] at hi ⊢
        obtain ⟨h1, h2⟩ := alive_iff.1 ha
        have hk := (List.getElem?_eq_some_iff.1 h2).1
        have hi2 := hi
        rw [alive_set hk] at hi2
        split at hi2
        · cases hi2
        · refine .inl ⟨hi2, ?_⟩
          unfold timeOf
          rw [hi, hi2]
    rw [if_neg k3] at hi ⊢
    exact .inl ⟨hi, rfl⟩
  have hnow : s.now ≤ (s.act k id).now := by
    unfold St.act St.tick St.take St.drop
    repeat' split
    all_goals first | exact Int.le_refl _ | (show s.now ≤ s.now + 1; omega)
  refine ⟨?_, hnow⟩
  rcases b3 with b3 | ⟨i, hi, hu⟩
  · omega
  · rcases key i hi with ⟨h1, h2⟩ | h2
    · have := a2 i h1; omega
    · omega

end Go.Proofs.Ytcdcdnochlapgaa
