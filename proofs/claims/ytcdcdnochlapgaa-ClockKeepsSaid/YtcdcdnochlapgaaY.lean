/-
  The law ClockKeeps: its states and contracts; what acts keep.
-/
import Derived.Test.YtcdcdnochlapgaaP
import Derived.Test.YtcdcdnochlapgaaT
namespace Go.Proofs.Ytcdcdnochlapgaa
open Go.RowKit Go.Maps Go.Sort Go.Shelf

theorem Two.one {w : World} {base c m b N : Nat} {s : St} (h : Two w base c m b N s) : One w c m N s := by
  obtain ⟨h1, h2, h3, h4, h5, n, D, tv, lv, h6, hc, hw, h9⟩ := h
  exact ⟨h1, n, D, h6, hc, h9⟩

/-- The clock has taken, the reference's not yet. -/
def Half (w : World) (base c m b N : Nat) (s s1 : St) : Prop :=
  One w c m (N + 1) s1 ∧ s.Ok N ∧ base ≤ w.heap.size ∧ base ≤ c ∧ base ≤ m ∧ base ≤ b ∧ ∃ tv lv, WS w base b s.now tv lv s.ts s.ls

theorem row_ne_map {w : World} {c m : Nat} {now : Int} {n : Nat} {D : Dt} {base l : Nat} {e : TypeId} {v : Value} {xs : List Value} (hc : CS w c m now n D) (h : w.ownsRow base e 1 v l xs) : ∀ k, v.ownBlock = some k → k ≠ m := by
  intro k hk e
  subst e
  rcases h.2 with ⟨rfl, _⟩ | ⟨g, cap, cur, rfl, _, hg, _⟩
  · simp [Value.ownBlock] at hk
  · simp only [Value.ownBlock, Option.some.injEq] at hk
    subst hk
    obtain ⟨es, clock, hb, _⟩ := hc.own
    rw [hg] at hb
    cases hb

theorem take_c {base c m b N : Nat} {s : St} (w : World) (h : Two w base c m b N s) (hN : N ≤ 100000) {base' l : Nat} {v : Value} {xs : List Value} (hr : w.ownsRow base' 3 1 v l xs) :
    Calls Try.prog 13 #[.pointer (some ⟨c, 0, none⟩)] w fun e w' => e = .returned (.int .i64 ((free s.ls : Int) + 1)) ∧ Half w' base c m b N s s.take ∧ w'.ownsRow base' 3 1 v l xs ∧ Below base w w' := by
  have hO := one_take w h.one hN
  obtain ⟨h1, h2, h3, h4, h5, n, D, tv, lv, h6, hc, hw, h9⟩ := h
  obtain ⟨q1, q2, q3, q4⟩ := sep hc hw
  refine hO.mono fun e w' ⟨he, ho, ht⟩ => ⟨he, ⟨ho, h1, Nat.le_trans h2 ht.size, h3, h4, h5, tv, lv, hw.turn ht q2 (fun k hk e => (q3 k hk).2 e) (fun k hk e => (q4 k hk).2 e)⟩, row_turn hr ht (fun k hk e => row_ne_map hc hr k hk e), ht.below (fun k hk e => by omega) h2⟩

theorem now_half {base c m b N : Nat} {s : St} (w : World) (h : Half w base c m b N s s.take) : Calls Try.prog 10 #[.pointer (some ⟨c, 0, none⟩)] w fun e w' => e = .returned (.int .u64 s.now) ∧ w = w' := by
  have := one_now w h.1
  rwa [take_now] at this

theorem wtake_half {base c m b N : Nat} {s : St} (w : World) (h : Half w base c m b N s s.take) (hN : N ≤ 100000) {base' l : Nat} {v : Value} {xs : List Value} (hr : w.ownsRow base' 3 1 v l xs) :
    Calls Try.prog 21 #[.pointer (some ⟨b, 0, none⟩)] w fun e w' => e = .returned (.int .i64 ((free s.ls : Int) + 1)) ∧ Two w' base c m b (N + 1) s.take ∧ w'.ownsRow base' 3 1 v l xs ∧ Below base w w' := by
  obtain ⟨⟨o1, n, D, o2, hc, o4⟩, hok, h2, h3, h4, h5, tv, lv, hw⟩ := h
  obtain ⟨q1, q2, q3, q4⟩ := sep hc hw
  have hfew := hok.few
  have r1 := row_ne hr hw.cell (by decide)
  have r2 := rows_ne hr hw.ht (by decide)
  have r3 := rows_ne hr hw.hl (by decide)
  by_cases hf : free s.ls < s.ls.length
  · have hst : s.take = ⟨s.now, s.ts.set (free s.ls) s.now, s.ls.set (free s.ls) true⟩ := by unfold St.take; rw [if_pos hf]
    refine (wtake_old w hw hf (by omega)).mono fun e w' ⟨he, hw', ht⟩ => ⟨he, ⟨o1, Nat.le_trans h2 ht.size, h3, h4, h5, n, D, tv, lv, o2, hc.turn ht ?_ ?_, by rw [hst]; exact hw', o4⟩, row_turn hr ht ?_, ht.below ?_ h2⟩
    · exact fun e => e.elim (fun e => (q3 _ e).1 rfl) (fun e => (q4 _ e).1 rfl)
    · exact fun e => e.elim (fun e => (q3 _ e).2 rfl) (fun e => (q4 _ e).2 rfl)
    · exact fun k hk e => e.elim (r2 k hk) (r3 k hk)
    · exact fun k hk e => e.elim (fun e => by have := (hw.ht.lt k e).1; omega) (fun e => by have := (hw.hl.lt k e).1; omega)
  · have hff := free_full hf
    have hst : s.take = ⟨s.now, s.ts ++ [s.now], s.ls ++ [true]⟩ := by unfold St.take; rw [if_neg hf]
    rw [hff]
    refine (wtake_new w hw h2 hff (by omega)).mono fun e w' ⟨he, tv', lv', hw', ht⟩ => ⟨he, ⟨o1, Nat.le_trans h2 ht.size, h3, h4, h5, n, D, tv', lv', o2, hc.turn ht ?_ ?_, by rw [hst]; exact hw', o4⟩, row_turn hr ht ?_, ht.below ?_ h2⟩
    · exact fun e => e.elim (fun e => q1 e.symm) (fun e => e.elim (fun e => (q3 _ e).1 rfl) (fun e => (q4 _ e).1 rfl))
    · exact fun e => e.elim (fun e => q2 e.symm) (fun e => e.elim (fun e => (q3 _ e).2 rfl) (fun e => (q4 _ e).2 rfl))
    · exact fun k hk e => e.elim (r1 k hk) (fun e => e.elim (r2 k hk) (r3 k hk))
    · exact fun k hk e => e.elim (fun e => by omega) (fun e => e.elim (fun e => by have := (hw.ht.lt k e).1; omega) (fun e => by have := (hw.hl.lt k e).1; omega))

theorem free_dead (ls : List Bool) : alive ls ((free ls : Int) + 1) = false := by
  cases ha : alive ls ((free ls : Int) + 1) with
  | false => rfl
  | true =>
    have := (alive_iff.1 ha).2
    rw [show ((free ls : Int) + 1 - 1).toNat = free ls by omega] at this
    by_cases hlt : free ls < ls.length
    · rw [free_at _ hlt] at this; cases this
    · rw [List.getElem?_eq_none (by omega)] at this; cases this

theorem take_alive {s : St} (hlen : s.ts.length = s.ls.length) : alive s.take.ls ((free s.ls : Int) + 1) = true ∧ timeOf s.take.ts s.take.ls ((free s.ls : Int) + 1) = s.now := by
  unfold St.take
  by_cases hf : free s.ls < s.ls.length
  · rw [if_pos hf]
    have h1 : alive (s.ls.set (free s.ls) true) ((free s.ls : Int) + 1) = true := by rw [alive_set hf, if_pos rfl]
    refine ⟨h1, ?_⟩
    unfold timeOf
    simp only
    rw [h1, if_pos rfl, show ((free s.ls : Int) + 1 - 1).toNat = free s.ls by omega, List.getElem?_set_self (by omega)]
    rfl
  · rw [if_neg hf]
    have hff := free_full hf
    have h1 : alive (s.ls ++ [true]) ((free s.ls : Int) + 1) = true := by rw [alive_snoc, hff, if_pos rfl]
    refine ⟨h1, ?_⟩
    unfold timeOf
    simp only
    rw [h1, if_pos rfl, show ((free s.ls : Int) + 1 - 1).toNat = s.ts.length by omega]
    simp

theorem act_keeps {s : St} (hlen : s.ts.length = s.ls.length) {id : Int} (ha : alive s.ls id = true) (k i : Int) (hno : ¬ (k = 3 ∧ i = id)) :
    alive (s.act k i).ls id = true ∧ timeOf (s.act k i).ts (s.act k i).ls id = timeOf s.ts s.ls id := by
  have hk := (List.getElem?_eq_some_iff.1 (alive_iff.1 ha).2).1
  have h1 := (alive_iff.1 ha).1
  unfold St.act
  by_cases k1 : k = 1
  · rw [if_pos k1]
    unfold St.tick
    split <;> exact ⟨ha, rfl⟩
  rw [if_neg k1]
  by_cases k2 : k = 2
  · rw [if_pos k2]
    unfold St.take
    by_cases hf : free s.ls < s.ls.length
    · rw [if_pos hf]
      have hne : id ≠ (free s.ls : Int) + 1 := fun e => by
        have := free_dead s.ls
        rw [← e, ha] at this
        cases this
      have h2 : alive (s.ls.set (free s.ls) true) id = true := by rw [alive_set hf, if_neg hne, ha]
      refine ⟨h2, ?_⟩
      unfold timeOf
      simp only
      rw [h2, ha, if_pos rfl, if_pos rfl, List.getElem?_set_ne (by omega)]
    · rw [if_neg hf]
      have h2 : alive (s.ls ++ [true]) id = true := by rw [alive_snoc, if_neg (by omega), ha]
      refine ⟨h2, ?_⟩
      unfold timeOf
      simp only
      rw [h2, ha, if_pos rfl, if_pos rfl, List.getElem?_append_left (by omega)]
  rw [if_neg k2]
  by_cases k3 : k = 3
  · rw [if_pos k3]
    have hne : i ≠ id := fun e => hno ⟨k3, e⟩
    unfold St.drop
    cases hi : alive s.ls i with
    | false => exact ⟨ha, rfl⟩
    | true =>
      have hk2 := (List.getElem?_eq_some_iff.1 (alive_iff.1 hi).2).1
      have hi1 := (alive_iff.1 hi).1
      have h2 : alive (s.ls.set (i - 1).toNat false) id = true := by rw [alive_set hk2, if_neg (by omega), ha]
      refine ⟨h2, ?_⟩
      simp only [if_true]
      unfold timeOf
      rw [h2, ha]
  rw [if_neg k3]
  exact ⟨ha, rfl⟩

theorem drop_dead {s : St} {id : Int} (ha : alive s.ls id = true) : alive (s.drop id).ls id = false := by
  have hk := (List.getElem?_eq_some_iff.1 (alive_iff.1 ha).2).1
  have h1 := (alive_iff.1 ha).1
  unfold St.drop
  rw [ha, if_pos rfl]
  show alive (s.ls.set (id - 1).toNat false) id = false
  rw [alive_set hk, if_pos (by omega)]

end Go.Proofs.Ytcdcdnochlapgaa
