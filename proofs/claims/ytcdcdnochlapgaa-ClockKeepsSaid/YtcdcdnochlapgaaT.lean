/-
  The contracts of the clock methods at a state told by plain lists, the clock by itself.
-/
import Derived.Test.YtcdcdnochlapgaaO
namespace Go.Proofs.Ytcdcdnochlapgaa
open Go.RowKit Go.Maps Go.Sort Go.Shelf

/-- The clock, at a state. -/
def One (w : World) (c m N : Nat) (s : St) : Prop := s.Ok N ∧ ∃ n D, n ≤ N ∧ CS w c m s.now n D ∧ Rel D s.ts s.ls

theorem One.turn {S : Nat → Prop} {w w' : World} {c m N : Nat} {s : St} (h : One w c m N s) (ht : Turn S w w') (hc : ¬ S c) (hm : ¬ S m) : One w' c m N s := by
  obtain ⟨h1, n, D, h2, h3, h4⟩ := h
  exact ⟨h1, n, D, h2, h3.turn ht hc hm, h4⟩

theorem One.below {w w' : World} {c m N : Nat} {s : St} (h : One w c m N s) (hb : Below w.heap.size w w') : One w' c m N s := h.turn (S := fun _ => False) (Turn.of_below hb) (fun e => e) (fun e => e)

theorem One.start {w : World} {c m : Nat} {now : Int} (h : (Lit.int .u64 now).wf = true) (hc : CS w c m now 0 (.map [])) : One w c m 0 ⟨now, [], []⟩ := ⟨St.Ok.start h, 0, .map [], Nat.le_refl _, hc, Rel.start⟩

theorem one_now {c m N : Nat} {s : St} (w : World) (h : One w c m N s) : Calls Try.prog 10 #[.pointer (some ⟨c, 0, none⟩)] w fun e w' => e = .returned (.int .u64 s.now) ∧ w = w' := by
  obtain ⟨h1, n, D, h2, h3, h4⟩ := h
  exact now_any w h3

theorem one_oldest {c m N : Nat} {s : St} (w : World) (h : One w c m N s) :
    Calls Try.prog 11 #[.pointer (some ⟨c, 0, none⟩)] w fun e w' => ∃ t : Int, e = .returned (.int .u64 t) ∧ LeastS s t ∧ Below w.heap.size w w' := by
  obtain ⟨h1, n, D, h2, h3, h4⟩ := h
  exact (oldest_any w h3).mono fun e w' ⟨t, he, ht, hb⟩ => ⟨t, he, ht.toS h4 h1.len, hb⟩

theorem one_time {c m N : Nat} {s : St} (w : World) (h : One w c m N s) (id : Int) (hid : (id64 id).wf = true) :
    Calls Try.prog 15 #[.pointer (some ⟨c, 0, none⟩), .int .i64 id] w fun e w' => e = .returned (.tuple #[.int .u64 (timeOf s.ts s.ls id), .bool (alive s.ls id)]) ∧ w = w' := by
  obtain ⟨h1, n, D, h2, h3, h4⟩ := h
  exact time_rel w h3 h4 h1.len id hid

theorem take_now (s : St) : s.take.now = s.now := by unfold St.take; split <;> rfl

theorem one_take {c m N : Nat} {s : St} (w : World) (h : One w c m N s) (hN : N ≤ 100000) :
    Calls Try.prog 13 #[.pointer (some ⟨c, 0, none⟩)] w fun e w' => e = .returned (.int .i64 ((free s.ls : Int) + 1)) ∧ One w' c m (N + 1) s.take ∧ Turn (· = m) w w' := by
  obtain ⟨h1, n, D, h2, hc, h9⟩ := h
  have hfr := free_le s.ls
  have hfew := h1.few
  have hX := take_any w hc (WalkArith.wf_u64 ⟨h1.lo, h1.hi⟩) (by unfold maxLen; omega) (free s.ls + 1) (by omega) (by omega) (fun i i1 i2 => by
    rw [h9.has, alive_iff]
    exact ⟨by omega, by rw [show ((i : Int) - 1).toNat = i - 1 by omega]; exact free_before _ _ (by omega)⟩) (by
    rw [h9.has]
    cases ha : alive s.ls ((free s.ls + 1 : Nat) : Int) with
    | false => rfl
    | true =>
      have := (alive_iff.1 ha).2
      rw [show (((free s.ls + 1 : Nat) : Int) - 1).toNat = free s.ls by omega] at this
      by_cases hlt : free s.ls < s.ls.length
      · rw [free_at _ hlt] at this; cases this
      · rw [List.getElem?_eq_none (by omega)] at this; cases this)
  rw [show (((free s.ls + 1 : Nat)) : Int) = (free s.ls : Int) + 1 by omega] at hX
  refine hX.mono fun e w' ⟨he, hc', ht⟩ => ⟨he, ⟨h1.take, n + 1, _, by omega, by rw [take_now]; exact hc', h9.take hc.own.isMap h1.len⟩, ht⟩

theorem one_drop {c m N : Nat} {s : St} (w : World) (h : One w c m N s) (id : Int) (hid : (id64 id).wf = true) :
    Calls Try.prog 16 #[.pointer (some ⟨c, 0, none⟩), .int .i64 id] w fun e w' => e = .returned (.bool (alive s.ls id)) ∧ One w' c m N (s.drop id) ∧ Turn (· = m) w w' := by
  obtain ⟨h1, n, D, h2, hc, h9⟩ := h
  cases ha : alive s.ls id with
  | false =>
    have hst : s.drop id = s := by unfold St.drop; rw [ha]; rfl
    rw [hst]
    exact (drop_not w hc id hid (by rw [h9.has, ha])).mono fun e w' ⟨he, hw⟩ => ⟨he, by rw [← hw]; exact ⟨h1, n, D, h2, hc, h9⟩, by rw [← hw]; exact Turn.refl _ _⟩
  | true =>
    have hst : s.drop id = ⟨s.now, s.ts, s.ls.set (id - 1).toNat false⟩ := by unfold St.drop; rw [ha]; rfl
    have hr := h9.drop id ha
    have ho := h1.drop id
    refine (drop_yes w hc id hid (by rw [h9.has, ha])).mono fun e w' ⟨he, hc', ht⟩ => ⟨he, ⟨ho, n, _, h2, ?_, hr⟩, ht⟩
    rw [hst]
    exact hc'

theorem one_tick {c m N : Nat} {s : St} (w : World) (h : One w c m N s) (hn : s.now < 18446744073709551615) :
    Calls Try.prog 14 #[.pointer (some ⟨c, 0, none⟩)] w fun e w' => e = .returned (.tuple #[.int .u64 (s.now + 1), .int .i64 0]) ∧ One w' c m N s.tick ∧ Turn (· = c) w w' := by
  obtain ⟨h1, n, D, h2, hc, h9⟩ := h
  have hst : s.tick = ⟨s.now + 1, s.ts, s.ls⟩ := by unfold St.tick; rw [if_neg (by omega)]
  have ho := h1.tick
  refine (tick_goes w s.now h1.lo hn hc).mono fun e w' ⟨he, hc', ht⟩ => ⟨he, ⟨ho, n, D, h2, ?_, ?_⟩, ht⟩
  · rw [hst]; exact hc'
  · rw [hst]; exact h9

theorem one_live {c m N : Nat} {s : St} (w : World) (h : One w c m N s) (hN : N ≤ 100000) : Calls Try.prog 17 #[.pointer (some ⟨c, 0, none⟩)] w (Holds1 w.heap.size (liveS s.ls) w) := by
  obtain ⟨h1, n, D, h2, hc, h9⟩ := h
  refine (live_any w hc (by omega)).mono fun e w' ⟨v, ss, he, hp, hrow, hb⟩ => ?_
  have hk := keys_live hc.own h9 hp
  have hl : ss.length = (liveS s.ls).length := by rw [← hk, List.length_mergeSort]
  rw [hk, hl] at hrow
  exact ⟨v, he, hrow, hb⟩

theorem oldest_nil (w : World) : Calls Try.prog 11 #[.pointer none] w fun e w' => e = .returned (.int .u64 0) ∧ w = w' := by
  have hN := now_nil w
  go_enter Try.func11, Try.ntmps11
  go_wp2_with (go_at_call 10; refine hN.mono ?_; rintro e w' ⟨rfl, rfl⟩)
  go_ret
  exact ⟨rfl, rfl⟩

theorem live_nil (w : World) : Calls Try.prog 17 #[.pointer none] w fun e w' => e = .returned (.slice none 0 0) ∧ w = w' := by
  go_enter Try.func17, Try.ntmps17
  go_wp2
  go_ret
  exact ⟨rfl, rfl⟩

end Go.Proofs.Ytcdcdnochlapgaa
