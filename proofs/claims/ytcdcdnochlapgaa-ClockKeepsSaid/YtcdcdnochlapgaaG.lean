/-
  The contract of act at the kinds 1 and 2: both clocks answer alike and go to the same state.
-/
import Derived.Test.YtcdcdnochlapgaaF
namespace Go.Proofs.Ytcdcdnochlapgaa
open Go.RowKit Go.Maps

theorem sep {w : World} {base c m b : Nat} {now now' : Int} {n : Nat} {D : Dt} {tv lv : Value} {ts : List Int} {ls : List Bool} (hc : CS w c m now n D) (hw : WS w base b now' tv lv ts ls) :
    b ≠ c ∧ b ≠ m ∧ (∀ k, tv.ownBlock = some k → k ≠ c ∧ k ≠ m) ∧ (∀ k, lv.ownBlock = some k → k ≠ c ∧ k ≠ m) := by
  have hm : ∀ {cs : Array Value} {t : TypeId} {fr : Nat × Nat} {k : Nat}, w.heap[k]? = some (.cells cs t fr) → k ≠ m := by
    rintro cs t fr k hk rfl
    obtain ⟨es, clock, hb, _⟩ := hc.own
    rw [hk] at hb
    cases hb
  have hr : ∀ {e : TypeId} {v : Value} {l : Nat} {xs : List Value}, w.ownsRow base e 1 v l xs → ∀ k, v.ownBlock = some k → k ≠ m := by
    intro e v l xs h k hk
    rcases h.2 with ⟨rfl, _⟩ | ⟨g, cap, cur, rfl, _, hg, _⟩
    · simp [Value.ownBlock] at hk
    · simp only [Value.ownBlock, Option.some.injEq] at hk
      subst hk
      exact hm hg
  refine ⟨?_, hm hw.cell, fun k hk => ⟨row_ne hw.ht hc.cell (by decide) k hk, hr hw.ht k hk⟩, fun k hk => ⟨row_ne hw.hl hc.cell (by decide) k hk, hr hw.hl k hk⟩⟩
  rintro rfl
  have h1 := hw.cell
  rw [hc.cell] at h1
  simp at h1

/-- Both clocks, of one state. -/
def Two (w : World) (base c m b N : Nat) (s : St) : Prop :=
  s.Ok N ∧ base ≤ w.heap.size ∧ base ≤ c ∧ base ≤ m ∧ base ≤ b ∧ ∃ n D tv lv, n ≤ N ∧ CS w c m s.now n D ∧ WS w base b s.now tv lv s.ts s.ls ∧ Rel D s.ts s.ls

theorem Two.turn {S : Nat → Prop} {w w' : World} {base c m b N : Nat} {s : St} (h : Two w base c m b N s) (ht : Turn S w w') (hs : ∀ k, S k → w.heap.size ≤ k) : Two w' base c m b N s := by
  obtain ⟨h1, h2, h3, h4, h5, n, D, tv, lv, h6, h7, h8, h9⟩ := h
  refine ⟨h1, Nat.le_trans h2 ht.size, h3, h4, h5, n, D, tv, lv, h6, h7.turn ht (fun e => ?_) (fun e => ?_), h8.turn ht (fun e => ?_) (fun k hk e => ?_) (fun k hk e => ?_), h9⟩
  · have := hs _ e; have := blk_lt h7.cell; omega
  · have := hs _ e; have := h7.own.lt; omega
  · have := hs _ e; have := blk_lt h8.cell; omega
  · have := hs _ e; have := (h8.ht.lt k hk).2; omega
  · have := hs _ e; have := (h8.hl.lt k hk).2; omega

theorem Two.below {w w' : World} {base c m b N : Nat} {s : St} (h : Two w base c m b N s) (ht : Below w.heap.size w w') : Two w' base c m b N s :=
  h.turn (S := fun _ => False) (Turn.of_below ht) (fun _ hk => hk.elim)

theorem Two.mono {w : World} {base c m b N M : Nat} {s : St} (h : Two w base c m b N s) (hm : N ≤ M) : Two w base c m b M s := by
  obtain ⟨h1, h2, h3, h4, h5, n, D, tv, lv, h6, r⟩ := h
  exact ⟨h1.mono hm, h2, h3, h4, h5, n, D, tv, lv, Nat.le_trans h6 hm, r⟩

theorem act_tick {base c m b N : Nat} {s : St} (w : World) (h : Two w base c m b N s) (id : Int) :
    Calls Try.prog 12 #[.pointer (some ⟨c, 0, none⟩), .pointer (some ⟨b, 0, none⟩), .agg #[.int .i64 1, .int .i64 id]] w fun e w' => e = .returned (.bool true) ∧ Two w' base c m b N s.tick ∧ Below base w w' := by
  obtain ⟨h1, h2, h3, h4, h5, n, D, tv, lv, h6, hc, hw, h9⟩ := h.below ((Below.refl _ w).alloc (Nat.le_refl _) (.cells #[.int .i64 1, .int .i64 id] 35))
  obtain ⟨q1, q2, q3, q4⟩ := sep hc hw
  by_cases hmax : s.now = 18446744073709551615
  · have hst : s.tick = s := by unfold St.tick; rw [if_pos hmax]
    have hX := tick_full _ s.now hmax hc
    have hY := wtick_full _ hmax hw
    have HM := Lib.hid hmax; clear hmax
    have hT := Lib.hid h; clear h
    have HS := Lib.hid hst; clear hst
    go_enter Try.func12, Try.ntmps12
    go_wp2_with fail
    refine hX.mono ?_; rintro e w1 ⟨rfl, rfl⟩
    go_wp2_with fail
    refine hY.mono ?_; rintro e w1 ⟨rfl, rfl⟩
    go_wp2
    go_ret
    rw [HS.out]
    exact ⟨rfl, hT.out.below ((Below.refl _ w).alloc (Nat.le_refl _) _), (Below.refl _ _).alloc hT.out.2.1 _⟩
  · have hst : s.tick = ⟨s.now + 1, s.ts, s.ls⟩ := by unfold St.tick; rw [if_neg hmax]
    have l0 := h1.lo
    have l1 : s.now < 18446744073709551615 := by have := h1.hi; omega
    have hX := tick_goes _ s.now l0 l1 hc
    have hY := fun (w : World) (h : WS w base b s.now tv lv s.ts s.ls) => wtick_goes w l0 l1 h
    have HM := Lib.hid l1; clear l1 hmax l0
    have hT := Lib.hid h; clear h
    have HS := Lib.hid hst; clear hst
    have HC := Lib.hid hc; clear hc
    have HW := Lib.hid hw; clear hw
    have HQ := Lib.hid q3; clear q3
    have HQ4 := Lib.hid q4; clear q4
    go_enter Try.func12, Try.ntmps12
    go_wp2_with fail
    refine hX.mono ?_; rintro e w1 ⟨rfl, hc1, ht1⟩
    have hw1 := HW.out.turn ht1 q1 (fun k hk e => (HQ.out k hk).1 e) (fun k hk e => (HQ4.out k hk).1 e)
    have hY1 := hY w1 hw1
    have HC1 := Lib.hid hc1; clear hc1
    have HT1 := Lib.hid ht1; clear ht1
    have HW1 := Lib.hid hw1; clear hw1
    go_wp2_with fail
    refine hY1.mono ?_; rintro e w2 ⟨rfl, hw2, ht2⟩
    have HW2 := Lib.hid hw2; clear hw2
    have HT2 := Lib.hid ht2; clear ht2
    go_wp2
    go_ret
    have hT12 : Turn (fun k => base ≤ k) w w2 := (((Turn.refl _ w).alloc _).trans (HT1.out.mono (fun k e => e ▸ h3))).trans (HT2.out.mono (fun k e => e ▸ h5))
    have hc2 := HC1.out.turn HT2.out (fun e => q1 e.symm) (fun e => q2 e.symm)
    refine ⟨rfl, ?_, hT12.below (fun k hk hs => by omega) hT.out.2.1⟩
    rw [HS.out]
    have hok := h1.tick
    rw [HS.out] at hok
    exact ⟨hok, Nat.le_trans hT.out.2.1 hT12.size, h3, h4, h5, n, D, tv, lv, h6, hc2, HW2.out, h9⟩

theorem act_take {base c m b N : Nat} {s : St} (w : World) (h : Two w base c m b N s) (hN : N ≤ 100000) (id : Int) :
    Calls Try.prog 12 #[.pointer (some ⟨c, 0, none⟩), .pointer (some ⟨b, 0, none⟩), .agg #[.int .i64 2, .int .i64 id]] w fun e w' => e = .returned (.bool true) ∧ Two w' base c m b (N + 1) s.take ∧ Below base w w' := by
  obtain ⟨h1, h2, h3, h4, h5, n, D, tv, lv, h6, hc, hw, h9⟩ := h.below ((Below.refl _ w).alloc (Nat.le_refl _) (.cells #[.int .i64 2, .int .i64 id] 35))
  obtain ⟨q1, q2, q3, q4⟩ := sep hc hw
  have hwf : (Lit.int .u64 s.now).wf = true := WalkArith.wf_u64 ⟨h1.lo, h1.hi⟩
  have hfr := free_le s.ls
  have hfew := h1.few
  have hX := take_any _ hc hwf (by unfold maxLen; omega) (free s.ls + 1) (by omega) (by omega) (fun i i1 i2 => by
    rw [h9.has, alive_iff]
    exact ⟨by omega, by rw [show ((i : Int) - 1).toNat = i - 1 by omega]; exact free_before _ _ (by omega)⟩) (by
    rw [h9.has]
    cases ha : alive s.ls ((free s.ls + 1 : Nat) : Int) with
    | false => rfl
    | true =>
      have := (alive_iff.1 ha).2
      rw [show (((free s.ls + 1 : Nat) : Int) - 1).toNat = free s.ls by omega] at this
      by_cases hlt : free s.ls < s.ls.length
      · rw [free_at _ hlt] at this; cases this
      · rw [List.getElem?_eq_none (by omega)] at this; cases this)
  have hcast : (((free s.ls + 1 : Nat)) : Int) = (free s.ls : Int) + 1 := by omega
  rw [hcast] at hX
  have hrel := h9.take hc.own.isMap h1.len
  have hok := h1.take
  have hnow : s.take.now = s.now := by unfold St.take; split <;> rfl
  by_cases hf : free s.ls < s.ls.length
  · have hst : s.take = ⟨s.now, s.ts.set (free s.ls) s.now, s.ls.set (free s.ls) true⟩ := by unfold St.take; rw [if_pos hf]
    have hY := fun (w : World) (h : WS w base b s.now tv lv s.ts s.ls) => wtake_old w h hf (by omega)
    have HF := Lib.hid hf; clear hf
    have hT := Lib.hid h; clear h
    have HS := Lib.hid hst; clear hst
    have HC := Lib.hid hc; clear hc
    have HW := Lib.hid hw; clear hw
    have HQ := Lib.hid q3; clear q3
    have HQ4 := Lib.hid q4; clear q4
    have HR := Lib.hid hrel; clear hrel
    have HO := Lib.hid hok; clear hok
    have HN := Lib.hid hnow; clear hnow hcast
    go_enter Try.func12, Try.ntmps12
    go_wp2_with fail
    refine hX.mono ?_; rintro e w1 ⟨rfl, hc1, ht1⟩
    have hw1 := HW.out.turn ht1 q2 (fun k hk e => (HQ.out k hk).2 e) (fun k hk e => (HQ4.out k hk).2 e)
    have hY1 := hY w1 hw1
    have HC1 := Lib.hid hc1; clear hc1
    have HT1 := Lib.hid ht1; clear ht1
    have HW1 := Lib.hid hw1; clear hw1
    go_wp2_with fail
    refine hY1.mono ?_; rintro e w2 ⟨rfl, hw2, ht2⟩
    have HW2 := Lib.hid hw2; clear hw2
    have HT2 := Lib.hid ht2; clear ht2
    go_wp2
    go_ret
    have hb2 : ∀ k, (tv.ownBlock = some k ∨ lv.ownBlock = some k) → base ≤ k := fun k hk => hk.elim (fun e => (HW.out.ht.lt k e).1) (fun e => (HW.out.hl.lt k e).1)
    have hT12 : Turn (fun k => base ≤ k) w w2 := (((Turn.refl _ w).alloc _).trans (HT1.out.mono (fun k e => e ▸ h4))).trans (HT2.out.mono (fun k e => hb2 k e))
    have hc2 := HC1.out.turn HT2.out (fun e => e.elim (fun e => (HQ.out _ e).1 rfl) (fun e => (HQ4.out _ e).1 rfl)) (fun e => e.elim (fun e => (HQ.out _ e).2 rfl) (fun e => (HQ4.out _ e).2 rfl))
    refine ⟨rfl, ?_, hT12.below (fun k hk hs => by omega) hT.out.2.1⟩
    refine ⟨HO.out, Nat.le_trans hT.out.2.1 hT12.size, h3, h4, h5, n + 1, _, tv, lv, by omega, ?_, ?_, HR.out⟩
    · rw [HN.out]; exact hc2
    · rw [HS.out]; exact HW2.out
  · have hff := free_full hf
    have hst : s.take = ⟨s.now, s.ts ++ [s.now], s.ls ++ [true]⟩ := by unfold St.take; rw [if_neg hf]
    have hY := fun (w : World) (h : WS w base b s.now tv lv s.ts s.ls) (hb : base ≤ w.heap.size) => wtake_new w h hb hff (by omega)
    rw [hff] at hX hrel
    have HF := Lib.hid hff; clear hff hf hfr
    have hT := Lib.hid h; clear h
    have HS := Lib.hid hst; clear hst
    have HC := Lib.hid hc; clear hc
    have HW := Lib.hid hw; clear hw
    have HQ := Lib.hid q3; clear q3
    have HQ4 := Lib.hid q4; clear q4
    have HR := Lib.hid hrel; clear hrel
    have HO := Lib.hid hok; clear hok
    have HN := Lib.hid hnow; clear hnow hcast
    go_enter Try.func12, Try.ntmps12
    go_wp2_with fail
    refine hX.mono ?_; rintro e w1 ⟨rfl, hc1, ht1⟩
    have hw1 := HW.out.turn ht1 q2 (fun k hk e => (HQ.out k hk).2 e) (fun k hk e => (HQ4.out k hk).2 e)
    have hY1 := hY w1 hw1 (Nat.le_trans h2 ht1.size)
    have HC1 := Lib.hid hc1; clear hc1
    have HT1 := Lib.hid ht1; clear ht1
    have HW1 := Lib.hid hw1; clear hw1
    go_wp2_with fail
    refine hY1.mono ?_; rintro e w2 ⟨rfl, tv', lv', hw2, ht2⟩
    have HW2 := Lib.hid hw2; clear hw2
    have HT2 := Lib.hid ht2; clear ht2
    go_wp2
    go_ret
    have hb2 : ∀ k, (k = b ∨ tv.ownBlock = some k ∨ lv.ownBlock = some k) → base ≤ k := fun k hk => hk.elim (fun e => e ▸ h5) (fun hk => hk.elim (fun e => (HW.out.ht.lt k e).1) (fun e => (HW.out.hl.lt k e).1))
    have hT12 : Turn (fun k => base ≤ k) w w2 := (((Turn.refl _ w).alloc _).trans (HT1.out.mono (fun k e => e ▸ h4))).trans (HT2.out.mono (fun k e => hb2 k e))
    have hc2 := HC1.out.turn HT2.out (fun e => e.elim (fun e => q1 e.symm) (fun e => e.elim (fun e => (HQ.out _ e).1 rfl) (fun e => (HQ4.out _ e).1 rfl))) (fun e => e.elim (fun e => q2 e.symm) (fun e => e.elim (fun e => (HQ.out _ e).2 rfl) (fun e => (HQ4.out _ e).2 rfl)))
    refine ⟨rfl, ?_, hT12.below (fun k hk hs => by omega) hT.out.2.1⟩
    refine ⟨HO.out, Nat.le_trans hT.out.2.1 hT12.size, h3, h4, h5, n + 1, _, tv', lv', by omega, ?_, ?_, HR.out⟩
    · rw [HN.out]; exact hc2
    · rw [HS.out]; exact HW2.out

end Go.Proofs.Ytcdcdnochlapgaa
