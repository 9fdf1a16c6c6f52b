/-
  The contract of act at every kind, and of awake.
-/
import Derived.Test.YtcdcdnochlapgaaH
namespace Go.Proofs.Ytcdcdnochlapgaa
open Go.RowKit Go.Maps

theorem time_rel {c m : Nat} {now : Int} {n : Nat} {D : Dt} {ts : List Int} {ls : List Bool} (w : World) (h : CS w c m now n D) (hr : Rel D ts ls) (hlen : ts.length = ls.length) (id : Int) (hid : (id64 id).wf = true) :
    Calls Try.prog 15 #[.pointer (some ⟨c, 0, none⟩), .int .i64 id] w fun e w' => e = .returned (.tuple #[.int .u64 (timeOf ts ls id), .bool (alive ls id)]) ∧ w = w' :=
  (time_any w h id hid).mono fun e w' ⟨t, he, ht, hw⟩ => by
    obtain rfl := hr.time hlen ht
    exact ⟨by rw [he, hr.has], hw⟩

theorem act_time {base c m b N : Nat} {s : St} (w : World) (h : Two w base c m b N s) (id : Int) (hid : (id64 id).wf = true) :
    Calls Try.prog 12 #[.pointer (some ⟨c, 0, none⟩), .pointer (some ⟨b, 0, none⟩), .agg #[.int .i64 4, .int .i64 id]] w fun e w' => e = .returned (.bool true) ∧ Two w' base c m b N s ∧ Below base w w' := by
  obtain ⟨h1, h2, h3, h4, h5, n, D, tv, lv, h6, hc, hw, h9⟩ := h.below ((Below.refl _ w).alloc (Nat.le_refl _) (.cells #[.int .i64 4, .int .i64 id] 35))
  have hX := time_rel _ hc h9 h1.len id hid
  have hY := wtime_any _ hw id hid
  generalize timeOf s.ts s.ls id = t at hX hY
  generalize alive s.ls id = ok at hX hY
  have hT := Lib.hid h; clear h
  clear hc hw h9
  go_enter Try.func12, Try.ntmps12
  go_wp2_with fail
  refine hX.mono ?_; rintro e w1 ⟨rfl, rfl⟩
  go_wp2_with fail
  refine hY.mono ?_; rintro e w1 ⟨rfl, rfl⟩
  go_wp2
  go_ret
  exact ⟨by simp, hT.out.below ((Below.refl _ w).alloc (Nat.le_refl _) _), (Below.refl _ _).alloc hT.out.2.1 _⟩

theorem act_other {base c m b N : Nat} {s : St} (w : World) (h : Two w base c m b N s) (k id : Int) (k1 : k ≠ 1) (k2 : k ≠ 2) (k3 : k ≠ 3) (k4 : k ≠ 4) :
    Calls Try.prog 12 #[.pointer (some ⟨c, 0, none⟩), .pointer (some ⟨b, 0, none⟩), .agg #[.int .i64 k, .int .i64 id]] w fun e w' => e = .returned (.bool true) ∧ Two w' base c m b N s ∧ Below base w w' := by
  have hT := Lib.hid h; clear h
  have b1 : (k == 1) = false := by simpa using k1
  have b2 : (k == 2) = false := by simpa using k2
  have b3 : (k == 3) = false := by simpa using k3
  have b4 : (k == 4) = false := by simpa using k4
  clear k1 k2 k3 k4
  go_enter Try.func12, Try.ntmps12
  go_wp2
  go_ret
  exact ⟨rfl, hT.out.below ((Below.refl _ w).alloc (Nat.le_refl _) _), (Below.refl _ _).alloc hT.out.2.1 _⟩

theorem act_any {base c m b N : Nat} {s : St} (w : World) (h : Two w base c m b N s) (hN : N ≤ 100000) (k id : Int) (hid : (id64 id).wf = true) :
    Calls Try.prog 12 #[.pointer (some ⟨c, 0, none⟩), .pointer (some ⟨b, 0, none⟩), .agg #[.int .i64 k, .int .i64 id]] w fun e w' => e = .returned (.bool true) ∧ Two w' base c m b (N + 1) (s.act k id) ∧ Below base w w' := by
  by_cases k1 : k = 1
  · subst k1
    exact (act_tick w h id).mono fun e w' ⟨a1, a2, a3⟩ => ⟨a1, a2.mono (Nat.le_succ _), a3⟩
  by_cases k2 : k = 2
  · subst k2
    exact act_take w h hN id
  by_cases k3 : k = 3
  · subst k3
    exact (act_drop w h id hid).mono fun e w' ⟨a1, a2, a3⟩ => ⟨a1, a2.mono (Nat.le_succ _), a3⟩
  have hs : s.act k id = s := by unfold St.act; rw [if_neg k1, if_neg k2, if_neg k3]
  rw [hs]
  by_cases k4 : k = 4
  · subst k4
    exact (act_time w h id hid).mono fun e w' ⟨a1, a2, a3⟩ => ⟨a1, a2.mono (Nat.le_succ _), a3⟩
  exact (act_other w h k id k1 k2 k3 k4).mono fun e w' ⟨a1, a2, a3⟩ => ⟨a1, a2.mono (Nat.le_succ _), a3⟩

/-- What the program does not answer if it does nothing. -/
theorem awake_any (w : World) : Calls Try.prog 8 #[] w fun e w' => e = .returned (.bool true) ∧ Below w.heap.size w w' := by
  have hN := new_any 5 w
  go_enter Try.func8, Try.ntmps8
  go_wp2_with fail
  refine hN.mono ?_; rintro e w1 ⟨rfl, hc, hb⟩
  have hX := now_any w1 hc
  have hY := take_any w1 hc (by decide) (by unfold maxLen; omega) 1 (Nat.le_refl _) (by omega) (fun i h1 h2 => by omega) rfl
  have HC := Lib.hid hc; clear hc
  have HB := Lib.hid hb; clear hb
  go_wp2_with fail
  refine hX.mono ?_; rintro e w2 ⟨rfl, rfl⟩
  go_wp2_with fail
  refine hY.mono ?_; rintro e w2 ⟨rfl, hc2, ht2⟩
  have HT2 := Lib.hid ht2; clear ht2
  clear hc2
  go_wp2
  go_ret
  exact ⟨rfl, HB.out.trans (HT2.out.below (fun k hk e => by omega) HB.out.size)⟩

end Go.Proofs.Ytcdcdnochlapgaa
