/-
  The order of values in plain Lean, and the contract of order.Compare at formed values, under utf8's tables.
-/
import Derived.Test.YtehdnjegipcpfaaDoorK
import Derived.Test.YtehdnjegipcpfaaDoorI
import Derived.Test.YtehdnjegipcpfaaDoorPFilterHoldsx3
namespace Go.Proofs.YtehdnjegipcpfaaDoor
open Go.RowKit Go.Proofs.YtehdnjegipcpfaaDoorW.PrintWords Go.Proofs.YtehdnjegipcpfaaDoorW.PrintLast Go.Proofs.YtehdnjegipcpfaaDoorW.PrintMore
open PFilterHolds Go.Shelf

def cmpI (a b : Int) : Int := if a < b then -1 else if a > b then 1 else 0
def cmpS (a b : ByteArray) : Int := if Op.bytesLess a.toList b.toList = true then -1 else if Op.bytesLess b.toList a.toList = true then 1 else 0
def or3 (a b c : Int) : Int := if a ≠ 0 then a else if b ≠ 0 then b else c

theorem cmpI_tot (a b : Int) : cmp_Compare_int.f a b = some (cmpI a b) := by
  unfold cmp_Compare_int.f cmp_isNaN_int.f cmpI
  simp only [bne_self_eq_false, Option.bind_some, Bool.false_eq_true, if_false]
  repeat' split
  all_goals rfl
theorem cmpI64_tot (a b : Int) : cmp_Compare_int64.f a b = some (cmpI a b) := by
  unfold cmp_Compare_int64.f cmp_isNaN_int64.f cmpI
  simp only [bne_self_eq_false, Option.bind_some, Bool.false_eq_true, if_false]
  repeat' split
  all_goals rfl
theorem cmpS_tot (a b : ByteArray) : cmp_Compare_string.f a b = some (cmpS a b) := by
  unfold cmp_Compare_string.f cmp_isNaN_string.f cmpS
  simp only [bne_self_eq_false, Option.bind_some, Bool.false_eq_true, if_false]
  repeat' split
  all_goals rfl
theorem or3_tot (a b c : Int) : cmp_Or_int.f 5 [a, b, c] = some (or3 a b c) := by
  have r0 : rd [a, b, c] 0 = a := rfl
  have r1 : rd [a, b, c] 1 = b := rfl
  have r2 : rd [a, b, c] 2 = c := rfl
  have w1 : wrap64 (0 + 1) = 1 := by unfold wrap64; omega
  have w1' : wrap64 1 = 1 := by unfold wrap64; omega
  have w2 : wrap64 (1 + 1) = 2 := by unfold wrap64; omega
  have w2' : wrap64 2 = 2 := by unfold wrap64; omega
  have w3 : wrap64 (2 + 1) = 3 := by unfold wrap64; omega
  have w3' : wrap64 3 = 3 := by unfold wrap64; omega
  unfold cmp_Or_int.f or3
  by_cases ha : a = 0
  · by_cases hb : b = 0
    · by_cases hc : c = 0
      · simp [cmp_Or_int.l0, r0, r1, r2, w1, w1', w2, w2', w3, w3', ha, hb, hc]
        simp_all
      · simp [cmp_Or_int.l0, r0, r1, r2, w1, w1', w2, w2', w3, w3', ha, hb, hc]
        simp_all
    · simp [cmp_Or_int.l0, r0, r1, r2, w1, w1', w2, w2', w3, w3', ha, hb]
      simp_all
  · simp [cmp_Or_int.l0, r0, r1, r2, w1, w1', w2, w2', w3, w3', ha]

/-- The first of the steps that is not 0; else the last word. -/
def firstNZ (st : Nat → Int) (fin : Int) : Nat → Nat → Int
  | 0, _ => fin
  | d + 1, i => if st i ≠ 0 then st i else firstNZ st fin d (i + 1)

theorem firstNZ_succ (st : Nat → Int) (fin : Int) (d i : Nat) : firstNZ st fin (d + 1) i = if st i ≠ 0 then st i else firstNZ st fin d (i + 1) := rfl

/-- Of two members: the names, in objects, then the values. -/
def stepC (cp : S25 → S25 → Int) (x y : S25) (i : Nat) : Int := if x.f0 = 6 ∧ cmpS (x.f3.getD i ByteArray.empty) (y.f3.getD i ByteArray.empty) ≠ 0 then cmpS (x.f3.getD i ByteArray.empty) (y.f3.getD i ByteArray.empty) else cp (x.f4.getD i z25) (y.f4.getD i z25)

/-- The order of values of at most so much depth. -/
def cmpF : Nat → S25 → S25 → Int
  | 0, _, _ => 0
  | k + 1, x, y =>
    if or3 (cmpI x.f0 y.f0) (cmpI x.f1 y.f1) (cmpS x.f2 y.f2) ≠ 0 then or3 (cmpI x.f0 y.f0) (cmpI x.f1 y.f1) (cmpS x.f2 y.f2)
    else firstNZ (stepC (cmpF k) x y)
      (cmpI x.f4.length y.f4.length) (min x.f4.length y.f4.length) 0

theorem lift_cmp {x y : S25} {k m : Nat} {r : Int} (h : order_compare.f k x.f0 x.f1 x.f2 x.f3 x.f4 y.f0 y.f1 y.f2 y.f3 y.f4 = some r) (hk : k ≤ m) : order_compare.f m x.f0 x.f1 x.f2 x.f3 x.f4 y.f0 y.f1 y.f2 y.f3 y.f4 = some r :=
  le_lift (F := fun k => order_compare.f k x.f0 x.f1 x.f2 x.f3 x.f4 y.f0 y.f1 y.f2 y.f3 y.f4) (fun k => order_compare.mono _ _ _ _ _ _ _ _ _ _ k) h hk

theorem cmp_l0 (k : Nat) (x y : S25) (h6 : x.f0 = 6 → x.f3.length = x.f4.length ∧ y.f3.length = y.f4.length) (hb : x.f4.length ≤ 1000)
    (hx : ∀ i, i < x.f4.length → i < y.f4.length → ∃ m, order_compare.f m (x.f4.getD i z25).f0 (x.f4.getD i z25).f1 (x.f4.getD i z25).f2 (x.f4.getD i z25).f3 (x.f4.getD i z25).f4 (y.f4.getD i z25).f0 (y.f4.getD i z25).f1 (y.f4.getD i z25).f2 (y.f4.getD i z25).f3 (y.f4.getD i z25).f4 = some (cmpF k (x.f4.getD i z25) (y.f4.getD i z25))) :
    ∀ d i : Nat, i + d = min x.f4.length y.f4.length → ∃ m, order_compare.l0 m (min x.f4.length y.f4.length : Nat) (i : Int) x.f0 x.f1 x.f2 x.f3 x.f4 y.f0 y.f1 y.f2 y.f3 y.f4 = some (firstNZ (stepC (cmpF k) x y) (cmpI x.f4.length y.f4.length) d i)
  | 0, i, h => ⟨1, by unfold order_compare.l0 firstNZ; rw [if_neg (by omega), cmpI_tot]; rfl⟩
  | d + 1, i, h => by
    have hi1 : i < x.f4.length := by omega
    have hi2 : i < y.f4.length := by omega
    obtain ⟨m1, e1⟩ := hx i hi1 hi2
    obtain ⟨m2, e2⟩ := cmp_l0 k x y h6 hb hx d (i + 1) (by omega)
    have w3 : wrap64 ((i : Int) + 1) = ((i + 1 : Nat) : Int) := by unfold wrap64; omega
    refine ⟨max m1 m2 + 2, ?_⟩
    have hl0 : order_compare.l0 (max m1 m2) (min x.f4.length y.f4.length : Nat) ((i + 1 : Nat) : Int) x.f0 x.f1 x.f2 x.f3 x.f4 y.f0 y.f1 y.f2 y.f3 y.f4 = _ := le_lift (F := fun k => order_compare.l0 k (min x.f4.length y.f4.length : Nat) ((i + 1 : Nat) : Int) x.f0 x.f1 x.f2 x.f3 x.f4 y.f0 y.f1 y.f2 y.f3 y.f4) (fun k => (order_compare.mono_l k).2.1 _ _ _ _ _ _ _ _ _ _ _ _) e2 (Nat.le_max_right m1 m2)
    have hf : order_compare.f (max m1 m2) (rd_T25 x.f4 i).f0 (rd_T25 x.f4 i).f1 (rd_T25 x.f4 i).f2 (rd_T25 x.f4 i).f3 (rd_T25 x.f4 i).f4 (rd_T25 y.f4 i).f0 (rd_T25 y.f4 i).f1 (rd_T25 y.f4 i).f2 (rd_T25 y.f4 i).f3 (rd_T25 y.f4 i).f4 = some (cmpF k (x.f4.getD i z25) (y.f4.getD i z25)) := lift_cmp e1 (Nat.le_max_left m1 m2)
    have hj : ∀ c : Int, order_compare.j1 (max m1 m2 + 1) (i : Int) c (min x.f4.length y.f4.length : Nat) (i : Int) x.f0 x.f1 x.f2 x.f3 x.f4 y.f0 y.f1 y.f2 y.f3 y.f4 = some (if c ≠ 0 then c else if cmpF k (x.f4.getD i z25) (y.f4.getD i z25) ≠ 0 then cmpF k (x.f4.getD i z25) (y.f4.getD i z25) else (firstNZ (stepC (cmpF k) x y) (cmpI x.f4.length y.f4.length) d (i + 1))) := by
      intro c
      unfold order_compare.j1
      by_cases hc : c = 0
      · rw [if_pos hc, if_pos (by omega), if_pos (by omega), if_pos (by omega), hf, Option.bind_some, w3, hl0]
        by_cases h0 : cmpF k (x.f4.getD i z25) (y.f4.getD i z25) = 0
        · rw [if_pos h0, if_neg (show ¬ c ≠ 0 from fun e => e hc), if_neg (fun e => e h0)]
        · rw [if_neg h0, if_neg (show ¬ c ≠ 0 from fun e => e hc), if_pos h0]
      · rw [if_neg hc, if_pos hc]
    unfold order_compare.l0
    rw [if_pos (by omega)]
    rw [firstNZ_succ]
    have hst : stepC (cmpF k) x y i = if x.f0 = 6 ∧ cmpS (x.f3.getD i ByteArray.empty) (y.f3.getD i ByteArray.empty) ≠ 0 then cmpS (x.f3.getD i ByteArray.empty) (y.f3.getD i ByteArray.empty) else cmpF k (x.f4.getD i z25) (y.f4.getD i z25) := rfl
    rw [hst]
    clear hst
    by_cases hk6 : x.f0 = 6
    · obtain ⟨n1, n2⟩ := h6 hk6
      rw [if_pos hk6, if_pos (by omega), if_pos (by omega), if_pos (by omega), cmpS_tot, Option.bind_some, hj]
      have q1 : rdOf ByteArray.empty x.f3 (i : Int) = x.f3.getD i ByteArray.empty := rfl
      have q2 : rdOf ByteArray.empty y.f3 (i : Int) = y.f3.getD i ByteArray.empty := rfl
      rw [q1, q2]
      generalize cmpS (x.f3.getD i ByteArray.empty) (y.f3.getD i ByteArray.empty) = c
      generalize cmpF k (x.f4.getD i z25) (y.f4.getD i z25) = q
      by_cases hc : c = 0
      · rw [if_neg (show ¬ c ≠ 0 from fun e => e hc), if_neg (show ¬ (x.f0 = 6 ∧ c ≠ 0) from fun e => e.2 hc)]
      · rw [if_pos hc, if_pos (show x.f0 = 6 ∧ c ≠ 0 from ⟨hk6, hc⟩), if_pos hc]
    · rw [if_neg hk6, hj]
      rw [if_neg (show ¬ (0 : Int) ≠ 0 from fun e => e rfl), if_neg (show ¬ (x.f0 = 6 ∧ _) from fun e => hk6 e.1)]

theorem cmp_tot : ∀ (k : Nat) (x y : S25), formedJ k x = true → formedJ k y = true → ∃ m, order_compare.f m x.f0 x.f1 x.f2 x.f3 x.f4 y.f0 y.f1 y.f2 y.f3 y.f4 = some (cmpF k x y)
  | 0, x, y, h, _ => by unfold formedJ at h; cases h
  | k + 1, x, y, h, h' => by
    by_cases hc : or3 (cmpI x.f0 y.f0) (cmpI x.f1 y.f1) (cmpS x.f2 y.f2) = 0
    · have he : x.f0 = y.f0 := by
        unfold or3 at hc
        have : cmpI x.f0 y.f0 = 0 := by
          by_cases e : cmpI x.f0 y.f0 = 0
          · exact e
          · rw [if_pos e] at hc; exact absurd hc e
        unfold cmpI at this
        split at this
        · cases this
        · split at this
          · cases this
          · omega
      obtain ⟨p1, p2, p3, _⟩ := formed_parts h
      obtain ⟨q1, q2, q3, _⟩ := formed_parts h'
      obtain ⟨m, e⟩ := cmp_l0 k x y (fun h6 => ⟨names_items h h6, names_items h' (he ▸ h6)⟩) (by omega) (fun i hi1 hi2 => by
        refine cmp_tot k _ _ ?_ ?_
        · rw [List.getD_eq_getElem?_getD, List.getElem?_eq_getElem hi1]; exact p3 _ (List.getElem_mem hi1)
        · rw [List.getD_eq_getElem?_getD, List.getElem?_eq_getElem hi2]; exact q3 _ (List.getElem_mem hi2)) (min x.f4.length y.f4.length) 0 (by omega)
      refine ⟨max m 5 + 1, ?_⟩
      unfold order_compare.f cmpF
      rw [cmpI_tot, Option.bind_some, cmpI64_tot, Option.bind_some, cmpS_tot, Option.bind_some, le_lift (F := fun k => cmp_Or_int.f k _) (fun k => cmp_Or_int.mono _ k) (or3_tot _ _ _) (Nat.le_max_right m 5), Option.bind_some, if_pos hc, if_neg (by simpa using hc)]
      have hm : mn (x.f4.length : Int) (y.f4.length : Int) = ((min x.f4.length y.f4.length : Nat) : Int) := by unfold mn; split <;> omega
      rw [hm]
      exact le_lift (F := fun k => order_compare.l0 k _ _ _ _ _ _ _ _ _ _ _ _) (fun k => (order_compare.mono_l k).2.1 _ _ _ _ _ _ _ _ _ _ _ _) e (Nat.le_max_left m 5)
    · refine ⟨6, ?_⟩
      unfold order_compare.f cmpF
      rw [cmpI_tot, Option.bind_some, cmpI64_tot, Option.bind_some, cmpS_tot, Option.bind_some, or3_tot, Option.bind_some, if_neg hc, if_pos hc]

end Go.Proofs.YtehdnjegipcpfaaDoor
