/-
  Plain laws: the printed mirrors of Nodes, Few and few answer at every value; no condition. The order of values in plain Lean, and the contract of order.Compare at formed values, under utf8's tables. The contract of order.Compare at formed values, under utf8's tables. The contract of path.place at formed values; no other condition.
-/
import Derived.Test.YtehdnjegipcpfaaDoorBase
import Derived.Test.YtehdnjegipcpfaaDoorPFilterHoldsx5
import Derived.Test.YtehdnjegipcpfaaDoorFilt
import Derived.Test.YtehdnjegipcpfaaDoorPFilterHoldsx3
import Derived.Test.YtehdnjegipcpfaaDoorPFilterHoldsx2
namespace Go.Proofs.YtehdnjegipcpfaaDoor
open Go.RowKit Go.Proofs.YtehdnjegipcpfaaDoorW.PrintWords Go.Proofs.YtehdnjegipcpfaaDoorW.PrintLast Go.Proofs.YtehdnjegipcpfaaDoorW.PrintMore
open PFilterHolds
theorem le_lift {α : Type} {F : Nat → Option α} (hm : ∀ k, LeO (F k) (F (k + 1))) {k m : Nat} {r : α} (h : F k = some r) (hk : k ≤ m) : F m = some r := by
  induction m with
  | zero => obtain rfl : k = 0 := by omega
            exact h
  | succ m ih =>
    by_cases e : k = m + 1
    · subst e; exact h
    · exact hm m r (ih (by omega))
theorem nodes_l0 (left : Nat) (x : S25) (hx : ∀ y ∈ x.f4, ∃ k r, munimentref01_nodes.f k y.f0 y.f1 y.f2 y.f3 y.f4 (left : Int) = some r ∧ 1 ≤ r ∧ r ≤ 1001) (hleft : left ≤ 100) : ∀ d i : Nat, ∀ n : Int, i + d = x.f4.length → (i : Int) + 1 ≤ n → n ≤ 2001 →
    ∃ k r, munimentref01_nodes.l0 k ((left : Int) + 1) n (i : Int) x.f0 x.f1 x.f2 x.f3 x.f4 = some r ∧ 1 ≤ r ∧ r ≤ 1001 ∧ (r ≤ 1000 → (x.f4.length : Int) + 1 ≤ r)
  | 0, i, n, h, h1, h2 => by
    refine ⟨1, mn n 1001, ?_, ?_⟩
    · unfold munimentref01_nodes.l0
      rw [if_neg (by omega)]
    · unfold mn; split <;> omega
  | d + 1, i, n, h, h1, h2 => by
    by_cases hn : n ≤ 1000
    · have hi : i < x.f4.length := by omega
      obtain ⟨k1, r1, e1, a1, a2⟩ := hx (x.f4[i]) (List.getElem_mem hi)
      obtain ⟨k2, r2, e2, b1, b2, b3⟩ := nodes_l0 left x hx hleft d (i + 1) (n + r1) (by omega) (by omega) (by omega)
      refine ⟨max k1 k2 + 1, r2, ?_, b1, b2, b3⟩
      unfold munimentref01_nodes.l0
      rw [if_pos (by omega), if_pos hn, if_pos (by omega), rd_getD _ _ hi]
      have w1 : wrap64 ((left : Int) + 1 - 1) = left := by unfold wrap64; omega
      have w2 : wrap64 (n + r1) = n + r1 := by unfold wrap64; omega
      have w3 : wrap64 ((i : Int) + 1) = ((i + 1 : Nat) : Int) := by unfold wrap64; omega
      rw [w1, le_lift (F := fun k => munimentref01_nodes.f k (x.f4[i]).f0 (x.f4[i]).f1 (x.f4[i]).f2 (x.f4[i]).f3 (x.f4[i]).f4 (left : Int)) (fun k => munimentref01_nodes.mono _ _ _ _ _ _ k) e1 (Nat.le_max_left k1 k2), Option.bind_some, w2, w3]
      exact le_lift (F := fun k => munimentref01_nodes.l0 k ((left : Int) + 1) (n + r1) ((i + 1 : Nat) : Int) x.f0 x.f1 x.f2 x.f3 x.f4) (fun k => (munimentref01_nodes.mono_l k).2 _ _ _ _ _ _ _ _) e2 (Nat.le_max_right k1 k2)
    · refine ⟨1, mn n 1001, ?_, ?_⟩
      · unfold munimentref01_nodes.l0
        rw [if_pos (by omega), if_neg hn]
      · unfold mn; split <;> omega
theorem nodes_tot : ∀ (left : Nat), left ≤ 100 → ∀ x : S25, ∃ k r, munimentref01_nodes.f k x.f0 x.f1 x.f2 x.f3 x.f4 (left : Int) = some r ∧ 1 ≤ r ∧ r ≤ 1001 ∧ (r ≤ 1000 → (x.f4.length : Int) + 1 ≤ r)
  | 0, _, x => ⟨1, 1001, by unfold munimentref01_nodes.f; rw [if_pos (by omega)], by omega, by omega, by omega⟩
  | left + 1, hl, x => by
    obtain ⟨k, r, e, h⟩ := nodes_l0 left x (fun y _ => by
      obtain ⟨k, r, e, h1, h2, _⟩ := nodes_tot left (by omega) y
      exact ⟨k, r, e, h1, h2⟩) (by omega) x.f4.length 0 1 (by omega) (by omega) (by omega)
    refine ⟨k + 1, r, ?_, h⟩
    unfold munimentref01_nodes.f
    rw [if_neg (by omega), Int.natCast_add]
    exact e
theorem Nodes_tot (x : S25) : ∃ k r, munimentref01_Nodes.f k x.f0 x.f1 x.f2 x.f3 x.f4 = some r ∧ (r ≤ 1000 → (x.f4.length : Int) + 1 ≤ r) := by
  obtain ⟨k, r, e, _, _, h⟩ := nodes_tot 40 (by omega) x
  refine ⟨k, r, ?_, h⟩
  unfold munimentref01_Nodes.f
  rw [show (40 : Int) = ((40 : Nat) : Int) from rfl, e]
  rfl
theorem few_l1 (x : S25) (hb : x.f4.length ≤ 1000) (hx : ∀ y ∈ x.f4, ∃ k r, munimentref01_Few.f k y.f0 y.f1 y.f2 y.f3 y.f4 = some r) : ∀ d i : Nat, i + d = x.f4.length →
    ∃ k r, munimentref01_Few.l1 k (i : Int) x.f0 x.f1 x.f2 x.f3 x.f4 = some r
  | 0, i, h => ⟨1, true, by unfold munimentref01_Few.l1; rw [if_neg (by omega)]⟩
  | d + 1, i, h => by
    have hi : i < x.f4.length := by omega
    obtain ⟨k1, r1, e1⟩ := hx (x.f4[i]) (List.getElem_mem hi)
    obtain ⟨k2, r2, e2⟩ := few_l1 x hb hx d (i + 1) (by omega)
    have w3 : wrap64 ((i : Int) + 1) = ((i + 1 : Nat) : Int) := by unfold wrap64; omega
    refine ⟨max k1 k2 + 1, if r1 then r2 else false, ?_⟩
    unfold munimentref01_Few.l1
    rw [if_pos (by omega), if_pos (by omega), rd_getD _ _ hi]
    rw [le_lift (F := fun k => munimentref01_Few.f k (x.f4[i]).f0 (x.f4[i]).f1 (x.f4[i]).f2 (x.f4[i]).f3 (x.f4[i]).f4) (fun k => munimentref01_Few.mono _ _ _ _ _ k) e1 (Nat.le_max_left k1 k2), Option.bind_some, w3]
    rw [le_lift (F := fun k => munimentref01_Few.l1 k ((i + 1 : Nat) : Int) x.f0 x.f1 x.f2 x.f3 x.f4) (fun k => (munimentref01_Few.mono_l k).2.2.2 _ _ _ _ _ _) e2 (Nat.le_max_right k1 k2)]
    cases r1 <;> simp
theorem few_l0 (x : S25) (hb : x.f3.length ≤ 1000) {k1 : Nat} {r1 : Bool} (h1 : munimentref01_Few.l1 k1 0 x.f0 x.f1 x.f2 x.f3 x.f4 = some r1) : ∀ d i : Nat, i + d = x.f3.length →
    ∃ k r, munimentref01_Few.l0 k (i : Int) x.f0 x.f1 x.f2 x.f3 x.f4 = some r
  | 0, i, h => ⟨k1 + 1, r1, by unfold munimentref01_Few.l0; rw [if_neg (by omega)]; exact h1⟩
  | d + 1, i, h => by
    obtain ⟨k2, r2, e2⟩ := few_l0 x hb h1 d (i + 1) (by omega)
    have w3 : wrap64 ((i : Int) + 1) = ((i + 1 : Nat) : Int) := by unfold wrap64; omega
    refine ⟨k2 + 1, if ((rdOf ByteArray.empty x.f3 (i : Int)).size : Int) > 1000 then false else r2, ?_⟩
    unfold munimentref01_Few.l0
    rw [if_pos (by omega), if_pos (by omega), w3, e2]
    split <;> rfl
theorem few_tot (x : S25) : ∃ k r, munimentref01_Few.f k x.f0 x.f1 x.f2 x.f3 x.f4 = some r := by
  obtain ⟨x0, x1, x2, x3, x4⟩ := x
  obtain ⟨kn, rn, en, hn⟩ := Nodes_tot ⟨x0, x1, x2, x3, x4⟩
  simp only at en hn
  have hlift : ∀ m, kn ≤ m → munimentref01_Nodes.f m x0 x1 x2 x3 x4 = some rn := fun m hm => le_lift (F := fun k => munimentref01_Nodes.f k x0 x1 x2 x3 x4) (fun k => munimentref01_Nodes.mono _ _ _ _ _ k) en hm
  have hj : ∃ r, ∀ m, munimentref01_Few.j0 (m + 1) true x0 x1 x2 x3 x4 = some r := ⟨false, fun m => by unfold munimentref01_Few.j0; rw [if_pos rfl]⟩
  obtain ⟨rj, hj⟩ := hj
  by_cases h300 : rn > 300
  · refine ⟨kn + 2, rj, ?_⟩
    unfold munimentref01_Few.f
    rw [hlift (kn + 1) (by omega), Option.bind_some, if_pos h300]
    exact hj _
  have h4 : (x4.length : Int) + 1 ≤ rn := hn (by omega)
  by_cases h100 : (x3.length : Int) > 100
  · refine ⟨kn + 2, rj, ?_⟩
    unfold munimentref01_Few.f
    rw [hlift (kn + 1) (by omega), Option.bind_some, if_neg h300, if_pos h100]
    exact hj _
  obtain ⟨k1, r1, e1⟩ := few_l1 ⟨x0, x1, x2, x3, x4⟩ (by show x4.length ≤ 1000; omega) (fun y hy => few_tot y) x4.length 0 (by simp)
  obtain ⟨k2, r2, e2⟩ := few_l0 ⟨x0, x1, x2, x3, x4⟩ (by show x3.length ≤ 1000; omega) (by simpa using e1) x3.length 0 (by simp)
  simp only at e2
  refine ⟨max kn k2 + 2, if (x2.size : Int) > 1000 then false else r2, ?_⟩
  unfold munimentref01_Few.f
  rw [hlift (max kn k2 + 1) (by omega), Option.bind_some, if_neg h300, if_neg h100]
  unfold munimentref01_Few.j0
  have := le_lift (F := fun k => munimentref01_Few.l0 k 0 x0 x1 x2 x3 x4) (fun k => (munimentref01_Few.mono_l k).2.2.1 _ _ _ _ _ _) (by simpa using e2) (Nat.le_max_right kn k2)
  rw [this]
  split
  · rename_i h; rw [if_pos (by simpa using h)]
  · rename_i h; rw [if_neg (by simpa using h)]
termination_by SizeOf.sizeOf x
decreasing_by
  have h := List.sizeOf_lt_of_mem hy
  have e : SizeOf.sizeOf (S25.mk x0 x1 x2 x3 x4) = 1 + SizeOf.sizeOf x0 + SizeOf.sizeOf x1 + SizeOf.sizeOf x2 + SizeOf.sizeOf x3 + SizeOf.sizeOf x4 := S25.mk.sizeOf_spec _ _ _ _ _
  have h' : SizeOf.sizeOf y < SizeOf.sizeOf x4 := h
  clear h
  omega
end Go.Proofs.YtehdnjegipcpfaaDoor
namespace Go.Proofs.YtehdnjegipcpfaaDoor
open Go.RowKit Go.Proofs.YtehdnjegipcpfaaDoorW.PrintWords Go.Proofs.YtehdnjegipcpfaaDoorW.PrintLast Go.Proofs.YtehdnjegipcpfaaDoorW.PrintMore
open PFilterHolds Go.Shelf
def cmpI (a b : Int) : Int := if a < b then -1 else if a > b then 1 else 0
def cmpS (a b : ByteArray) : Int := if Op.bytesLess a.toList b.toList = true then -1 else if Op.bytesLess b.toList a.toList = true then 1 else 0
def or3 (a b c : Int) : Int := if a ≠ 0 then a else if b ≠ 0 then b else c
theorem cmpI_tot (a b : Int) : cmp_Compare_int.f a b = some (cmpI a b) := by
  unfold cmp_Compare_int.f cmp_isNaN_int.f cmpI
  simp only [bne_self_eq_false, Option.bind_some, Bool.false_eq_true, if_false]
  repeat' split
  all_goals rfl
theorem cmpI64_tot (a b : Int) : cmp_Compare_int64.f a b = some (cmpI a b) := by
  unfold cmp_Compare_int64.f cmp_isNaN_int64.f cmpI
  simp only [bne_self_eq_false, Option.bind_some, Bool.false_eq_true, if_false]
  repeat' split
  all_goals rfl
theorem cmpS_tot (a b : ByteArray) : cmp_Compare_string.f a b = some (cmpS a b) := by
  unfold cmp_Compare_string.f cmp_isNaN_string.f cmpS
  simp only [bne_self_eq_false, Option.bind_some, Bool.false_eq_true, if_false]
  repeat' split
  all_goals rfl
theorem or3_tot (a b c : Int) : cmp_Or_int.f 5 [a, b, c] = some (or3 a b c) := by
  have r0 : rd [a, b, c] 0 = a := rfl
  have r1 : rd [a, b, c] 1 = b := rfl
  have r2 : rd [a, b, c] 2 = c := rfl
  have w1 : wrap64 (0 + 1) = 1 := by unfold wrap64; omega
  have w1' : wrap64 1 = 1 := by unfold wrap64; omega
  have w2 : wrap64 (1 + 1) = 2 := by unfold wrap64; omega
  have w2' : wrap64 2 = 2 := by unfold wrap64; omega
  have w3 : wrap64 (2 + 1) = 3 := by unfold wrap64; omega
  have w3' : wrap64 3 = 3 := by unfold wrap64; omega
  unfold cmp_Or_int.f or3
  by_cases ha : a = 0
  · by_cases hb : b = 0
    · by_cases hc : c = 0
      · simp [cmp_Or_int.l0, w1', w2', w3', ha, hb, hc]
        simp_all
      · simp [cmp_Or_int.l0, w1', w2', w3', ha, hb]
        simp_all
    · simp [cmp_Or_int.l0, w1', w2', w3', ha, hb]
      simp_all
  · simp [cmp_Or_int.l0, r0, ha]
def firstNZ (st : Nat → Int) (fin : Int) : Nat → Nat → Int
  | 0, _ => fin
  | d + 1, i => if st i ≠ 0 then st i else firstNZ st fin d (i + 1)
theorem firstNZ_succ (st : Nat → Int) (fin : Int) (d i : Nat) : firstNZ st fin (d + 1) i = if st i ≠ 0 then st i else firstNZ st fin d (i + 1) := rfl
def stepC (cp : S25 → S25 → Int) (x y : S25) (i : Nat) : Int := if x.f0 = 6 ∧ cmpS (x.f3.getD i ByteArray.empty) (y.f3.getD i ByteArray.empty) ≠ 0 then cmpS (x.f3.getD i ByteArray.empty) (y.f3.getD i ByteArray.empty) else cp (x.f4.getD i z25) (y.f4.getD i z25)
def cmpF : Nat → S25 → S25 → Int
  | 0, _, _ => 0
  | k + 1, x, y =>
    if or3 (cmpI x.f0 y.f0) (cmpI x.f1 y.f1) (cmpS x.f2 y.f2) ≠ 0 then or3 (cmpI x.f0 y.f0) (cmpI x.f1 y.f1) (cmpS x.f2 y.f2)
    else firstNZ (stepC (cmpF k) x y)
      (cmpI x.f4.length y.f4.length) (min x.f4.length y.f4.length) 0
theorem lift_cmp {x y : S25} {k m : Nat} {r : Int} (h : order_compare.f k x.f0 x.f1 x.f2 x.f3 x.f4 y.f0 y.f1 y.f2 y.f3 y.f4 = some r) (hk : k ≤ m) : order_compare.f m x.f0 x.f1 x.f2 x.f3 x.f4 y.f0 y.f1 y.f2 y.f3 y.f4 = some r :=
  le_lift (F := fun k => order_compare.f k x.f0 x.f1 x.f2 x.f3 x.f4 y.f0 y.f1 y.f2 y.f3 y.f4) (fun k => order_compare.mono _ _ _ _ _ _ _ _ _ _ k) h hk
theorem cmp_l0 (k : Nat) (x y : S25) (h6 : x.f0 = 6 → x.f3.length = x.f4.length ∧ y.f3.length = y.f4.length) (hb : x.f4.length ≤ 1000)
    (hx : ∀ i, i < x.f4.length → i < y.f4.length → ∃ m, order_compare.f m (x.f4.getD i z25).f0 (x.f4.getD i z25).f1 (x.f4.getD i z25).f2 (x.f4.getD i z25).f3 (x.f4.getD i z25).f4 (y.f4.getD i z25).f0 (y.f4.getD i z25).f1 (y.f4.getD i z25).f2 (y.f4.getD i z25).f3 (y.f4.getD i z25).f4 = some (cmpF k (x.f4.getD i z25) (y.f4.getD i z25))) :
    ∀ d i : Nat, i + d = min x.f4.length y.f4.length → ∃ m, order_compare.l0 m (min x.f4.length y.f4.length : Nat) (i : Int) x.f0 x.f1 x.f2 x.f3 x.f4 y.f0 y.f1 y.f2 y.f3 y.f4 = some (firstNZ (stepC (cmpF k) x y) (cmpI x.f4.length y.f4.length) d i)
  | 0, i, h => ⟨1, by unfold order_compare.l0 firstNZ; rw [if_neg (by omega), cmpI_tot]; rfl⟩
  | d + 1, i, h => by
    have hi1 : i < x.f4.length := by omega
    have hi2 : i < y.f4.length := by omega
    obtain ⟨m1, e1⟩ := hx i hi1 hi2
    obtain ⟨m2, e2⟩ := cmp_l0 k x y h6 hb hx d (i + 1) (by omega)
    have w3 : wrap64 ((i : Int) + 1) = ((i + 1 : Nat) : Int) := by unfold wrap64; omega
    refine ⟨max m1 m2 + 2, ?_⟩
    have hl0 : order_compare.l0 (max m1 m2) (min x.f4.length y.f4.length : Nat) ((i + 1 : Nat) : Int) x.f0 x.f1 x.f2 x.f3 x.f4 y.f0 y.f1 y.f2 y.f3 y.f4 = _ := le_lift (F := fun k => order_compare.l0 k (min x.f4.length y.f4.length : Nat) ((i + 1 : Nat) : Int) x.f0 x.f1 x.f2 x.f3 x.f4 y.f0 y.f1 y.f2 y.f3 y.f4) (fun k => (order_compare.mono_l k).2.1 _ _ _ _ _ _ _ _ _ _ _ _) e2 (Nat.le_max_right m1 m2)
    have hf : order_compare.f (max m1 m2) (rd_T25 x.f4 i).f0 (rd_T25 x.f4 i).f1 (rd_T25 x.f4 i).f2 (rd_T25 x.f4 i).f3 (rd_T25 x.f4 i).f4 (rd_T25 y.f4 i).f0 (rd_T25 y.f4 i).f1 (rd_T25 y.f4 i).f2 (rd_T25 y.f4 i).f3 (rd_T25 y.f4 i).f4 = some (cmpF k (x.f4.getD i z25) (y.f4.getD i z25)) := lift_cmp e1 (Nat.le_max_left m1 m2)
    have hj : ∀ c : Int, order_compare.j1 (max m1 m2 + 1) (i : Int) c (min x.f4.length y.f4.length : Nat) (i : Int) x.f0 x.f1 x.f2 x.f3 x.f4 y.f0 y.f1 y.f2 y.f3 y.f4 = some (if c ≠ 0 then c else if cmpF k (x.f4.getD i z25) (y.f4.getD i z25) ≠ 0 then cmpF k (x.f4.getD i z25) (y.f4.getD i z25) else (firstNZ (stepC (cmpF k) x y) (cmpI x.f4.length y.f4.length) d (i + 1))) := by
      intro c
      unfold order_compare.j1
      by_cases hc : c = 0
      · rw [if_pos hc, if_pos (by omega), if_pos (by omega), if_pos (by omega), hf, Option.bind_some, w3, hl0]
        by_cases h0 : cmpF k (x.f4.getD i z25) (y.f4.getD i z25) = 0
        · rw [if_pos h0, if_neg (show ¬ c ≠ 0 from fun e => e hc), if_neg (fun e => e h0)]
        · rw [if_neg h0, if_neg (show ¬ c ≠ 0 from fun e => e hc), if_pos h0]
      · rw [if_neg hc, if_pos hc]
    unfold order_compare.l0
    rw [if_pos (by omega)]
    rw [firstNZ_succ]
    have hst : stepC (cmpF k) x y i = if x.f0 = 6 ∧ cmpS (x.f3.getD i ByteArray.empty) (y.f3.getD i ByteArray.empty) ≠ 0 then cmpS (x.f3.getD i ByteArray.empty) (y.f3.getD i ByteArray.empty) else cmpF k (x.f4.getD i z25) (y.f4.getD i z25) := rfl
    rw [hst]
    clear hst
    by_cases hk6 : x.f0 = 6
    · obtain ⟨n1, n2⟩ := h6 hk6
      rw [if_pos hk6, if_pos (by omega), if_pos (by omega), if_pos (by omega), cmpS_tot, Option.bind_some, hj]
      have q1 : rdOf ByteArray.empty x.f3 (i : Int) = x.f3.getD i ByteArray.empty := rfl
      have q2 : rdOf ByteArray.empty y.f3 (i : Int) = y.f3.getD i ByteArray.empty := rfl
      rw [q1, q2]
      generalize cmpS (x.f3.getD i ByteArray.empty) (y.f3.getD i ByteArray.empty) = c
      generalize cmpF k (x.f4.getD i z25) (y.f4.getD i z25) = q
      by_cases hc : c = 0
      · rw [if_neg (show ¬ c ≠ 0 from fun e => e hc), if_neg (show ¬ (x.f0 = 6 ∧ c ≠ 0) from fun e => e.2 hc)]
      · rw [if_pos hc, if_pos (show x.f0 = 6 ∧ c ≠ 0 from ⟨hk6, hc⟩), if_pos hc]
    · rw [if_neg hk6, hj]
      rw [if_neg (show ¬ (0 : Int) ≠ 0 from fun e => e rfl), if_neg (show ¬ (x.f0 = 6 ∧ _) from fun e => hk6 e.1)]
theorem cmp_tot : ∀ (k : Nat) (x y : S25), formedJ k x = true → formedJ k y = true → ∃ m, order_compare.f m x.f0 x.f1 x.f2 x.f3 x.f4 y.f0 y.f1 y.f2 y.f3 y.f4 = some (cmpF k x y)
  | 0, x, y, h, _ => by unfold formedJ at h; cases h
  | k + 1, x, y, h, h' => by
    by_cases hc : or3 (cmpI x.f0 y.f0) (cmpI x.f1 y.f1) (cmpS x.f2 y.f2) = 0
    · have he : x.f0 = y.f0 := by
        unfold or3 at hc
        have : cmpI x.f0 y.f0 = 0 := by
          by_cases e : cmpI x.f0 y.f0 = 0
          · exact e
          · rw [if_pos e] at hc; exact absurd hc e
        unfold cmpI at this
        split at this
        · cases this
        · split at this
          · cases this
          · omega
      obtain ⟨p1, p2, p3, _⟩ := formed_parts h
      obtain ⟨q1, q2, q3, _⟩ := formed_parts h'
      obtain ⟨m, e⟩ := cmp_l0 k x y (fun h6 => ⟨names_items h h6, names_items h' (he ▸ h6)⟩) (by omega) (fun i hi1 hi2 => by
        refine cmp_tot k _ _ ?_ ?_
        · rw [List.getD_eq_getElem?_getD, List.getElem?_eq_getElem hi1]; exact p3 _ (List.getElem_mem hi1)
        · rw [List.getD_eq_getElem?_getD, List.getElem?_eq_getElem hi2]; exact q3 _ (List.getElem_mem hi2)) (min x.f4.length y.f4.length) 0 (by omega)
      refine ⟨max m 5 + 1, ?_⟩
      unfold order_compare.f cmpF
      rw [cmpI_tot, Option.bind_some, cmpI64_tot, Option.bind_some, cmpS_tot, Option.bind_some, le_lift (F := fun k => cmp_Or_int.f k _) (fun k => cmp_Or_int.mono _ k) (or3_tot _ _ _) (Nat.le_max_right m 5), Option.bind_some, if_pos hc, if_neg (by simpa using hc)]
      have hm : mn (x.f4.length : Int) (y.f4.length : Int) = ((min x.f4.length y.f4.length : Nat) : Int) := by unfold mn; split <;> omega
      rw [hm]
      exact le_lift (F := fun k => order_compare.l0 k _ _ _ _ _ _ _ _ _ _ _ _) (fun k => (order_compare.mono_l k).2.1 _ _ _ _ _ _ _ _ _ _ _ _) e (Nat.le_max_left m 5)
    · refine ⟨6, ?_⟩
      unfold order_compare.f cmpF
      rw [cmpI_tot, Option.bind_some, cmpI64_tot, Option.bind_some, cmpS_tot, Option.bind_some, or3_tot, Option.bind_some, if_neg hc, if_pos hc]
end Go.Proofs.YtehdnjegipcpfaaDoor
namespace Go.Proofs.YtehdnjegipcpfaaDoor
open Go.RowKit Go.Proofs.YtehdnjegipcpfaaDoorW.PrintWords Go.Proofs.YtehdnjegipcpfaaDoorW.PrintLast Go.Proofs.YtehdnjegipcpfaaDoorW.PrintMore
open PFilterHolds Go.Shelf
theorem compare_any (k : Nat) (x y : S25) (hx : formedJ k x = true) (hy : formedJ k y = true) (A3 : Option Addr) (c3 : Nat) (A4 : Option Addr) (c4 : Nat) (B3 : Option Addr) (d3 : Nat) (B4 : Option Addr) (d4 : Nat) (w : World) (h : Rd w A3 c3 A4 c4 x) (h' : Rd w B3 d3 B4 d4 y) :
    Calls Tryd.prog 138 #[av x A3 c3 A4 c4, av y B3 d3 B4 d4] w fun e w' => e = .returned (.int .i64 (cmpF k x y)) ∧ Below w.heap.size w w' := by
  obtain ⟨m, e⟩ := cmp_tot k x y hx hy
  exact order_compare.calls m x.f0 x.f1 x.f2 A3 c3 x.f3 A4 c4 x.f4 y.f0 y.f1 y.f2 B3 d3 y.f3 B4 d4 y.f4 (cmpF k x y) w h.g3 h.l3 h.g4 h.l4 h'.g3 h'.l3 h'.g4 h'.l4 e
set_option maxHeartbeats 2000000 in
theorem Compare_any (x y : S25) (hx : fmJ x = true) (hy : fmJ y = true) (A3 : Option Addr) (c3 : Nat) (A4 : Option Addr) (c4 : Nat) (B3 : Option Addr) (d3 : Nat) (B4 : Option Addr) (d4 : Nat) (w : World) (h : Rd w A3 c3 A4 c4 x) (h' : Rd w B3 d3 B4 d4 y) (hT : Tabs w) :
    Calls Tryd.prog 114 #[av x A3 c3 A4 c4, av y B3 d3 B4 d4] w fun e w' => e = .returned (.int .i64 (cmpF 6 x y)) ∧ Below w.heap.size w w' := by
  have hb0 := two_boxes w (.cells #[.int .i64 x.f0, .int .i64 x.f1, .string x.f2, .slice A3 x.f3.length c3, .slice A4 x.f4.length c4] 25) (.cells #[.int .i64 y.f0, .int .i64 y.f1, .string y.f2, .slice B3 y.f3.length d3, .slice B4 y.f4.length d4] 25)
  have hk0 := two_boxes_0 w (.cells #[.int .i64 x.f0, .int .i64 x.f1, .string x.f2, .slice A3 x.f3.length c3, .slice A4 x.f4.length c4] 25) (.cells #[.int .i64 y.f0, .int .i64 y.f1, .string y.f2, .slice B3 y.f3.length d3, .slice B4 y.f4.length d4] 25)
  have hk1 := two_boxes_1 w (.cells #[.int .i64 x.f0, .int .i64 x.f1, .string x.f2, .slice A3 x.f3.length c3, .slice A4 x.f4.length c4] 25) (.cells #[.int .i64 y.f0, .int .i64 y.f1, .string y.f2, .slice B3 y.f3.length d3, .slice B4 y.f4.length d4] 25)
  have hX := Formed_any x A3 c3 A4 c4 _ (h.below hb0) (hT.below hb0)
  have hY := fun W (hb : Below w.heap.size w W) => Formed_any y B3 d3 B4 d4 W (h'.below hb) (hT.below hb)
  have hC := fun W (hb : Below w.heap.size w W) => compare_any 6 x y hx hy A3 c3 A4 c4 B3 d3 B4 d4 W (h.below hb) (h'.below hb)
  rw [hx] at hX
  rw [hy] at hY
  generalize cmpF 6 x y = r at hC ⊢
  obtain ⟨x0, x1, x2, x3, x4⟩ := x
  obtain ⟨y0, y1, y2, y3, y4⟩ := y
  have HB0 := Lib.hid hb0; clear hb0
  have HK0 := Lib.hid hk0; clear hk0
  have HK1 := Lib.hid hk1; clear hk1
  have HY := Lib.hid hY; clear hY
  have HC := Lib.hid hC; clear hC
  clear h h' hT hx hy
  go_enter Tryd.func114, Tryd.ntmps114
  go_wp2_with fail
  refine hX.mono ?_; rintro e w1 ⟨rfl, hb⟩
  have k0 := blk_below HK0.out hb
  have k1 := blk_below HK1.out hb
  have hB1 := HB0.out.trans (hb.mono HB0.out.size)
  have hY := HY.out w1 hB1
  have HB1 := Lib.hid hB1
  clear hb hB1 hX HY HB0 HK0 HK1
  have f0 : w1.cell? ⟨w.heap.size + 1, 0, none⟩ = some (.int .i64 y0) := (blk_cell k1 0).trans rfl
  have f1 : w1.cell? ⟨w.heap.size + 1, 1, none⟩ = some (.int .i64 y1) := (blk_cell k1 1).trans rfl
  have f2 : w1.cell? ⟨w.heap.size + 1, 2, none⟩ = some (.string y2) := (blk_cell k1 2).trans rfl
  have f3 : w1.cell? ⟨w.heap.size + 1, 3, none⟩ = some (.slice B3 y3.length d3) := (blk_cell k1 3).trans rfl
  have f4 : w1.cell? ⟨w.heap.size + 1, 4, none⟩ = some (.slice B4 y4.length d4) := (blk_cell k1 4).trans rfl
  have HK0 := Lib.hid k0; clear k0
  have HK1 := Lib.hid k1; clear k1
  go_wp2_with fail
  refine hY.mono ?_; rintro e w2 ⟨rfl, hb⟩
  have k0 := blk_below HK0.out hb
  have k1 := blk_below HK1.out hb
  have hB2 := HB1.out.trans (hb.mono HB1.out.size)
  have hC := HC.out w2 hB2
  have HB2 := Lib.hid hB2
  clear hb hB2 hY HC HB1 HK0 HK1 f0 f1 f2 f3 f4
  have g0 : w2.cell? ⟨w.heap.size, 0, none⟩ = some (.int .i64 x0) := (blk_cell k0 0).trans rfl
  have g1 : w2.cell? ⟨w.heap.size, 1, none⟩ = some (.int .i64 x1) := (blk_cell k0 1).trans rfl
  have g2 : w2.cell? ⟨w.heap.size, 2, none⟩ = some (.string x2) := (blk_cell k0 2).trans rfl
  have g3 : w2.cell? ⟨w.heap.size, 3, none⟩ = some (.slice A3 x3.length c3) := (blk_cell k0 3).trans rfl
  have g4 : w2.cell? ⟨w.heap.size, 4, none⟩ = some (.slice A4 x4.length c4) := (blk_cell k0 4).trans rfl
  have f0 : w2.cell? ⟨w.heap.size + 1, 0, none⟩ = some (.int .i64 y0) := (blk_cell k1 0).trans rfl
  have f1 : w2.cell? ⟨w.heap.size + 1, 1, none⟩ = some (.int .i64 y1) := (blk_cell k1 1).trans rfl
  have f2 : w2.cell? ⟨w.heap.size + 1, 2, none⟩ = some (.string y2) := (blk_cell k1 2).trans rfl
  have f3 : w2.cell? ⟨w.heap.size + 1, 3, none⟩ = some (.slice B3 y3.length d3) := (blk_cell k1 3).trans rfl
  have f4 : w2.cell? ⟨w.heap.size + 1, 4, none⟩ = some (.slice B4 y4.length d4) := (blk_cell k1 4).trans rfl
  clear k0 k1
  go_wp2_with fail
  refine hC.mono ?_; rintro e w3 ⟨rfl, hb⟩
  have HB3 := Lib.hid hb; clear hb hC f0 f1 f2 f3 f4 g0 g1 g2 g3 g4
  go_wp2_with fail
  go_ret
  exact ⟨rfl, HB2.out.trans (HB3.out.mono HB2.out.size)⟩
end Go.Proofs.YtehdnjegipcpfaaDoor
namespace Go.Proofs.YtehdnjegipcpfaaDoor
open Go.RowKit Go.Proofs.YtehdnjegipcpfaaDoorW.PrintWords Go.Proofs.YtehdnjegipcpfaaDoorW.PrintLast Go.Proofs.YtehdnjegipcpfaaDoorW.PrintMore
open PFilterHolds Go.Shelf
def top (i : Nat) : Int := if i = 0 then 0 else if i = 1 then 9 else if i = 2 then 99 else if i = 3 then 999 else 9999
theorem number_l0 (s : ByteArray) (hs : s.size ≤ 4) : ∀ (d i : Nat) (n : Int), i + d = s.size → 0 ≤ n → n ≤ top i → ∃ r, path_number.l0 (d + 1) s n (i : Int) = some r ∧ -1 ≤ r
  | 0, i, n, h, h0, h1 => ⟨n, by unfold path_number.l0; rw [if_neg (by omega)], by omega⟩
  | d + 1, i, n, h, h0, h1 => by
    unfold path_number.l0
    rw [if_pos (by omega), if_pos (by omega)]
    by_cases c1 : bt s (i : Int) < 48
    · rw [if_pos c1]; exact ⟨-1, rfl, by omega⟩
    rw [if_neg c1]
    by_cases c2 : bt s (i : Int) > 57
    · rw [if_pos c2]; exact ⟨-1, rfl, by omega⟩
    rw [if_neg c2]
    have ht : top i * 10 + 9 = top (i + 1) ∧ top i ≤ 999 := by
      have hi : i = 0 ∨ i = 1 ∨ i = 2 ∨ i = 3 := by omega
      rcases hi with rfl | rfl | rfl | rfl <;> decide
    have e : wrap64 (wrap64 (n * 10) + (bt s (i : Int) - 48) % 256) = n * 10 + (bt s (i : Int) - 48) := by unfold wrap64; omega
    have w3 : wrap64 ((i : Int) + 1) = ((i + 1 : Nat) : Int) := by unfold wrap64; omega
    rw [e, w3]
    exact number_l0 s hs d (i + 1) _ (by omega) (by omega) (by omega)
theorem number_j0 (k : Nat) (s : ByteArray) (b : Bool) : path_number.j0 (k + 1) s b = if b = true then some (-1) else path_number.l0 k s 0 0 := by unfold path_number.j0; rfl
theorem place_j0 (k : Nat) (s : ByteArray) (x : S25) : path_place.j0 (k + 1) s x.f0 x.f1 x.f2 x.f3 x.f4 = if x.f0 = 6 then path_place.l0 k s 0 x.f0 x.f1 x.f2 x.f3 x.f4 else some (-1) := by unfold path_place.j0; rfl
theorem number_tot (s : ByteArray) : ∃ r, path_number.f 6 s = some r ∧ -1 ≤ r := by
  unfold path_number.f
  have hj : path_number.j0 6 s true = some (-1) := by rw [number_j0 5, if_pos rfl]
  by_cases h0 : (s.size : Int) = 0
  · rw [if_pos h0, hj]; exact ⟨-1, rfl, by omega⟩
  rw [if_neg h0]
  by_cases h4 : (s.size : Int) > 4
  · rw [if_pos h4, hj]; exact ⟨-1, rfl, by omega⟩
  rw [if_neg h4]
  obtain ⟨r, e, hr⟩ := number_l0 s (by omega) s.size 0 0 (by omega) (by omega) (by unfold top; simp)
  have hl : path_number.l0 5 s 0 0 = some r := le_lift (F := fun k => path_number.l0 k s 0 0) (fun k => (path_number.mono_l k).2 _ _ _) e (by omega)
  have hf : path_number.j0 6 s false = some r := by rw [number_j0 5, if_neg (by simp)]; exact hl
  by_cases h1 : (s.size : Int) > 1
  · rw [if_pos h1, if_pos (by omega)]
    cases hb : bt s 0 == 48 with
    | true => rw [hj]; exact ⟨-1, rfl, by omega⟩
    | false => rw [hf]; exact ⟨r, rfl, hr⟩
  · rw [if_neg h1, hf]; exact ⟨r, rfl, hr⟩
def numJ (s : ByteArray) : Int := (path_number.f 6 s).getD (-1)
theorem numJ_tot (s : ByteArray) : path_number.f 6 s = some (numJ s) ∧ -1 ≤ numJ s := by
  obtain ⟨r, e, h⟩ := number_tot s
  unfold numJ
  rw [e]
  exact ⟨rfl, h⟩
def nameAt (s : ByteArray) (l : List ByteArray) : Nat → Nat → Int
  | 0, _ => -1
  | d + 1, i => if (l.getD i ByteArray.empty).toList = s.toList then i else nameAt s l d (i + 1)
def placeJ (x : S25) (s : ByteArray) : Int :=
  if x.f0 = 5 then (if numJ s < x.f4.length then numJ s else -1) else if x.f0 = 6 then nameAt s x.f3 x.f3.length 0 else -1
theorem place_l0 (x : S25) (s : ByteArray) (hb : x.f3.length ≤ 1000) : ∀ d i : Nat, i + d = x.f3.length → path_place.l0 (d + 1) s (i : Int) x.f0 x.f1 x.f2 x.f3 x.f4 = some (nameAt s x.f3 d i)
  | 0, i, h => by unfold path_place.l0 nameAt; rw [if_neg (by omega)]
  | d + 1, i, h => by
    have w3 : wrap64 ((i : Int) + 1) = ((i + 1 : Nat) : Int) := by unfold wrap64; omega
    unfold path_place.l0 nameAt
    rw [if_pos (by omega), if_pos (by omega), w3, place_l0 x s hb d (i + 1) (by omega)]
    have e : rdOf ByteArray.empty x.f3 (i : Int) = x.f3.getD i ByteArray.empty := rfl
    rw [e]
    split <;> rfl
theorem place_tot (x : S25) (s : ByteArray) (hb : x.f3.length ≤ 1000) : ∃ m, path_place.f m x.f0 x.f1 x.f2 x.f3 x.f4 s = some (placeJ x s) := by
  refine ⟨x.f3.length + 6, ?_⟩
  have hn : path_number.f (x.f3.length + 6) s = some (numJ s) := le_lift (F := fun k => path_number.f k s) (fun k => path_number.mono s k) (numJ_tot s).1 (by omega)
  have hj : path_place.j0 (x.f3.length + 6) s x.f0 x.f1 x.f2 x.f3 x.f4 = some (if x.f0 = 6 then nameAt s x.f3 x.f3.length 0 else -1) := by
    rw [place_j0 (x.f3.length + 5)]
    by_cases h6 : x.f0 = 6
    · rw [if_pos h6, if_pos h6]
      exact le_lift (F := fun k => path_place.l0 k s 0 x.f0 x.f1 x.f2 x.f3 x.f4) (fun k => (path_place.mono_l k).2 _ _ _ _ _ _ _) (by simpa using place_l0 x s hb x.f3.length 0 (by omega)) (by omega)
    · rw [if_neg h6, if_neg h6]
  unfold path_place.f placeJ
  by_cases h5 : x.f0 = 5
  · rw [if_pos h5, if_pos h5, hn, Option.bind_some]
    by_cases hl : numJ s < x.f4.length
    · rw [if_pos hl, if_pos hl]
    · rw [if_neg hl, if_neg hl, hj, if_neg (by omega)]
  · rw [if_neg h5, if_neg h5, hj]
theorem place_any (x : S25) (s : ByteArray) (hb : x.f3.length ≤ 1000) (A3 : Option Addr) (c3 : Nat) (A4 : Option Addr) (c4 : Nat) (w : World) (h : Rd w A3 c3 A4 c4 x) :
    Calls Tryd.prog 116 #[av x A3 c3 A4 c4, .string s] w fun e w' => e = .returned (.int .i64 (placeJ x s)) ∧ Below w.heap.size w w' := by
  obtain ⟨m, e⟩ := place_tot x s hb
  exact path_place.calls m x.f0 x.f1 x.f2 A3 c3 x.f3 A4 c4 x.f4 s (placeJ x s) w h.g3 h.l3 h.g4 h.l4 e
end Go.Proofs.YtehdnjegipcpfaaDoor
