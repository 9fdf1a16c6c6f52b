/-
  The order of values is a total order, at formed values; in plain Lean.
  The contracts of answer.compare, Less, Run's closure and document; under utf8's tables.
  The contracts of answer.Less, of Run's closure and of answer.document; under utf8's tables.
  The ids seen so far: a map of texts to bools in a block of the call's own.
-/
import Derived.Test.YtehdnjegipcpfaaDoorAns3
import Derived.Sort.Walk0
import Derived.Maps.OwnSet
namespace Go.Proofs.YtehdnjegipcpfaaDoor
open Go.RowKit Go.Proofs.YtehdnjegipcpfaaDoorW.PrintWords Go.Proofs.YtehdnjegipcpfaaDoorW.PrintLast Go.Proofs.YtehdnjegipcpfaaDoorW.PrintMore
open PFilterHolds Go.Shelf
theorem cmpI_neg (a b : Int) : cmpI b a = - cmpI a b := by
  unfold cmpI
  repeat' split
  all_goals omega
theorem cmpI_le (a b : Int) : cmpI a b ≤ 0 ↔ a ≤ b := by
  unfold cmpI
  split
  · constructor <;> intro h <;> omega
  · split
    · constructor <;> intro h <;> omega
    · constructor <;> intro h <;> omega
theorem less_asymm (a b : List UInt8) (h : Op.bytesLess a b = true) : Op.bytesLess b a = false := by
  rw [bytesLess_eq] at h ⊢
  have h := of_decide_eq_true h
  exact decide_eq_false (fun h' => by
    have := less_irrefl a
    rw [bytesLess_eq] at this
    exact (of_decide_eq_false this) (List.lt_trans h h'))
theorem cmpS_neg (a b : ByteArray) : cmpS b a = - cmpS a b := by
  unfold cmpS
  cases h1 : Op.bytesLess a.toList b.toList with
  | true =>
    rw [less_asymm _ _ h1]
    rfl
  | false =>
    cases h2 : Op.bytesLess b.toList a.toList with
    | true => rfl
    | false => rfl
theorem cmpS_le (a b : ByteArray) : cmpS a b ≤ 0 ↔ Op.bytesLess b.toList a.toList = false := by
  unfold cmpS
  cases h1 : Op.bytesLess a.toList b.toList with
  | true => simp [less_asymm _ _ h1]
  | false =>
    cases h2 : Op.bytesLess b.toList a.toList with
    | true => simp
    | false => simp
theorem cmpS_trans (a b c : ByteArray) (h1 : cmpS a b ≤ 0) (h2 : cmpS b c ≤ 0) : cmpS a c ≤ 0 := by
  rw [cmpS_le] at h1 h2 ⊢
  cases h3 : Op.bytesLess c.toList a.toList with
  | false => rfl
  | true =>
    exfalso
    cases h4 : Op.bytesLess c.toList b.toList with
    | true => rw [h4] at h2; cases h2
    | false =>
      cases h5 : Op.bytesLess b.toList c.toList with
      | false =>
        have e := less_tri _ _ h5 h4
        rw [e] at h1
        rw [h1] at h3
        cases h3
      | true =>
        have h6 : Op.bytesLess b.toList a.toList = true := by
          rw [bytesLess_eq] at h3 h5 ⊢
          exact decide_eq_true (List.lt_trans (of_decide_eq_true h5) (of_decide_eq_true h3))
        rw [h6] at h1
        cases h1
def lex (a b : Int) : Int := if a ≠ 0 then a else b
theorem lex_neg (a b : Int) : lex (-a) (-b) = - lex a b := by
  unfold lex
  by_cases h : a = 0
  · rw [if_neg (by omega), if_neg (by omega)]
  · rw [if_pos (by omega), if_pos h]
theorem or3_lex (a b c : Int) : or3 a b c = lex a (lex b c) := rfl
theorem lex_trans {axy ayz axz ayx azy azx bxy byz bxz : Int} (n1 : ayx = -axy) (n2 : azy = -ayz) (n3 : azx = -axz)
    (t1 : axy ≤ 0 → ayz ≤ 0 → axz ≤ 0) (t2 : ayz ≤ 0 → azx ≤ 0 → ayx ≤ 0) (t3 : azx ≤ 0 → axy ≤ 0 → azy ≤ 0)
    (t4 : axy = 0 → ayz = 0 → axz = 0 → bxy ≤ 0 → byz ≤ 0 → bxz ≤ 0)
    (h1 : lex axy bxy ≤ 0) (h2 : lex ayz byz ≤ 0) : lex axz bxz ≤ 0 := by
  unfold lex at h1 h2 ⊢
  have ha : axy ≤ 0 := by
    by_cases h : axy = 0
    · omega
    · rw [if_pos h] at h1; exact h1
  have hb : ayz ≤ 0 := by
    by_cases h : ayz = 0
    · omega
    · rw [if_pos h] at h2; exact h2
  have hc := t1 ha hb
  by_cases h : axz = 0
  · have e1 := t2 hb (by omega)
    have e2 := t3 (by omega) ha
    have z1 : axy = 0 := by omega
    have z2 : ayz = 0 := by omega
    rw [if_neg (fun e => e h)]
    rw [if_neg (fun e => e z1)] at h1
    rw [if_neg (fun e => e z2)] at h2
    exact t4 z1 z2 h h1 h2
  · rw [if_pos h]; exact hc
theorem itm_formed {k : Nat} {x : S25} (h : formedJ (k + 1) x = true) {i : Nat} (hi : i < x.f4.length) : formedJ k (x.f4.getD i z25) = true := by
  rw [List.getD_eq_getElem?_getD, List.getElem?_eq_getElem hi]
  exact (formed_parts h).2.2.1 _ (List.getElem_mem hi)
theorem firstNZ_neg (st st' : Nat → Int) (f f' : Int) (hf : f' = -f) : ∀ d i, (∀ j, i ≤ j → j < i + d → st' j = - st j) → firstNZ st' f' d i = - firstNZ st f d i
  | 0, i, _ => hf
  | d + 1, i, h => by
    rw [firstNZ_succ, firstNZ_succ, h i (Nat.le_refl _) (by omega), firstNZ_neg st st' f f' hf d (i + 1) (fun j h1 h2 => h j (by omega) (by omega))]
    by_cases c : st i = 0
    · rw [if_neg (by omega), if_neg (by omega)]
    · rw [if_pos (by omega), if_pos c]
theorem stepC_lex (cp : S25 → S25 → Int) (x y : S25) (i : Nat) : stepC cp x y i = lex (if x.f0 = 6 then cmpS (x.f3.getD i ByteArray.empty) (y.f3.getD i ByteArray.empty) else 0) (cp (x.f4.getD i z25) (y.f4.getD i z25)) := by
  unfold stepC lex
  by_cases h : x.f0 = 6
  · by_cases c : cmpS (x.f3.getD i ByteArray.empty) (y.f3.getD i ByteArray.empty) = 0
    · rw [if_neg (fun e => e.2 c), if_pos h, if_neg (fun e => e c)]
    · rw [if_pos ⟨h, c⟩, if_pos h, if_pos c]
  · rw [if_neg (fun e => h e.1), if_neg h, if_neg (fun e => e rfl)]
theorem cmpF_lex (k : Nat) (x y : S25) : cmpF (k + 1) x y = lex (lex (cmpI x.f0 y.f0) (lex (cmpI x.f1 y.f1) (cmpS x.f2 y.f2))) (firstNZ (stepC (cmpF k) x y) (cmpI x.f4.length y.f4.length) (min x.f4.length y.f4.length) 0) := by
  rw [cmpF_succ, or3_lex]
  rfl
theorem lex_zero {a b : Int} : lex a b = 0 ↔ a = 0 ∧ b = 0 := by
  unfold lex
  by_cases h : a = 0
  · simp [h]
  · simp [h]
theorem cmpF_neg : ∀ (k : Nat) (x y : S25), formedJ k x = true → formedJ k y = true → cmpF k y x = - cmpF k x y
  | 0, x, y, h, _ => by unfold formedJ at h; cases h
  | k + 1, x, y, hx, hy => by
    rw [cmpF_lex, cmpF_lex, cmpI_neg x.f0 y.f0, cmpI_neg x.f1 y.f1, cmpS_neg x.f2 y.f2, lex_neg, lex_neg]
    by_cases h0 : lex (cmpI x.f0 y.f0) (lex (cmpI x.f1 y.f1) (cmpS x.f2 y.f2)) = 0
    · have e0 : x.f0 = y.f0 := (cmpI_zero _ _).1 (lex_zero.1 h0).1
      rw [h0]
      unfold lex
      rw [if_neg (by simp), if_neg (by simp), Nat.min_comm]
      refine firstNZ_neg _ _ _ _ (cmpI_neg _ _) _ _ (fun j _ hj => ?_)
      rw [stepC_lex, stepC_lex, ← lex_neg, cmpF_neg k (x.f4.getD j z25) (y.f4.getD j z25) (itm_formed hx (by omega)) (itm_formed hy (by omega)), ← e0]
      by_cases h6 : x.f0 = 6
      · rw [if_pos h6, if_pos h6, cmpS_neg]
      · rw [if_neg h6, if_neg h6]; rfl
    · unfold lex at h0 ⊢
      rw [if_pos (by omega), if_pos h0]
def fromN (k : Nat) (x y : S25) (i : Nat) : Int := firstNZ (stepC (cmpF k) x y) (cmpI x.f4.length y.f4.length) (min x.f4.length y.f4.length - i) i
theorem fromN_end (k : Nat) (x y : S25) (i : Nat) (h : min x.f4.length y.f4.length ≤ i) : fromN k x y i = cmpI x.f4.length y.f4.length := by
  unfold fromN
  rw [Nat.sub_eq_zero_of_le h]
  rfl
theorem fromN_step (k : Nat) (x y : S25) (i : Nat) (h1 : i < x.f4.length) (h2 : i < y.f4.length) : fromN k x y i = lex (stepC (cmpF k) x y i) (fromN k x y (i + 1)) := by
  unfold fromN
  rw [show min x.f4.length y.f4.length - i = (min x.f4.length y.f4.length - (i + 1)) + 1 by omega, firstNZ_succ]
  rfl
theorem stepC_neg (k : Nat) (x y : S25) (hx : formedJ (k + 1) x = true) (hy : formedJ (k + 1) y = true) (h0 : x.f0 = y.f0) (i : Nat) (h1 : i < x.f4.length) (h2 : i < y.f4.length) : stepC (cmpF k) y x i = - stepC (cmpF k) x y i := by
  rw [stepC_lex, stepC_lex, ← lex_neg, cmpF_neg k (x.f4.getD i z25) (y.f4.getD i z25) (itm_formed hx h1) (itm_formed hy h2), ← h0]
  by_cases h6 : x.f0 = 6
  · rw [if_pos h6, if_pos h6, cmpS_neg]
  · rw [if_neg h6, if_neg h6]; rfl
theorem cmpF_trans : ∀ (k : Nat) (x y z : S25), formedJ k x = true → formedJ k y = true → formedJ k z = true → cmpF k x y ≤ 0 → cmpF k y z ≤ 0 → cmpF k x z ≤ 0
  | 0, x, _, _, h, _, _, _, _ => by unfold formedJ at h; cases h
  | k + 1, x, y, z, hx, hy, hz, h1, h2 => by
    have ti : ∀ a b c : Int, cmpI a b ≤ 0 → cmpI b c ≤ 0 → cmpI a c ≤ 0 := fun a b c e1 e2 => by
      rw [cmpI_le] at e1 e2 ⊢; omega
    have t3 : ∀ a b c : S25, lex (cmpI a.f1 b.f1) (cmpS a.f2 b.f2) ≤ 0 → lex (cmpI b.f1 c.f1) (cmpS b.f2 c.f2) ≤ 0 → lex (cmpI a.f1 c.f1) (cmpS a.f2 c.f2) ≤ 0 := fun a b c e1 e2 =>
      lex_trans (cmpI_neg _ _) (cmpI_neg _ _) (cmpI_neg _ _) (ti _ _ _) (ti _ _ _) (ti _ _ _) (fun _ _ _ => cmpS_trans _ _ _) e1 e2
    have n3 : ∀ a b : S25, lex (cmpI b.f1 a.f1) (cmpS b.f2 a.f2) = - lex (cmpI a.f1 b.f1) (cmpS a.f2 b.f2) := fun a b => by
      rw [cmpI_neg a.f1 b.f1, cmpS_neg a.f2 b.f2, lex_neg]
    have th : ∀ a b c : S25, lex (cmpI a.f0 b.f0) (lex (cmpI a.f1 b.f1) (cmpS a.f2 b.f2)) ≤ 0 → lex (cmpI b.f0 c.f0) (lex (cmpI b.f1 c.f1) (cmpS b.f2 c.f2)) ≤ 0 → lex (cmpI a.f0 c.f0) (lex (cmpI a.f1 c.f1) (cmpS a.f2 c.f2)) ≤ 0 := fun a b c e1 e2 =>
      lex_trans (cmpI_neg _ _) (cmpI_neg _ _) (cmpI_neg _ _) (ti _ _ _) (ti _ _ _) (ti _ _ _) (fun _ _ _ => t3 a b c) e1 e2
    have nh : ∀ a b : S25, lex (cmpI b.f0 a.f0) (lex (cmpI b.f1 a.f1) (cmpS b.f2 a.f2)) = - lex (cmpI a.f0 b.f0) (lex (cmpI a.f1 b.f1) (cmpS a.f2 b.f2)) := fun a b => by
      rw [cmpI_neg a.f0 b.f0, n3 a b, lex_neg]
    have hrec : x.f0 = y.f0 → y.f0 = z.f0 → ∀ d i, d + i = max x.f4.length (max y.f4.length z.f4.length) → i ≤ x.f4.length → i ≤ y.f4.length → i ≤ z.f4.length → fromN k x y i ≤ 0 → fromN k y z i ≤ 0 → fromN k x z i ≤ 0 := by
      intro e1 e2 d
      induction d with
      | zero =>
        intro i hd g1 g2 g3 _ _
        rw [fromN_end k x z i (by omega), cmpI_le]
        omega
      | succ d ih =>
        intro i hd g1 g2 g3 f1 f2
        by_cases c1 : i < x.f4.length
        · have c2 : i < y.f4.length := by
            apply Classical.byContradiction
            intro c2
            rw [fromN_end k x y i (by omega), cmpI_le] at f1
            omega
          have c3 : i < z.f4.length := by
            apply Classical.byContradiction
            intro c3
            rw [fromN_end k y z i (by omega), cmpI_le] at f2
            omega
          rw [fromN_step k _ _ i c1 c2] at f1
          rw [fromN_step k _ _ i c2 c3] at f2
          rw [fromN_step k _ _ i c1 c3]
          have st : ∀ a b c : S25, formedJ (k + 1) a = true → formedJ (k + 1) b = true → formedJ (k + 1) c = true → a.f0 = b.f0 → i < a.f4.length → i < b.f4.length → i < c.f4.length → b.f0 = c.f0 → stepC (cmpF k) a b i ≤ 0 → stepC (cmpF k) b c i ≤ 0 → stepC (cmpF k) a c i ≤ 0 := by
            intro a b c fa fb fc q1 l1 l2 l3 q2
            rw [stepC_lex, stepC_lex, stepC_lex, ← q1]
            by_cases h6 : a.f0 = 6
            · rw [if_pos h6, if_pos h6, if_pos h6]
              exact lex_trans (cmpS_neg _ _) (cmpS_neg _ _) (cmpS_neg _ _) (cmpS_trans _ _ _) (cmpS_trans _ _ _) (cmpS_trans _ _ _) (fun _ _ _ => cmpF_trans k _ _ _ (itm_formed fa l1) (itm_formed fb l2) (itm_formed fc l3))
            · rw [if_neg h6, if_neg h6, if_neg h6]
              exact lex_trans (axy := 0) (ayz := 0) (axz := 0) (ayx := 0) (azy := 0) (azx := 0) (by omega) (by omega) (by omega) (by omega) (by omega) (by omega) (fun _ _ _ => cmpF_trans k _ _ _ (itm_formed fa l1) (itm_formed fb l2) (itm_formed fc l3))
          exact lex_trans (stepC_neg k x y hx hy e1 i c1 c2) (stepC_neg k y z hy hz e2 i c2 c3) (stepC_neg k x z hx hz (e1.trans e2) i c1 c3)
            (st x y z hx hy hz e1 c1 c2 c3 e2) (st y z x hy hz hx e2 c2 c3 c1 (e1.trans e2).symm) (st z x y hz hx hy (e1.trans e2).symm c3 c1 c2 e1)
            (fun _ _ _ => ih (i + 1) (by omega) c1 c2 c3) f1 f2
        · rw [fromN_end k x z i (by omega), cmpI_le]
          omega
    rw [cmpF_lex] at h1 h2 ⊢
    refine lex_trans (nh x y) (nh y z) (nh x z) (th x y z) (th y z x) (th z x y) (fun z1 z2 _ => ?_) h1 h2
    have e1 : x.f0 = y.f0 := (cmpI_zero _ _).1 (lex_zero.1 z1).1
    have e2 : y.f0 = z.f0 := (cmpI_zero _ _).1 (lex_zero.1 z2).1
    exact hrec e1 e2 (max x.f4.length (max y.f4.length z.f4.length)) 0 (by omega) (Nat.zero_le _) (Nat.zero_le _) (Nat.zero_le _)
end Go.Proofs.YtehdnjegipcpfaaDoor

namespace Go.Proofs.YtehdnjegipcpfaaDoor
open Go.RowKit Go.Proofs.YtehdnjegipcpfaaDoorW.PrintWords Go.Proofs.YtehdnjegipcpfaaDoorW.PrintLast Go.Proofs.YtehdnjegipcpfaaDoorW.PrintMore
open PFilterHolds PAns Go.Shelf
theorem tri (w : World) (o o' o'' : Obj) : Below w.heap.size w (((w.alloc o).alloc o').alloc o'') := below_alloc (two_boxes w o o') _
theorem tri_1 (w : World) (o o' o'' : Obj) : (((w.alloc o).alloc o').alloc o'').heap[w.heap.size + 1]? = some o' := blk_alloc (two_boxes_1 w o o') o''
theorem tri_2 (w : World) (o o' o'' : Obj) : (((w.alloc o).alloc o').alloc o'').heap[w.heap.size + 1 + 1]? = some o'' := by have := new_blk ((w.alloc o).alloc o') o''; simpa using this
abbrev dv (d : S42) (A3 : Option Addr) (c3 : Nat) (A4 : Option Addr) (c4 : Nat) : Value := .agg #[.string d.f0, .int .i64 d.f1.f0, .int .i64 d.f1.f1, .string d.f1.f2, .slice A3 d.f1.f3.length c3, .slice A4 d.f1.f4.length c4]
abbrev cs42 (d : S42) (A3 : Option Addr) (c3 : Nat) (A4 : Option Addr) (c4 : Nat) : Array Value := #[.string d.f0, .int .i64 d.f1.f0, .int .i64 d.f1.f1, .string d.f1.f2, .slice A3 d.f1.f3.length c3, .slice A4 d.f1.f4.length c4]
theorem cmpI_abs (a b : Int) : -1 ≤ cmpI a b ∧ cmpI a b ≤ 1 := by
  unfold cmpI
  split
  · omega
  · split <;> omega
theorem cmpS_abs (a b : ByteArray) : -1 ≤ cmpS a b ∧ cmpS a b ≤ 1 := by
  unfold cmpS
  split
  · omega
  · split <;> omega
theorem firstNZ_abs (st : Nat → Int) (f : Int) (hf : -1 ≤ f ∧ f ≤ 1) (hs : ∀ i, -1 ≤ st i ∧ st i ≤ 1) : ∀ d i, -1 ≤ firstNZ st f d i ∧ firstNZ st f d i ≤ 1
  | 0, _ => hf
  | d + 1, i => by
    rw [firstNZ_succ]
    split
    · exact hs i
    · exact firstNZ_abs st f hf hs d (i + 1)
theorem cmpF_abs : ∀ (k : Nat) (x y : S25), -1 ≤ cmpF k x y ∧ cmpF k x y ≤ 1
  | 0, x, y => by unfold cmpF; omega
  | k + 1, x, y => by
    have ho : -1 ≤ or3 (cmpI x.f0 y.f0) (cmpI x.f1 y.f1) (cmpS x.f2 y.f2) ∧ or3 (cmpI x.f0 y.f0) (cmpI x.f1 y.f1) (cmpS x.f2 y.f2) ≤ 1 := by
      unfold or3
      split
      · exact cmpI_abs _ _
      · split
        · exact cmpI_abs _ _
        · exact cmpS_abs _ _
    rw [cmpF_succ]
    split
    · exact ho
    · refine firstNZ_abs _ _ (cmpI_abs _ _) (fun i => ?_) _ _
      unfold stepC
      split
      · exact cmpS_abs _ _
      · exact cmpF_abs k _ _
theorem atJ_abs (p : ByteArray) (a b : S25) : -1 ≤ atJ p a b ∧ atJ p a b ≤ 1 := by
  unfold atJ
  split
  · split
    · exact cmpF_abs _ _ _
    · omega
  · split <;> omega
def ordJ (o : S84) (a b : S25) : Int := if o.f1 then - atJ o.f0 a b else atJ o.f0 a b
def compJ : List S84 → S42 → S42 → Int
  | [], a, b => cmpS a.f0 b.f0
  | o :: l, a, b => if ordJ o a.f1 b.f1 != 0 then ordJ o a.f1 b.f1 else compJ l a b
theorem cmpS_any (a b : ByteArray) (w : World) : Calls Tryd.prog 71 #[.string a, .string b] w fun e w' => e = .returned (.int .i64 (cmpS a b)) ∧ Below w.heap.size w w' :=
  (cmp_Compare_string.calls a b (cmpS a b) w (cmpS_tot a b)).mono fun _ _ ⟨he, hd⟩ => ⟨he, drawn_below hd⟩
set_option maxRecDepth 100000 in
set_option maxHeartbeats 2000000 in
theorem comp_any (q : Qy) (z : Qa) (a b : S42) (A3 : Option Addr) (c3 : Nat) (A4 : Option Addr) (c4 : Nat) (B3 : Option Addr) (d3 : Nat) (B4 : Option Addr) (d4 : Nat) (w : World) (h : RdQ w q z) (hbd : BdQ q) (ha : Rd w A3 c3 A4 c4 a.f1) (hb : Rd w B3 d3 B4 d4 b.f1) (hT : Tabs w) :
    Calls Tryd.prog 49 #[qv q z, dv a A3 c3 A4 c4, dv b B3 d3 B4 d4] w fun e w' => e = .returned (.int .i64 (compJ q.sort a b)) ∧ Below w.heap.size w w' := by
  have hb0 := tri w (.cells (cs38 q z) 38) (.cells (cs42 a A3 c3 A4 c4) 42) (.cells (cs42 b B3 d3 B4 d4) 42)
  have hk1 := tri_1 w (.cells (cs38 q z) 38) (.cells (cs42 a A3 c3 A4 c4) 42) (.cells (cs42 b B3 d3 B4 d4) 42)
  have hk2 := tri_2 w (.cells (cs38 q z) 38) (.cells (cs42 a A3 c3 A4 c4) 42) (.cells (cs42 b B3 d3 B4 d4) 42)
  have hAt := fun (o : S84) (ho : o ∈ q.sort) W (hW : Below w.heap.size w W) => at_any o.f0 a.f1 b.f1 A3 c3 A4 c4 B3 d3 B4 d4 W (ha.below hW) (hb.below hW) (hT.below hW) (hbd.so o ho)
  have hso := h.so
  have hls := hbd.ls
  have HB0 := Lib.hid hb0; clear hb0
  have HK1 := Lib.hid hk1; clear hk1
  have HK2 := Lib.hid hk2; clear hk2
  have HAT := Lib.hid hAt; clear hAt
  have HSO := Lib.hid hso; clear hso
  clear h hbd ha hb hT
  obtain ⟨⟨x0, x1, x2, x3, x4⟩, srt, fl, sk, lm⟩ := q
  obtain ⟨F3, f3, F4, f4, So, so, Fi, fi⟩ := z
  obtain ⟨ai, a0, a1, a2, a3, a4⟩ := a
  obtain ⟨bi, b0, b1, b2, b3, b4⟩ := b
  simp only at HSO hls
  simp only [qv, dv, av, cs38, cs42] at HAT HK1 HK2 HB0 ⊢
  obtain ⟨ANS, hA⟩ : ∃ r, compJ srt ⟨ai, a0, a1, a2, a3, a4⟩ ⟨bi, b0, b1, b2, b3, b4⟩ = r := ⟨_, rfl⟩
  rw [hA]
  have hA2 : ANS = compJ (srt.drop 0) ⟨ai, a0, a1, a2, a3, a4⟩ ⟨bi, b0, b1, b2, b3, b4⟩ := hA.symm
  have HA := Lib.hid hA2; clear hA hA2
  go_enter Tryd.func49, Tryd.ntmps49
  go_wp2_with fail
  go_loopw [8, 9, 13] (fun v8 v9 v13 wr => ∃ j : Nat, j ≤ srt.length ∧ v13 = .int .i64 j ∧ ANS = compJ (srt.drop j) ⟨ai, a0, a1, a2, a3, a4⟩ ⟨bi, b0, b1, b2, b3, b4⟩ ∧ Below w.heap.size w wr ∧ wr.heap[w.heap.size + 1]? = some (.cells (cs42 ⟨ai, a0, a1, a2, a3, a4⟩ A3 c3 A4 c4) 42 (0, 0)) ∧ wr.heap[w.heap.size + 1 + 1]? = some (.cells (cs42 ⟨bi, b0, b1, b2, b3, b4⟩ B3 d3 B4 d4) 42 (0, 0))) (fun _ _ v13 _ => srt.length - (intOf v13).toNat)
  case atStart => exact ⟨0, Nat.zero_le _, rfl, HA.out, HB0.out, HK1.out, HK2.out⟩
  case round =>
    obtain ⟨j, hj, rfl, hS, hBr, ka, kb⟩ := hrel
    have HS := Lib.hid hS; clear hS
    have HR := Lib.hid hBr; clear hBr
    clear HA HB0 HK1 HK2
    have f0 : wr.cell? ⟨w.heap.size + 1, 0, none⟩ = some (.string ai) := (blk_cell ka 0).trans rfl
    have f1 : wr.cell? ⟨w.heap.size + 1, 1, none⟩ = some (.int .i64 a0) := (blk_cell ka 1).trans rfl
    have f2 : wr.cell? ⟨w.heap.size + 1, 2, none⟩ = some (.int .i64 a1) := (blk_cell ka 2).trans rfl
    have f3 : wr.cell? ⟨w.heap.size + 1, 3, none⟩ = some (.string a2) := (blk_cell ka 3).trans rfl
    have f4 : wr.cell? ⟨w.heap.size + 1, 4, none⟩ = some (.slice A3 a3.length c3) := (blk_cell ka 4).trans rfl
    have f5 : wr.cell? ⟨w.heap.size + 1, 5, none⟩ = some (.slice A4 a4.length c4) := (blk_cell ka 5).trans rfl
    have g0 : wr.cell? ⟨w.heap.size + 1 + 1, 0, none⟩ = some (.string bi) := (blk_cell kb 0).trans rfl
    have g1 : wr.cell? ⟨w.heap.size + 1 + 1, 1, none⟩ = some (.int .i64 b0) := (blk_cell kb 1).trans rfl
    have g2 : wr.cell? ⟨w.heap.size + 1 + 1, 2, none⟩ = some (.int .i64 b1) := (blk_cell kb 2).trans rfl
    have g3 : wr.cell? ⟨w.heap.size + 1 + 1, 3, none⟩ = some (.string b2) := (blk_cell kb 3).trans rfl
    have g4 : wr.cell? ⟨w.heap.size + 1 + 1, 4, none⟩ = some (.slice B3 b3.length d3) := (blk_cell kb 4).trans rfl
    have g5 : wr.cell? ⟨w.heap.size + 1 + 1, 5, none⟩ = some (.slice B4 b4.length d4) := (blk_cell kb 5).trans rfl
    have hltb : w.heap.size + 1 + 1 < wr.heap.size := blk_lt kb
    have hlta : w.heap.size + 1 < wr.heap.size := blk_lt ka
    have HKA := Lib.hid ka; clear ka
    have HKB := Lib.hid kb; clear kb
    by_cases hlt : j < srt.length
    · have hji : (j : Int) < (srt.length : Int) := by omega
      obtain ⟨o, ho⟩ : ∃ o, srt[j]? = some o := ⟨_, List.getElem?_eq_getElem hlt⟩
      obtain ⟨p, r, rfl, hp, e0, e1⟩ := order_of HSO.out rfl j o ho
      replace e0 := (HR.out.cell (World.block_lt_of_cell? w _ e0)).trans e0
      replace e1 := (HR.out.cell (World.block_lt_of_cell? w _ e1)).trans e1
      have hcw := HAT.out o (List.mem_of_getElem? ho) (wr.alloc (.cells #[.string o.f0, .bool o.f1] 84)) (below_alloc HR.out _)
      have hd : srt.drop j = o :: srt.drop (j + 1) := by
        obtain ⟨hi, rfl⟩ := List.getElem?_eq_some_iff.1 ho
        exact List.drop_eq_getElem_cons hi
      have hS2 : ANS = if ordJ o ⟨a0, a1, a2, a3, a4⟩ ⟨b0, b1, b2, b3, b4⟩ != 0 then ordJ o ⟨a0, a1, a2, a3, a4⟩ ⟨b0, b1, b2, b3, b4⟩ else compJ (srt.drop (j + 1)) ⟨ai, a0, a1, a2, a3, a4⟩ ⟨bi, b0, b1, b2, b3, b4⟩ := by rw [HS.out, hd]; rfl
      clear HS hd ho
      obtain ⟨o0, o1⟩ := o
      unfold ordJ at hS2
      simp only at hcw hS2
      have habs := atJ_abs o0 ⟨a0, a1, a2, a3, a4⟩ ⟨b0, b1, b2, b3, b4⟩
      obtain ⟨c, hc⟩ : ∃ c, atJ o0 ⟨a0, a1, a2, a3, a4⟩ ⟨b0, b1, b2, b3, b4⟩ = c := ⟨_, rfl⟩
      rw [hc] at hcw hS2 habs
      have HS := Lib.hid hS2; clear hS2 hc
      have HBA := Lib.hid (below_alloc HR.out (.cells #[.string o0, .bool o1] 84))
      have HKN := Lib.hid (new_blk wr (.cells #[.string o0, .bool o1] 84))
      have HKA2 := Lib.hid (blk_alloc HKA.out (.cells #[.string o0, .bool o1] 84))
      have HKB2 := Lib.hid (blk_alloc HKB.out (.cells #[.string o0, .bool o1] 84))
      go_wp2_with fail
      refine hcw.mono ?_
      rintro e w2 ⟨rfl, hb2⟩
      have hB2 := HBA.out.trans (hb2.mono HBA.out.size)
      have kn := blk_below HKN.out hb2
      have ka := blk_below HKA2.out hb2
      have kb := blk_below HKB2.out hb2
      have HB2 := Lib.hid hB2
      have n1 : w2.cell? ⟨wr.heap.size, 1, none⟩ = some (.bool o1) := (blk_cell kn 1).trans rfl
      have HKA3 := Lib.hid ka
      have HKB3 := Lib.hid kb
      clear hcw hb2 hB2 kn ka kb HBA HKN HKA2 HKB2 HKA HKB HR e0 e1 f0 f1 f2 f3 f4 f5 g0 g1 g2 g3 g4 g5
      cases o1 with
      | true =>
        have hS := HS.out
        simp only [if_true] at hS
        have hw : IntKind.i64.wrap (-c) = -c := by
          have h3 : c = -1 ∨ c = 0 ∨ c = 1 := by omega
          rcases h3 with rfl | rfl | rfl <;> rfl
        cases b9 : (-c) != 0 with
        | true =>
          rw [b9, if_pos rfl] at hS
          subst hS
          clear HS
          go_wp2_with fail
          go_ret
          exact ⟨rfl, HB2.out⟩
        | false =>
          rw [b9, if_neg (by simp)] at hS
          have HS2 := Lib.hid hS; clear hS HS
          go_wp2_with fail
          go_roundw
          case rel =>
            exact ⟨j + 1, by omega, by go_num, HS2.out, HB2.out, HKA3.out, HKB3.out⟩
          case measure => simp [intOf]; omega
      | false =>
        have hS := HS.out
        simp only [Bool.false_eq_true, if_false] at hS
        cases b9 : c != 0 with
        | true =>
          rw [b9, if_pos rfl] at hS
          subst hS
          clear HS
          go_wp2_with fail
          go_ret
          exact ⟨rfl, HB2.out⟩
        | false =>
          rw [b9, if_neg (by simp)] at hS
          have HS2 := Lib.hid hS; clear hS HS
          go_wp2_with fail
          go_roundw
          case rel =>
            exact ⟨j + 1, by omega, by go_num, HS2.out, HB2.out, HKA3.out, HKB3.out⟩
          case measure => simp [intOf]; omega
    · have hnl : ¬ (j : Int) < (srt.length : Int) := by omega
      have hS : cmpS ai bi = ANS := by rw [HS.out, List.drop_eq_nil_of_le (by omega)]; rfl
      have hcw := cmpS_any ai bi wr
      rw [hS] at hcw
      clear HS hS
      go_wp2_with fail
      refine hcw.mono ?_
      rintro e w2 ⟨rfl, hb2⟩
      have HB2 := Lib.hid hb2; clear hb2 hcw f0 f1 f2 f3 f4 f5 g0 g1 g2 g3 g4 g5
      go_wp2_with fail
      go_ret
      exact ⟨rfl, HR.out.trans (HB2.out.mono HR.out.size)⟩
end Go.Proofs.YtehdnjegipcpfaaDoor

namespace Go.Proofs.YtehdnjegipcpfaaDoor
open Go.RowKit Go.Proofs.YtehdnjegipcpfaaDoorW.PrintWords Go.Proofs.YtehdnjegipcpfaaDoorW.PrintLast Go.Proofs.YtehdnjegipcpfaaDoorW.PrintMore
open PFilterHolds PAns Go.Shelf
set_option maxRecDepth 100000 in
set_option maxHeartbeats 1000000 in
theorem less_any (q : Qy) (z : Qa) (a b : S42) (A3 : Option Addr) (c3 : Nat) (A4 : Option Addr) (c4 : Nat) (B3 : Option Addr) (d3 : Nat) (B4 : Option Addr) (d4 : Nat) (w : World) (h : RdQ w q z) (hbd : BdQ q) (ha : Rd w A3 c3 A4 c4 a.f1) (hb : Rd w B3 d3 B4 d4 b.f1) (hT : Tabs w) :
    Calls Tryd.prog 28 #[qv q z, dv a A3 c3 A4 c4, dv b B3 d3 B4 d4] w fun e w' => e = .returned (.bool (decide (compJ q.sort a b < 0))) ∧ Below w.heap.size w w' := by
  have hb0 := tri w (.cells (cs38 q z) 38) (.cells (cs42 a A3 c3 A4 c4) 42) (.cells (cs42 b B3 d3 B4 d4) 42)
  have hC := comp_any q z a b A3 c3 A4 c4 B3 d3 B4 d4 _ (h.below hb0) hbd (ha.below hb0) (hb.below hb0) (hT.below hb0)
  generalize compJ q.sort a b = c at hC ⊢
  have HB0 := Lib.hid hb0; clear hb0
  clear h hbd ha hb hT
  obtain ⟨⟨x0, x1, x2, x3, x4⟩, srt, fl, sk, lm⟩ := q
  obtain ⟨F3, f3, F4, f4, So, so, Fi, fi⟩ := z
  obtain ⟨ai, a0, a1, a2, a3, a4⟩ := a
  obtain ⟨bi, b0, b1, b2, b3, b4⟩ := b
  simp only [qv, dv, cs38, cs42] at hC HB0 ⊢
  go_enter Tryd.func28, Tryd.ntmps28
  go_wp2_with fail
  refine hC.mono ?_; rintro e w1 ⟨rfl, hb⟩
  have HB := Lib.hid hb; clear hb hC
  go_wp2_with fail
  go_ret
  exact ⟨rfl, HB0.out.trans (HB.out.mono HB0.out.size)⟩
set_option maxRecDepth 100000 in
set_option maxHeartbeats 1000000 in
theorem clo_any (q : Qy) (z : Qa) (a b : S42) (A3 : Option Addr) (c3 : Nat) (A4 : Option Addr) (c4 : Nat) (B3 : Option Addr) (d3 : Nat) (B4 : Option Addr) (d4 : Nat) (w : World) (h : RdQ w q z) (hbd : BdQ q) (ha : Rd w A3 c3 A4 c4 a.f1) (hb : Rd w B3 d3 B4 d4 b.f1) (hT : Tabs w) (g : Nat) (hg : w.heap[g]? = some (.cells (cs38 q z) 38 (0, 0))) :
    Calls Tryd.prog 48 #[dv a A3 c3 A4 c4, dv b B3 d3 B4 d4, .pointer (some ⟨g, 0, none⟩)] w fun e w' => e = .returned (.int .i64 (compJ q.sort a b)) ∧ Below w.heap.size w w' := by
  have hb0 := two_boxes w (.cells (cs42 a A3 c3 A4 c4) 42) (.cells (cs42 b B3 d3 B4 d4) 42)
  have hlt := blk_lt hg
  have hC := comp_any q z a b A3 c3 A4 c4 B3 d3 B4 d4 _ (h.below hb0) hbd (ha.below hb0) (hb.below hb0) (hT.below hb0)
  generalize compJ q.sort a b = c at hC ⊢
  have HB0 := Lib.hid hb0; clear hb0
  clear h hbd ha hb hT
  obtain ⟨⟨x0, x1, x2, x3, x4⟩, srt, fl, sk, lm⟩ := q
  obtain ⟨F3, f3, F4, f4, So, so, Fi, fi⟩ := z
  obtain ⟨ai, a0, a1, a2, a3, a4⟩ := a
  obtain ⟨bi, b0, b1, b2, b3, b4⟩ := b
  simp only [qv, dv, cs38, cs42] at hC HB0 hg ⊢
  have q0 : w.cell? ⟨g, 0, none⟩ = some (.int .i64 x0) := (blk_cell hg 0).trans rfl
  have q1 : w.cell? ⟨g, 1, none⟩ = some (.int .i64 x1) := (blk_cell hg 1).trans rfl
  have q2 : w.cell? ⟨g, 2, none⟩ = some (.string x2) := (blk_cell hg 2).trans rfl
  have q3 : w.cell? ⟨g, 3, none⟩ = some (.slice F3 x3.length f3) := (blk_cell hg 3).trans rfl
  have q4 : w.cell? ⟨g, 4, none⟩ = some (.slice F4 x4.length f4) := (blk_cell hg 4).trans rfl
  have q5 : w.cell? ⟨g, 5, none⟩ = some (.slice So srt.length so) := (blk_cell hg 5).trans rfl
  have q6 : w.cell? ⟨g, 6, none⟩ = some (.slice Fi fl.length fi) := (blk_cell hg 6).trans rfl
  have q7 : w.cell? ⟨g, 7, none⟩ = some (.int .i64 sk) := (blk_cell hg 7).trans rfl
  have q8 : w.cell? ⟨g, 8, none⟩ = some (.int .i64 lm) := (blk_cell hg 8).trans rfl
  have hlt1 : g < w.heap.size + 1 := by omega
  have hlt2 : g < w.heap.size + 1 + 1 := by omega
  clear hg
  go_enter Tryd.func48, Tryd.ntmps48
  go_wp2_with fail
  refine hC.mono ?_; rintro e w1 ⟨rfl, hb⟩
  have HB := Lib.hid hb; clear hb hC
  go_wp2_with fail
  go_ret
  exact ⟨rfl, HB0.out.trans (HB.out.mono HB0.out.size)⟩
def docJ (d : S42) : Bool := decide (1 ≤ d.f0.size) && (decide (d.f0.size ≤ 16) && (vstr d.f0 && (d.f1.f0 == 6 && fmJ d.f1)))
set_option maxRecDepth 100000 in
set_option maxHeartbeats 1000000 in
theorem doc_any (d : S42) (A3 : Option Addr) (c3 : Nat) (A4 : Option Addr) (c4 : Nat) (w : World) (h : Rd w A3 c3 A4 c4 d.f1) (hT : Tabs w) :
    Calls Tryd.prog 46 #[dv d A3 c3 A4 c4] w fun e w' => e = .returned (.bool (docJ d)) ∧ Below w.heap.size w w' := by
  have hb0 := below_alloc (Below.refl w.heap.size w) (.cells (cs42 d A3 c3 A4 c4) 42)
  have hblk := new_blk w (.cells (cs42 d A3 c3 A4 c4) 42)
  have hV := fun W (hb : Below w.heap.size w W) (hs : d.f0.size ≤ 16) => valid_any d.f0 W (by omega) (hT.below hb)
  have hF := fun W (hb : Below w.heap.size w W) => Formed_any d.f1 A3 c3 A4 c4 W (h.below hb) (hT.below hb)
  unfold docJ
  generalize vstr d.f0 = bv at hV ⊢
  generalize fmJ d.f1 = bf at hF ⊢
  have HB0 := Lib.hid hb0; clear hb0
  have HBK := Lib.hid hblk; clear hblk
  have HV := Lib.hid hV; clear hV
  have HF := Lib.hid hF; clear hF
  clear h hT
  obtain ⟨ai, a0, a1, a2, a3, a4⟩ := d
  simp only [dv, av, cs42] at HV HF HB0 HBK ⊢
  obtain ⟨ANS, hA⟩ : ∃ r, (decide (1 ≤ ai.size) && (decide (ai.size ≤ 16) && (bv && (a0 == 6 && bf)))) = r := ⟨_, rfl⟩
  rw [hA]
  by_cases c1 : 1 ≤ ai.size
  · have t1 : decide ((1 : Int) ≤ (ai.size : Int)) = true := decide_eq_true (by omega)
    by_cases c2 : ai.size ≤ 16
    · have t2 : decide ((ai.size : Int) ≤ 16) = true := decide_eq_true (by omega)
      rw [decide_eq_true c1, decide_eq_true c2, Bool.true_and, Bool.true_and] at hA
      have hV := HV.out _ HB0.out c2
      clear HV c1 c2
      have HA := Lib.hid hA; clear hA
      go_enter Tryd.func46, Tryd.ntmps46
      go_wp2_with fail
      refine hV.mono ?_; rintro e w1 ⟨rfl, hb⟩
      have hB1 := HB0.out.trans (hb.mono HB0.out.size)
      have k0 := blk_below HBK.out hb
      have HB1 := Lib.hid hB1; clear hB1 hb hV HB0 HBK
      have f0 : w1.cell? ⟨w.heap.size, 0, none⟩ = some (.string ai) := (blk_cell k0 0).trans rfl
      have f1 : w1.cell? ⟨w.heap.size, 1, none⟩ = some (.int .i64 a0) := (blk_cell k0 1).trans rfl
      have f2 : w1.cell? ⟨w.heap.size, 2, none⟩ = some (.int .i64 a1) := (blk_cell k0 2).trans rfl
      have f3 : w1.cell? ⟨w.heap.size, 3, none⟩ = some (.string a2) := (blk_cell k0 3).trans rfl
      have f4 : w1.cell? ⟨w.heap.size, 4, none⟩ = some (.slice A3 a3.length c3) := (blk_cell k0 4).trans rfl
      have f5 : w1.cell? ⟨w.heap.size, 5, none⟩ = some (.slice A4 a4.length c4) := (blk_cell k0 5).trans rfl
      clear k0
      have hA := HA.out
      clear HA
      cases bv with
      | false =>
        rw [Bool.false_and] at hA
        subst hA
        clear HF
        go_wp2_with fail
        go_ret
        exact ⟨rfl, HB1.out⟩
      | true =>
        rw [Bool.true_and] at hA
        cases b6 : a0 == 6 with
        | false =>
          rw [b6, Bool.false_and] at hA
          subst hA
          clear HF
          go_wp2_with fail
          go_ret
          exact ⟨rfl, HB1.out⟩
        | true =>
          rw [b6, Bool.true_and] at hA
          subst hA
          have hF := HF.out w1 HB1.out
          clear HF
          go_wp2_with fail
          refine hF.mono ?_; rintro e w2 ⟨rfl, hb⟩
          have HB2 := Lib.hid hb; clear hb hF f0 f1 f2 f3 f4 f5
          go_wp2_with fail
          go_ret
          exact ⟨rfl, HB1.out.trans (HB2.out.mono HB1.out.size)⟩
    · have t2 : decide ((ai.size : Int) ≤ 16) = false := decide_eq_false (by omega)
      rw [decide_eq_false c2, Bool.false_and, Bool.and_false] at hA
      subst hA
      clear HV HF c1 c2
      go_enter Tryd.func46, Tryd.ntmps46
      go_wp2_with fail
      go_ret
      exact ⟨rfl, HB0.out⟩
  · have t1 : decide ((1 : Int) ≤ (ai.size : Int)) = false := decide_eq_false (by omega)
    rw [decide_eq_false c1, Bool.false_and] at hA
    subst hA
    clear HV HF c1
    go_enter Tryd.func46, Tryd.ntmps46
    go_wp2_with fail
    go_ret
    exact ⟨rfl, HB0.out⟩
end Go.Proofs.YtehdnjegipcpfaaDoor

namespace Go.Proofs.YtehdnjegipcpfaaDoor
open Go.RowKit Go.Proofs.YtehdnjegipcpfaaDoorW.PrintWords Go.Proofs.YtehdnjegipcpfaaDoorW.PrintLast Go.Proofs.YtehdnjegipcpfaaDoorW.PrintMore
open PFilterHolds PAns Go.Shelf
theorem law9 : Maps.Keyed Tryd.prog 9 := Maps.string_keyed Tryd.underlying9
def kid (s : ByteArray) : Lit := .string s.data.toList
theorem kid_of {s : ByteArray} (h : s.size ≤ maxLen) : keyOf Tryd.prog 9 (.string s) = some (kid s) := by
  unfold keyOf mapKey
  rw [show Tryd.prog.underlying 9 = some .string from Tryd.underlying9]
  exact if_pos h
theorem kid_key (s : ByteArray) : WideAt.IsKeyLit (kid s) := trivial
theorem kid_inj {s t : ByteArray} (h : kid s = kid t) : s = t := by
  unfold kid at h
  injection h with h
  exact ByteArray.ext (Array.ext' h)
def memB (ids : List ByteArray) (s : ByteArray) : Bool := ids.any fun t => t.data.toList == s.data.toList
theorem memB_iff {ids : List ByteArray} {s : ByteArray} : memB ids s = true ↔ s ∈ ids := by
  unfold memB
  rw [List.any_eq_true]
  constructor
  · rintro ⟨t, ht, h⟩
    rw [beq_iff_eq] at h
    rw [← ByteArray.ext (Array.ext' h)]
    exact ht
  · intro h
    exact ⟨s, h, beq_self_eq_true _⟩
theorem memB_true {ids : List ByteArray} {s : ByteArray} (h : s ∈ ids) : memB ids s = true := memB_iff.2 h
theorem memB_false {ids : List ByteArray} {s : ByteArray} (h : s ∉ ids) : memB ids s = false := Bool.eq_false_iff.2 fun e => h (memB_iff.1 e)
def Seen (w : World) (b : Nat) (ids : List ByteArray) : Prop :=
  ∃ (n : Nat) (D : DataW Unit), w.ownsMap Tryd.prog 9 (plainElem Tryd.prog 4) b n D ∧ n ≤ ids.length ∧
    (∀ s, s ∈ ids → ∀ z, D.atKey (kid s) z = .lit (.bool true)) ∧ (∀ s, s ∉ ids → ∀ z, D.atKey (kid s) z = z)
theorem seen_new (w : World) : Seen (w.alloc (.map #[] 0)) w.heap.size [] :=
  ⟨0, .map [], World.ownsMap_made w Tryd.prog 9 _, Nat.le_refl _, (fun _ h => nomatch h), fun _ _ _ => rfl⟩
theorem Seen.kept {w w' : World} {b : Nat} {ids : List ByteArray} {row : Option Nat} (h : Seen w b ids) (hg : w.grownBy w' row) (hne : some b ≠ row) : Seen w' b ids := by
  obtain ⟨n, D, ho, h2⟩ := h
  exact ⟨n, D, ho.kept hg hne, h2⟩
theorem Seen.lt {w : World} {b : Nat} {ids : List ByteArray} (h : Seen w b ids) : b < w.heap.size := by
  obtain ⟨n, D, ho, h2⟩ := h
  exact ho.lt
theorem seen_look {w : World} {b : Nat} {ids : List ByteArray} (h : Seen w b ids) {s : ByteArray} (hs : s.size ≤ maxLen) :
    (Instr.lookup 66 (.map (some b)) (.string s) false).run Tryd.prog w = .ok (.bool (memB ids s)) w := by
  obtain ⟨n, D, ho, hn, h1, h2⟩ := h
  obtain ⟨v, ps, hrun, hv⟩ := ho.lookup law9 Tryd.underlying66 (z := .bool false) (by kernel_rfl) (plainElem_bool Tryd.underlying4 false) (kid_of hs)
  have e : D.atKey (kid s) (.lit (.bool false)) = .lit (.bool (memB ids s)) := by
    by_cases hm : s ∈ ids
    · rw [h1 s hm, memB_true hm]
    · rw [h2 s hm, memB_false hm]
  rw [e] at hv
  rw [hrun]
  have : v = .bool (memB ids s) := by
    unfold plainElem at hv
    rw [show Tryd.prog.underlying 4 = some .bool from Tryd.underlying4] at hv
    cases v <;> simp at hv
    rw [hv.1]
  rw [this]
theorem seen_put {w : World} {b : Nat} {ids : List ByteArray} (h : Seen w b ids) {s : ByteArray} (hs : s.size ≤ maxLen) (hn : ids.length < 1000) :
    ∃ w', (Instr.mapUpdate 66 (.map (some b)) (.string s) (.bool true)).run Tryd.prog w = .ok () w' ∧ Seen w' b (ids ++ [s]) ∧ w.grownBy w' (some b) := by
  obtain ⟨n, D, ho, hle, h1, h2⟩ := h
  obtain ⟨w', hrun, ho', hg⟩ := ho.update law9 Tryd.underlying66 (by unfold maxLen; omega) (kid_of hs) (plainElem_bool Tryd.underlying4 true)
  refine ⟨w', hrun, ⟨n + 1, _, ho', by simp; omega, ?_, ?_⟩, hg⟩
  · intro t ht z
    by_cases e : t = s
    · subst e
      exact Maps.atKey_put_same ho.isMap (kid_key t) _ z
    · rw [Maps.atKey_put_other (fun e' => e (kid_inj e'))]
      rcases List.mem_append.1 ht with ht | ht
      · exact h1 t ht z
      · exact absurd (List.mem_singleton.1 ht) e
  · intro t ht z
    rw [Maps.atKey_put_other (fun e' => ht (List.mem_append.2 (.inr (List.mem_singleton.2 (kid_inj e')))))]
    exact h2 t (fun h => ht (List.mem_append.2 (.inl h))) z
end Go.Proofs.YtehdnjegipcpfaaDoor
