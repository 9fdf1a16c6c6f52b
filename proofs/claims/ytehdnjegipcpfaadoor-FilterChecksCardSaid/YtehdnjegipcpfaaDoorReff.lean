/-
  The reference's Formed tells which values are formed: the contracts of its Depth, formed and Formed; no condition.
-/
import Derived.Test.YtehdnjegipcpfaaDoorRefv
import Derived.Test.YtehdnjegipcpfaaDoorOrd
import Derived.Test.YtehdnjegipcpfaaDoorPFilterHoldsx6
namespace Go.Proofs.YtehdnjegipcpfaaDoor
open Go.RowKit Go.Proofs.YtehdnjegipcpfaaDoorW.PrintWords Go.Proofs.YtehdnjegipcpfaaDoorW.PrintLast Go.Proofs.YtehdnjegipcpfaaDoorW.PrintMore
open PFilterHolds Go.Shelf

def maxL : List Nat → Nat
  | [] => 0
  | n :: l => max n (maxL l)

/-- How deep a value is, looked at so far. -/
def dep : Nat → S25 → Nat
  | 0, _ => 1
  | m + 1, x => if (x.f0 = 5 ∨ x.f0 = 6) ∧ m ≠ 0 then 1 + maxL (x.f4.map (dep m)) else 1

theorem maxL_le (b : Nat) : ∀ l : List Nat, (maxL l ≤ b ↔ ∀ n ∈ l, n ≤ b)
  | [] => by simp [maxL]
  | n :: l => by
    have := maxL_le b l
    simp only [maxL, List.mem_cons, forall_eq_or_imp, ← this]
    omega

theorem dep_succ (m : Nat) (x : S25) : dep (m + 1) x = if (x.f0 = 5 ∨ x.f0 = 6) ∧ m ≠ 0 then 1 + maxL (x.f4.map (dep m)) else 1 := rfl

theorem dep_le : ∀ (m : Nat) (x : S25), 1 ≤ dep m x ∧ dep m x ≤ m + 1
  | 0, x => by simp [dep]
  | m + 1, x => by
    rw [dep_succ]
    split
    · have : maxL (x.f4.map (dep m)) ≤ m + 1 := (maxL_le _ _).2 (fun n hn => by
        obtain ⟨y, _, rfl⟩ := List.mem_map.1 hn
        exact (dep_le m y).2)
      omega
    · omega

/-- What is looked at at each level but the members' depth. -/
def r1 (x : S25) : Bool := decide (0 ≤ x.f0) && decide (x.f0 ≤ 6) && (x.f0 == 3 || x.f1 == 0) && (x.f0 == 4 || x.f2.toList.isEmpty)
def r3 (x : S25) : Bool := (x.f0 == 6 || decide (x.f3.length = 0)) && (decide (5 ≤ x.f0) || decide (x.f4.length = 0)) && decide (x.f4.length ≤ 24) && textJ x.f2
def r5 (x : S25) : Bool := x.f0 != 6 || decide (x.f3.length = x.f4.length)

theorem formed_lvl (k : Nat) (x : S25) : formedJ (k + 1) x = (r1 x && (r3 x && (r5 x && (namesJ x.f3 && x.f4.all (formedJ k))))) := by
  have h1 : formedJ (k + 1) x = (headJ x && if x.f0 < 5 then x.f4.length == 0 && x.f3.length == 0 else decide (x.f4.length ≤ 24) && x.f3.length == (if x.f0 = 6 then x.f4.length else 0) && namesJ x.f3 && x.f4.all (formedJ k)) := rfl
  rw [h1]
  unfold headJ r1 r3 r5
  generalize textJ x.f2 = t
  generalize decide (0 ≤ x.f0) = a
  generalize decide (x.f0 ≤ 6) = b
  generalize (x.f0 == 3 || x.f1 == 0) = c
  generalize (x.f0 == 4 || x.f2.toList.isEmpty) = d
  by_cases h5 : x.f0 < 5
  · rw [if_pos h5]
    have h6 : (x.f0 == 6) = false := by simp; omega
    have h6' : (x.f0 != 6) = true := by simp; omega
    have h5' : decide (5 ≤ x.f0) = false := by simp; omega
    rw [h6, h6', h5']
    by_cases hi : x.f4.length = 0
    · by_cases hn : x.f3.length = 0
      · have e3 : x.f3 = [] := List.length_eq_zero_iff.1 hn
        have e4 : x.f4 = [] := List.length_eq_zero_iff.1 hi
        rw [e3, e4]
        cases a <;> cases b <;> cases c <;> cases d <;> cases t <;> rfl
      · have e : (x.f3.length == 0) = false := by simpa using hn
        rw [e, decide_eq_false hn]
        simp
    · have e : (x.f4.length == 0) = false := by simpa using hi
      rw [e, decide_eq_false hi]
      simp
  · rw [if_neg h5]
    have h5' : decide (5 ≤ x.f0) = true := by simp; omega
    rw [h5', Bool.true_or, Bool.and_true]
    by_cases h6 : x.f0 = 6
    · have e6 : (x.f0 == 6) = true := by simp [h6]
      have e6' : (x.f0 != 6) = false := by simp [h6]
      rw [if_pos h6, e6, e6']
      by_cases hl : x.f3.length = x.f4.length
      · have e : (x.f3.length == x.f4.length) = true := by simp [hl]
        rw [e, decide_eq_true hl]
        generalize decide (x.f4.length ≤ 24) = g
        generalize namesJ x.f3 = n
        generalize x.f4.all (formedJ k) = m
        cases a <;> cases b <;> cases c <;> cases d <;> cases t <;> cases g <;> cases n <;> cases m <;> rfl
      · have e : (x.f3.length == x.f4.length) = false := by simpa using hl
        rw [e, decide_eq_false hl]
        simp
    · have e6 : (x.f0 == 6) = false := by simp [h6]
      have e6' : (x.f0 != 6) = true := by simp [h6]
      rw [if_neg h6, e6, e6']
      by_cases hn : x.f3.length = 0
      · have e : (x.f3.length == 0) = true := by simp [hn]
        rw [e, decide_eq_true hn]
        generalize decide (x.f4.length ≤ 24) = g
        generalize namesJ x.f3 = n
        generalize x.f4.all (formedJ k) = m
        cases a <;> cases b <;> cases c <;> cases d <;> cases t <;> cases g <;> cases n <;> cases m <;> rfl
      · have e : (x.f3.length == 0) = false := by simpa using hn
        rw [e, decide_eq_false hn]
        simp

theorem formed_dep : ∀ (k : Nat) (x : S25), formedJ k x = true → dep (k + 1) x ≤ k
  | 0, x, h => by unfold formedJ at h; cases h
  | k + 1, x, h => by
    rw [dep_succ]
    split
    · have : maxL (x.f4.map (dep (k + 1))) ≤ k := (maxL_le _ _).2 (fun n hn => by
        obtain ⟨y, hy, rfl⟩ := List.mem_map.1 hn
        exact formed_dep k y ((formed_parts h).2.2.1 y hy))
      omega
    · omega

theorem depth_tot : ∀ (m : Nat), m ≤ 100 → ∀ (x : S25) (A3 : Option Addr) (c3 : Nat) (A4 : Option Addr) (c4 : Nat) (w : World), Rd w A3 c3 A4 c4 x → ∃ k, munimentref01_depth.f k x.f0 x.f1 x.f2 x.f3 x.f4 ((m : Int) + 1) = some (dep (m + 1) x : Int) := by
  intro m
  induction m with
  | zero =>
    intro _ x _ _ _ _ _ _
    refine ⟨2, ?_⟩
    have hj : ∀ b, b = true → munimentref01_depth.j0 1 1 b x.f0 x.f1 x.f2 x.f3 x.f4 = some 1 := fun b hb => by unfold munimentref01_depth.j0; rw [if_pos hb]
    rw [dep_succ, if_neg (by simp)]
    unfold munimentref01_depth.f
    rw [show ((0 : Nat) : Int) + 1 = 1 from rfl, hj _ (by rfl), hj true rfl]
    split
    · rfl
    · split <;> rfl
  | succ m ih =>
    intro hm x A3 c3 A4 c4 w h
    by_cases hk : x.f0 = 5 ∨ x.f0 = 6
    · have hlen : x.f4.length ≤ 9223372036854775807 := h.g4.2.1
      have hl0 : ∀ d i : Nat, ∀ n : Nat, i + d = x.f4.length → n ≤ 200 → ∃ k, munimentref01_depth.l0 k (((m + 1 : Nat) : Int) + 1) (n : Int) (i : Int) x.f0 x.f1 x.f2 x.f3 x.f4 = some ((max n (maxL ((x.f4.drop i).map (dep (m + 1)))) + 1 : Nat) : Int) := by
        intro d
        induction d with
        | zero =>
          intro i n hi hn
          refine ⟨1, ?_⟩
          unfold munimentref01_depth.l0
          rw [if_neg (by omega), List.drop_of_length_le (by omega)]
          simp only [List.map_nil, maxL, Nat.max_zero]
          congr 1
          unfold wrap64
          omega
        | succ d ihd =>
          intro i n hi hn
          have hlt : i < x.f4.length := by omega
          obtain ⟨b, o, B3, d3, B4, d4, _, _, _, _, _, _, _, hR⟩ := item_of h.g4 rfl i x.f4[i] (List.getElem?_eq_getElem hlt)
          obtain ⟨k1, e1⟩ := ih (by omega) x.f4[i] B3 d3 B4 d4 w hR
          have hdl := (dep_le (m + 1) x.f4[i]).2
          obtain ⟨k2, e2⟩ := ihd (i + 1) (max n (dep (m + 1) x.f4[i])) (by omega) (by omega)
          refine ⟨max k1 k2 + 1, ?_⟩
          unfold munimentref01_depth.l0
          rw [if_pos (by omega), if_pos (by omega), rd_getD _ _ hlt]
          have w1 : wrap64 (((m + 1 : Nat) : Int) + 1 - 1) = (m : Int) + 1 := by unfold wrap64; omega
          have w2 : wrap64 ((i : Int) + 1) = ((i + 1 : Nat) : Int) := by unfold wrap64; omega
          have w3 : mx (n : Int) (dep (m + 1) x.f4[i] : Int) = ((max n (dep (m + 1) x.f4[i]) : Nat) : Int) := by unfold mx; split <;> omega
          rw [w1, le_lift (F := fun k => munimentref01_depth.f k (x.f4[i]).f0 (x.f4[i]).f1 (x.f4[i]).f2 (x.f4[i]).f3 (x.f4[i]).f4 ((m : Int) + 1)) (fun k => munimentref01_depth.mono _ _ _ _ _ _ k) e1 (Nat.le_max_left k1 k2), Option.bind_some, w2, w3]
          rw [le_lift (F := fun k => munimentref01_depth.l0 k (((m + 1 : Nat) : Int) + 1) ((max n (dep (m + 1) x.f4[i]) : Nat) : Int) ((i + 1 : Nat) : Int) x.f0 x.f1 x.f2 x.f3 x.f4) (fun k => (munimentref01_depth.mono_l k).2.2 _ _ _ _ _ _ _ _) e2 (Nat.le_max_right k1 k2)]
          rw [List.drop_eq_getElem_cons hlt, List.map_cons]
          simp only [maxL]
          congr 2
          omega
      obtain ⟨k, e⟩ := hl0 x.f4.length 0 0 (by omega) (by omega)
      refine ⟨k + 2, ?_⟩
      rw [dep_succ, if_pos ⟨hk, by omega⟩]
      have hj : munimentref01_depth.j0 (k + 1) (((m + 1 : Nat) : Int) + 1) ((((m + 1 : Nat) : Int) + 1) == 1) x.f0 x.f1 x.f2 x.f3 x.f4 = some ((1 + maxL (x.f4.map (dep (m + 1))) : Nat) : Int) := by
        unfold munimentref01_depth.j0
        rw [if_neg (by simp; omega)]
        rw [show (0 : Int) = ((0 : Nat) : Int) from rfl, e, List.drop_zero]
        congr 2
        omega
      unfold munimentref01_depth.f
      rcases hk with hk | hk
      · rw [if_pos hk, hj]
      · rw [if_neg (by omega), if_pos hk, hj]
    · refine ⟨2, ?_⟩
      rw [dep_succ, if_neg (fun e => hk e.1)]
      unfold munimentref01_depth.f
      rw [if_neg (fun e => hk (.inl e)), if_neg (fun e => hk (.inr e))]
      unfold munimentref01_depth.j0
      rw [if_pos rfl]
      rfl

theorem depth_any (x : S25) (A3 : Option Addr) (c3 : Nat) (A4 : Option Addr) (c4 : Nat) (w : World) (h : Rd w A3 c3 A4 c4 x) :
    Calls Tryd.prog 53 #[av x A3 c3 A4 c4] w fun e w' => e = .returned (.int .i64 (dep 7 x)) ∧ Below w.heap.size w w' := by
  obtain ⟨k, e⟩ := depth_tot 6 (by omega) x A3 c3 A4 c4 w h
  refine munimentref01_Depth.calls k x.f0 x.f1 x.f2 A3 c3 x.f3 A4 c4 x.f4 (dep 7 x : Int) w h.g3 h.l3 h.g4 h.l4 ?_
  unfold munimentref01_Depth.f
  rw [show (7 : Int) = ((6 : Nat) : Int) + 1 from rfl, e]
  rfl

def RefAt (k : Nat) : Prop := ∀ (x : S25) (A3 : Option Addr) (c3 : Nat) (A4 : Option Addr) (c4 : Nat) (w : World), dep (k + 1) x ≤ k → Rd w A3 c3 A4 c4 x →
    Calls Tryd.prog 54 #[av x A3 c3 A4 c4] w fun e w' => e = .returned (.bool (formedJ k x)) ∧ Below w.heap.size w w'

set_option maxRecDepth 100000 in
set_option maxHeartbeats 8000000 in
theorem ref_step (k : Nat) (ih : RefAt k) : RefAt (k + 1) := by
  intro x A3 c3 A4 c4 w hdep h
  have hb0 : Below w.heap.size w (w.alloc (.cells #[.int .i64 x.f0, .int .i64 x.f1, .string x.f2, .slice A3 x.f3.length c3, .slice A4 x.f4.length c4] 25)) := (Below.refl _ w).alloc (Nat.le_refl _) _
  have hblk := new_blk w (.cells #[.int .i64 x.f0, .int .i64 x.f1, .string x.f2, .slice A3 x.f3.length c3, .slice A4 x.f4.length c4] 25)
  have hl3 : x.f3.length ≤ 9223372036854775807 := h.g3.2.1
  obtain ⟨ANS, hA⟩ : ∃ a, formedJ (k + 1) x = a := ⟨_, rfl⟩
  rw [hA]
  rw [formed_lvl] at hA
  have hX := text_ref x.f2 (w.alloc (.cells #[.int .i64 x.f0, .int .i64 x.f1, .string x.f2, .slice A3 x.f3.length c3, .slice A4 x.f4.length c4] 25))
  have hit : (x.f0 = 5 ∨ x.f0 = 6) → ∀ y ∈ x.f4, dep (k + 1) y ≤ k := by
    intro hk
    rw [dep_succ, if_pos ⟨hk, by omega⟩] at hdep
    have h1 : maxL (x.f4.map (dep (k + 1))) ≤ k := by omega
    intro y hy
    exact (maxL_le _ _).1 h1 _ (List.mem_map.2 ⟨y, hy, rfl⟩)
  have HA := Lib.hid hA; clear hA
  have HB0 := Lib.hid hb0; clear hb0
  have HK0 := Lib.hid hblk; clear hblk
  have HI := Lib.hid ih; clear ih
  have HIT := Lib.hid hit; clear hit
  have HRD := Lib.hid h; clear h
  clear hdep
  obtain ⟨x0, x1, x2, x3, x4⟩ := x
  simp only at hl3 hX
  obtain ⟨R1, hR1⟩ : ∃ b, r1 ⟨x0, x1, x2, x3, x4⟩ = b := ⟨_, rfl⟩
  obtain ⟨R3, hR3⟩ : ∃ b, r3 ⟨x0, x1, x2, x3, x4⟩ = b := ⟨_, rfl⟩
  obtain ⟨R5, hR5⟩ : ∃ b, r5 ⟨x0, x1, x2, x3, x4⟩ = b := ⟨_, rfl⟩
  have HR1 := Lib.hid hR1; clear hR1
  have HR3 := Lib.hid hR3; clear hR3
  have HR5 := Lib.hid hR5; clear hR5
  go_enter Tryd.func54, Tryd.ntmps54
  go_upto_region 1 with fail
  go_cut [32] from 5 to 32 (fun v wx => v = .bool (!R1) ∧ wx = (w.alloc (.cells #[.int .i64 x0, .int .i64 x1, .string x2, .slice A3 x3.length c3, .slice A4 x4.length c4] 25)))
  case first =>
    have hR := HR1.out
    unfold r1 at hR
    simp only at hR
    clear hX
    by_cases h1 : x0 < 0
    · have b1 : decide (x0 < 0) = true := decide_eq_true h1
      rw [decide_eq_false (by omega : ¬ 0 ≤ x0)] at hR
      simp only [Bool.false_and] at hR
      subst hR
      go_wp2_with fail
      go_meet
      exact ⟨rfl, rfl⟩
    have b1 : decide (x0 < 0) = false := decide_eq_false h1
    rw [decide_eq_true (by omega : 0 ≤ x0), Bool.true_and] at hR
    by_cases h2 : 6 < x0
    · have b2 : decide (6 < x0) = true := decide_eq_true h2
      rw [decide_eq_false (by omega : ¬ x0 ≤ 6)] at hR
      simp only [Bool.false_and] at hR
      subst hR
      go_wp2_with fail
      go_meet
      exact ⟨rfl, rfl⟩
    have b2 : decide (6 < x0) = false := decide_eq_false h2
    rw [decide_eq_true (by omega : x0 ≤ 6), Bool.true_and] at hR
    clear h1 h2
    cases b3 : (x0 == 3) with
    | true =>
      have b3' : (x0 != 3) = false := by simp only [bne, b3, Bool.not_true]
      have b4 : (x0 == 4) = false := by have := beq_iff_eq.1 b3; subst this; rfl
      have b4' : (x0 != 4) = true := by simp only [bne, b4, Bool.not_false]
      rw [b3, Bool.true_or, Bool.true_and, b4, Bool.false_or] at hR
      clear b3 b4
      cases b5 : x2.toList.isEmpty with
      | true =>
        rw [b5] at hR; subst hR
        go_wp2_with fail
        go_meet
        exact ⟨rfl, rfl⟩
      | false =>
        rw [b5] at hR; subst hR
        go_wp2_with fail
        go_meet
        exact ⟨rfl, rfl⟩
    | false =>
      have b3' : (x0 != 3) = true := by simp only [bne, b3, Bool.not_false]
      rw [b3, Bool.false_or] at hR
      clear b3
      cases b6 : (x1 == 0) with
      | false =>
        have b6' : (x1 != 0) = true := by simp only [bne, b6, Bool.not_false]
        rw [b6, Bool.false_and] at hR; subst hR
        clear b6
        go_wp2_with fail
        go_meet
        exact ⟨rfl, rfl⟩
      | true =>
        have b6' : (x1 != 0) = false := by simp only [bne, b6, Bool.not_true]
        rw [b6, Bool.true_and] at hR
        clear b6
        cases b4 : (x0 == 4) with
        | true =>
          have b4' : (x0 != 4) = false := by simp only [bne, b4, Bool.not_true]
          rw [b4, Bool.true_or] at hR; subst hR
          clear b4
          go_wp2_with fail
          go_meet
          exact ⟨rfl, rfl⟩
        | false =>
          have b4' : (x0 != 4) = true := by simp only [bne, b4, Bool.not_false]
          rw [b4, Bool.false_or] at hR
          clear b4
          cases b5 : x2.toList.isEmpty with
          | true =>
            rw [b5] at hR; subst hR
            go_wp2_with fail
            go_meet
            exact ⟨rfl, rfl⟩
          | false =>
            rw [b5] at hR; subst hR
            go_wp2_with fail
            go_meet
            exact ⟨rfl, rfl⟩
  case rest =>
    obtain ⟨rfl, rfl⟩ := hcut
    have hA := HA.out
    clear HA
    rw [HR1.out] at hA
    cases R1 with
    | false =>
      rw [Bool.false_and] at hA
      subst hA
      go_wp2_with fail
      go_ret
      exact ⟨rfl, HB0.out⟩
    | true =>
    rw [Bool.true_and] at hA
    have HA := Lib.hid hA; clear hA
    have HQ1 := HR1
    clear HR1
    go_upto_region 3 with fail
    go_cut [64] from 33 to 64 (fun v wx => v = .bool (!R3) ∧ Below w.heap.size w wx ∧ wx.heap[w.heap.size]? = some (.cells #[.int .i64 x0, .int .i64 x1, .string x2, .slice A3 x3.length c3, .slice A4 x4.length c4] 25 (0, 0)))
    case first =>
      have hR := HR3.out
      unfold r3 at hR
      simp only at hR
      obtain ⟨tx, htx⟩ : ∃ t, textJ x2 = t := ⟨_, rfl⟩
      rw [htx] at hR hX
      clear htx
      have go : ∀ b : Bool, (x0 == 6) = b ∨ True := fun _ => .inr trivial
      clear go
      cases b6 : (x0 == 6) with
      | true =>
        have b6' : (x0 != 6) = false := by simp only [bne, b6, Bool.not_true]
        have h6 : x0 = 6 := beq_iff_eq.1 b6
        have b5 : decide (x0 < 5) = false := decide_eq_false (by omega)
        rw [b6, Bool.true_or, Bool.true_and, decide_eq_true (by omega : 5 ≤ x0), Bool.true_or, Bool.true_and] at hR
        clear b6 h6
        by_cases h24 : x4.length ≤ 24
        · have b24 : decide (24 < (x4.length : Int)) = false := decide_eq_false (by omega)
          rw [decide_eq_true h24, Bool.true_and] at hR
          subst hR
          go_wp2_with fail
          refine hX.mono ?_; rintro e w1 ⟨rfl, hb⟩
          have HB1 := Lib.hid hb; clear hb hX
          go_wp2_with fail
          go_meet
          exact ⟨rfl, HB0.out.trans (HB1.out.mono HB0.out.size), blk_below HK0.out HB1.out⟩
        · have b24 : decide (24 < (x4.length : Int)) = true := decide_eq_true (by omega)
          rw [decide_eq_false h24, Bool.false_and] at hR
          subst hR
          clear hX
          go_wp2_with fail
          go_meet
          exact ⟨rfl, HB0.out, HK0.out⟩
      | false =>
        have b6' : (x0 != 6) = true := by simp only [bne, b6, Bool.not_false]
        rw [b6, Bool.false_or] at hR
        clear b6
        by_cases hn : x3.length = 0
        · have bn : decide (0 < (x3.length : Int)) = false := decide_eq_false (by omega)
          have bn' : decide (0 < x3.length) = false := decide_eq_false (by omega)
          have bn2 : x3.isEmpty = true := by simpa using List.length_eq_zero_iff.1 hn
          have hn3 := List.length_eq_zero_iff.1 hn
          rw [decide_eq_true hn, Bool.true_and] at hR
          subst hn3
          clear hn bn bn' bn2
          by_cases h5 : 5 ≤ x0
          · have b5 : decide (x0 < 5) = false := decide_eq_false (by omega)
            rw [decide_eq_true h5, Bool.true_or, Bool.true_and] at hR
            by_cases h24 : x4.length ≤ 24
            · have b24 : decide (24 < (x4.length : Int)) = false := decide_eq_false (by omega)
              rw [decide_eq_true h24, Bool.true_and] at hR
              subst hR
              go_wp2_with fail
              refine hX.mono ?_; rintro e w1 ⟨rfl, hb⟩
              have HB1 := Lib.hid hb; clear hb hX
              go_wp2_with fail
              go_meet
              exact ⟨rfl, HB0.out.trans (HB1.out.mono HB0.out.size), blk_below HK0.out HB1.out⟩
            · have b24 : decide (24 < (x4.length : Int)) = true := decide_eq_true (by omega)
              rw [decide_eq_false h24, Bool.false_and] at hR
              subst hR
              clear hX
              go_wp2_with fail
              go_meet
              exact ⟨rfl, HB0.out, HK0.out⟩
          · have b5 : decide (x0 < 5) = true := decide_eq_true (by omega)
            rw [decide_eq_false h5, Bool.false_or] at hR
            by_cases hi : x4.length = 0
            · rw [decide_eq_true hi, Bool.true_and, decide_eq_true (by omega : x4.length ≤ 24), Bool.true_and] at hR
              have hi4 := List.length_eq_zero_iff.1 hi
              subst hi4 hR
              clear hi
              go_wp2_with fail
              refine hX.mono ?_; rintro e w1 ⟨rfl, hb⟩
              have HB1 := Lib.hid hb; clear hb hX
              go_wp2_with fail
              go_meet
              exact ⟨rfl, HB0.out.trans (HB1.out.mono HB0.out.size), blk_below HK0.out HB1.out⟩
            · have hi' : 0 < x4.length := by omega
              have bi : decide (0 < (x4.length : Int)) = true := decide_eq_true (by omega)
              rw [decide_eq_false hi, Bool.false_and, Bool.false_and] at hR
              subst hR
              clear hX hi
              go_wp2_with fail
              go_meet
              exact ⟨rfl, HB0.out, HK0.out⟩
        · have hn' : 0 < x3.length := by omega
          have bn : decide (0 < (x3.length : Int)) = true := decide_eq_true (by omega)
          rw [decide_eq_false hn, Bool.false_and, Bool.false_and, Bool.false_and] at hR
          subst hR
          clear hX hn
          go_wp2_with fail
          go_meet
          exact ⟨rfl, HB0.out, HK0.out⟩
    case rest =>
      obtain ⟨rfl, hB, hK⟩ := hcut
      clear HB0 HK0 hX
      have f0 : wc.cell? ⟨w.heap.size, 0, none⟩ = some (.int .i64 x0) := (blk_cell hK 0).trans rfl
      have f3 : wc.cell? ⟨w.heap.size, 3, none⟩ = some (.slice A3 x3.length c3) := (blk_cell hK 3).trans rfl
      have f4 : wc.cell? ⟨w.heap.size, 4, none⟩ = some (.slice A4 x4.length c4) := (blk_cell hK 4).trans rfl
      have HB := Lib.hid hB; clear hB
      have HK := Lib.hid hK; clear hK
      have hA := HA.out
      clear HA
      rw [HR3.out] at hA
      cases R3 with
      | false =>
        rw [Bool.false_and] at hA
        subst hA
        go_wp2_with fail
        go_ret
        exact ⟨rfl, HB.out⟩
      | true =>
      rw [Bool.true_and] at hA
      have HA := Lib.hid hA; clear hA
      have HQ3 := HR3
      clear HR3
      go_upto_region 5 with fail
      go_cut [76] from 65 to 76 (fun v wx => v = .bool (!R5) ∧ wx = wc)
      case first =>
        have hR := HR5.out
        unfold r5 at hR
        simp only at hR
        cases b6 : (x0 == 6) with
        | false =>
          have b6' : (x0 != 6) = true := by simp only [bne, b6, Bool.not_false]
          rw [b6', Bool.true_or] at hR
          subst hR
          go_wp2_with fail
          go_meet
          exact ⟨rfl, rfl⟩
        | true =>
          have b6' : (x0 != 6) = false := by simp only [bne, b6, Bool.not_true]
          rw [b6', Bool.false_or] at hR
          by_cases hl : x3.length = x4.length
          · have bl : ((x3.length : Int) != (x4.length : Int)) = false := by simp [hl]
            rw [decide_eq_true hl] at hR
            subst hR
            clear hl
            go_wp2_with fail
            go_meet
            exact ⟨rfl, rfl⟩
          · have bl : ((x3.length : Int) != (x4.length : Int)) = true := by simp; omega
            rw [decide_eq_false hl] at hR
            subst hR
            clear hl
            go_wp2_with fail
            go_meet
            exact ⟨rfl, rfl⟩
      case rest =>
        obtain ⟨rfl, rfl⟩ := hcut
        have hA := HA.out
        clear HA
        rw [HR5.out] at hA
        cases R5 with
        | false =>
          rw [Bool.false_and] at hA
          subst hA
          go_wp2_with fail
          go_ret
          exact ⟨rfl, HB.out⟩
        | true =>
        rw [Bool.true_and] at hA
        have HA := Lib.hid hA; clear hA
        have h24 : x4.length ≤ 24 := by
          have := HQ3.out
          unfold r3 at this
          simp only [Bool.and_eq_true, decide_eq_true_eq] at this
          exact this.1.2
        have hitm : ∀ y ∈ x4, dep (k + 1) y ≤ k := by
          by_cases h5 : x0 = 5 ∨ x0 = 6
          · exact HIT.out h5
          · have h1 := HQ1.out
            have h3 := HQ3.out
            unfold r1 at h1
            unfold r3 at h3
            simp only [Bool.and_eq_true, decide_eq_true_eq] at h1 h3
            have : ¬ 5 ≤ x0 := by omega
            have h4 := h3.1.1.2
            rw [decide_eq_false this, Bool.false_or, decide_eq_true_eq] at h4
            rw [List.length_eq_zero_iff.1 h4]
            intro y hy
            cases hy
        have HIM := Lib.hid hitm; clear hitm HIT HQ1 HQ3
        go_wp2_with fail
        go_loopw [3] (fun v3 wr => ∃ j : Nat, j ≤ x3.length ∧ v3 = .int .i64 j ∧ (∀ i, i < j → okAt x3 i = true) ∧ Below w.heap.size w wr ∧ wr.heap[w.heap.size]? = some (.cells #[.int .i64 x0, .int .i64 x1, .string x2, .slice A3 x3.length c3, .slice A4 x4.length c4] 25 (0, 0))) (fun v3 _ => x3.length - (intOf v3).toNat)
        case atStart => exact ⟨0, Nat.zero_le _, rfl, fun i hi => absurd hi (Nat.not_lt_zero _), HB.out, HK.out⟩
        case round =>
          obtain ⟨j, hj, rfl, hok, hBr, hKr⟩ := hrel
          have HO := Lib.hid hok; clear hok
          have HR := Lib.hid hBr; clear hBr
          clear HB HK f0 f3 f4
          have f3 : wr.cell? ⟨w.heap.size, 3, none⟩ = some (.slice A3 x3.length c3) := (blk_cell hKr 3).trans rfl
          have f4 : wr.cell? ⟨w.heap.size, 4, none⟩ = some (.slice A4 x4.length c4) := (blk_cell hKr 4).trans rfl
          have HKR := Lib.hid hKr; clear hKr
          by_cases hlt : j < x3.length
          · have hji : (j : Int) < (x3.length : Int) := by omega
            obtain ⟨s, hs⟩ : ∃ s, x3[j]? = some s := ⟨_, List.getElem?_eq_getElem hlt⟩
            obtain ⟨b, o, rfl, hb, e0⟩ := name_of HRD.out.g3 rfl j s hs
            replace e0 := (HR.out.cell (World.block_lt_of_cell? w _ e0)).trans e0
            have hX := text_ref s wr.drew
            have hget : x3.getD j ByteArray.empty = s := by rw [List.getD_eq_getElem?_getD, hs]; rfl
            clear hs
            have HG := Lib.hid hget; clear hget
            have bad : okAt x3 j = false → false = ANS := fun hb => by
              rw [← HA.out, show namesJ x3 = false from List.all_eq_false.2 ⟨j, by simpa using hlt, by simp [hb]⟩, Bool.false_and]
            have BAD := Lib.hid bad; clear bad
            cases ht : textJ s with
            | false =>
              have hno := BAD.out (by unfold okAt; rw [HG.out, ht, Bool.false_and])
              subst hno
              rw [ht] at hX
              clear HA BAD
              go_upto_region 10 with fail
              refine start_ (n := 25) (S := fun w' => w'.cell? ⟨w.heap.size, 3, none⟩ = some (.slice (some ⟨b, o, none⟩) x3.length c3) ∧ w'.cell? ⟨b, o + j, none⟩ = some (.string s)) (ds := []) #[false, false, false, false, false, false, false, false, false, false, false, false, false, false, false, false, false, false, false, false, false, false, false, false, false] (by kernel_rfl) rfl rfl ⟨f3, e0⟩ (fun hHeld => ?_)
              refine pure_ (i := 0) (N := some 84) (v := ?_) (a' := ?_) #[true, false, false, false, false, false, false, false, false, false, false, false, false, false, false, false, false, false, false, false, false, false, false, false, false] rfl rfl (by kernel_rfl) (fun _ _ _ h => h) (Or.inl ⟨by rfl, ?_⟩) ?_ ?_
              rotate_left
              · intro w'
                go_simp
                with_reducible rfl
              rotate_left
              · simp only [Act.put, List.setIfInBounds_toArray, List.set_cons_zero, List.set_cons_succ]
                rfl
              refine pure_ (i := 2) (N := some 86) (v := ?_) (a' := ?_) #[true, false, true, false, false, false, false, false, false, false, false, false, false, false, false, false, false, false, false, false, false, false, false, false, false] rfl rfl (by kernel_rfl) (fun _ _ _ h => h) (Or.inl ⟨by rfl, ?_⟩) ?_ ?_
              rotate_left
              · intro w'
                go_simp
                with_reducible rfl
              rotate_left
              · simp only [Act.put, List.setIfInBounds_toArray, List.set_cons_zero, List.set_cons_succ]
                rfl
              refine take_ (i := 1) (N := some 85) (v := ?_) (a' := ?_) #[true, true, true, false, false, false, false, false, false, false, false, false, false, false, false, false, false, false, false, false, false, false, false, false, false] rfl rfl (by kernel_rfl) (fun _ _ _ h => h) (Or.inl ⟨by rfl, ?_⟩) hHeld ?_ ?_
              rotate_left
              · rintro w' ⟨s0, s1⟩
                go_simp
                with_reducible rfl
              rotate_left
              · simp only [Act.put, List.setIfInBounds_toArray, List.set_cons_zero, List.set_cons_succ]
                rfl
              refine pure_ (i := 3) (N := some 87) (v := ?_) (a' := ?_) #[true, true, true, true, false, false, false, false, false, false, false, false, false, false, false, false, false, false, false, false, false, false, false, false, false] rfl rfl (by kernel_rfl) (fun _ _ _ h => h) (Or.inl ⟨by rfl, ?_⟩) ?_ ?_
              rotate_left
              · intro w'
                go_simp
                with_reducible rfl
              rotate_left
              · simp only [Act.put, List.setIfInBounds_toArray, List.set_cons_zero, List.set_cons_succ]
                rfl
              refine take_ (i := 4) (N := some 88) (v := ?_) (a' := ?_) #[true, true, true, true, true, false, false, false, false, false, false, false, false, false, false, false, false, false, false, false, false, false, false, false, false] rfl rfl (by kernel_rfl) (fun _ _ _ h => h) (Or.inl ⟨by rfl, ?_⟩) hHeld ?_ ?_
              rotate_left
              · rintro w' ⟨s0, s1⟩
                go_simp
                with_reducible rfl
              rotate_left
              · simp only [Act.put, List.setIfInBounds_toArray, List.set_cons_zero, List.set_cons_succ]
                rfl
              refine one_ (i := 5) (N := some 89) #[true, true, true, true, true, true, false, false, false, false, false, false, false, false, false, false, false, false, false, false, false, false, false, false, false] rfl rfl (by kernel_rfl) (by decide) (fun K hK => ?_)
              refine goes_ Tryd.func81 (by kernel_rfl) rfl #[.string s] (by rfl) rfl rfl (by simp only [List.map_toArray, List.map_cons, List.map_nil]; rfl) ?_
              with_reducible refine (hX).mono ?_
              rintro e w2 ⟨rfl, hbc⟩
              refine ⟨_, rfl, ?_⟩
              have hbw : Below wr.heap.size wr w2 := (Below.refl _ wr).drew.trans hbc
              have HBC := Lib.hid hbw
              clear hbc hbw
              refine hK.out _ _ ⟨((HBC.out.cell (World.block_lt_of_cell? wr _ f3)).trans f3), ((HBC.out.cell (World.block_lt_of_cell? wr _ e0)).trans e0)⟩ (fun hHeld => ?_)
              clear hK K
              refine norm_ (a' := ?_) ?_ ?_
              rotate_left
              · show Act.put _ (some 89) _ = _
                simp only [Act.put, List.setIfInBounds_toArray, List.set_cons_zero, List.set_cons_succ]
                rfl
              refine pure_ (i := 6) (N := some 90) (v := ?_) (a' := ?_) #[true, true, true, true, true, true, true, false, false, false, false, false, false, false, false, false, false, false, false, false, false, false, false, false, false] rfl rfl (by kernel_rfl) (fun _ _ _ h => h) (Or.inl ⟨by rfl, ?_⟩) ?_ ?_
              rotate_left
              · intro w'
                go_simp
                with_reducible rfl
              rotate_left
              · simp only [Act.put, List.setIfInBounds_toArray, List.set_cons_zero, List.set_cons_succ]
                rfl
              refine pure_ (i := 7) (N := some 91) (v := ?_) (a' := ?_) #[true, true, true, true, true, true, true, true, false, false, false, false, false, false, false, false, false, false, false, false, false, false, false, false, false] rfl rfl (by kernel_rfl) (fun _ _ _ h => h) (Or.inl ⟨by rfl, ?_⟩) ?_ ?_
              rotate_left
              · intro w'
                go_simp
                with_reducible rfl
              rotate_left
              · simp only [Act.put, List.setIfInBounds_toArray, List.set_cons_zero, List.set_cons_succ]
                rfl
              refine pure_ (i := 8) (N := some 92) (v := undef) (a' := ?_) #[true, true, true, true, true, true, true, true, true, false, false, false, false, false, false, false, false, false, false, false, false, false, false, false, false] rfl rfl (by kernel_rfl) (fun _ _ _ h => h) (Or.inr ⟨by rfl, rfl⟩) ?_ ?_
              rotate_left
              · simp only [Act.put, List.setIfInBounds_toArray, List.set_cons_zero, List.set_cons_succ]
                rfl
              refine pure_ (i := 9) (N := some 93) (v := undef) (a' := ?_) #[true, true, true, true, true, true, true, true, true, true, false, false, false, false, false, false, false, false, false, false, false, false, false, false, false] rfl rfl (by kernel_rfl) (fun _ _ _ h => h) (Or.inr ⟨by rfl, rfl⟩) ?_ ?_
              rotate_left
              · simp only [Act.put, List.setIfInBounds_toArray, List.set_cons_zero, List.set_cons_succ]
                rfl
              refine pure_ (i := 10) (N := some 94) (v := undef) (a' := ?_) #[true, true, true, true, true, true, true, true, true, true, true, false, false, false, false, false, false, false, false, false, false, false, false, false, false] rfl rfl (by kernel_rfl) (fun _ _ _ h => h) (Or.inr ⟨by rfl, rfl⟩) ?_ ?_
              rotate_left
              · simp only [Act.put, List.setIfInBounds_toArray, List.set_cons_zero, List.set_cons_succ]
                rfl
              refine pure_ (i := 11) (N := some 95) (v := undef) (a' := ?_) #[true, true, true, true, true, true, true, true, true, true, true, true, false, false, false, false, false, false, false, false, false, false, false, false, false] rfl rfl (by kernel_rfl) (fun _ _ _ h => h) (Or.inr ⟨by rfl, rfl⟩) ?_ ?_
              rotate_left
              · simp only [Act.put, List.setIfInBounds_toArray, List.set_cons_zero, List.set_cons_succ]
                rfl
              refine pure_ (i := 12) (N := some 96) (v := undef) (a' := ?_) #[true, true, true, true, true, true, true, true, true, true, true, true, true, false, false, false, false, false, false, false, false, false, false, false, false] rfl rfl (by kernel_rfl) (fun _ _ _ h => h) (Or.inr ⟨by rfl, rfl⟩) ?_ ?_
              rotate_left
              · simp only [Act.put, List.setIfInBounds_toArray, List.set_cons_zero, List.set_cons_succ]
                rfl
              refine pure_ (i := 13) (N := some 97) (v := undef) (a' := ?_) #[true, true, true, true, true, true, true, true, true, true, true, true, true, true, false, false, false, false, false, false, false, false, false, false, false] rfl rfl (by kernel_rfl) (fun _ _ _ h => h) (Or.inr ⟨by rfl, rfl⟩) ?_ ?_
              rotate_left
              · simp only [Act.put, List.setIfInBounds_toArray, List.set_cons_zero, List.set_cons_succ]
                rfl
              refine pure_ (i := 14) (N := some 98) (v := undef) (a' := ?_) #[true, true, true, true, true, true, true, true, true, true, true, true, true, true, true, false, false, false, false, false, false, false, false, false, false] rfl rfl (by kernel_rfl) (fun _ _ _ h => h) (Or.inr ⟨by rfl, rfl⟩) ?_ ?_
              rotate_left
              · simp only [Act.put, List.setIfInBounds_toArray, List.set_cons_zero, List.set_cons_succ]
                rfl
              refine pure_ (i := 15) (N := some 99) (v := undef) (a' := ?_) #[true, true, true, true, true, true, true, true, true, true, true, true, true, true, true, true, false, false, false, false, false, false, false, false, false] rfl rfl (by kernel_rfl) (fun _ _ _ h => h) (Or.inr ⟨by rfl, rfl⟩) ?_ ?_
              rotate_left
              · simp only [Act.put, List.setIfInBounds_toArray, List.set_cons_zero, List.set_cons_succ]
                rfl
              refine pure_ (i := 16) (N := some 100) (v := undef) (a' := ?_) #[true, true, true, true, true, true, true, true, true, true, true, true, true, true, true, true, true, false, false, false, false, false, false, false, false] rfl rfl (by kernel_rfl) (fun _ _ _ h => h) (Or.inr ⟨by rfl, rfl⟩) ?_ ?_
              rotate_left
              · simp only [Act.put, List.setIfInBounds_toArray, List.set_cons_zero, List.set_cons_succ]
                rfl
              refine pure_ (i := 17) (N := some 101) (v := undef) (a' := ?_) #[true, true, true, true, true, true, true, true, true, true, true, true, true, true, true, true, true, true, false, false, false, false, false, false, false] rfl rfl (by kernel_rfl) (fun _ _ _ h => h) (Or.inr ⟨by rfl, rfl⟩) ?_ ?_
              rotate_left
              · simp only [Act.put, List.setIfInBounds_toArray, List.set_cons_zero, List.set_cons_succ]
                rfl
              refine pure_ (i := 18) (N := some 102) (v := undef) (a' := ?_) #[true, true, true, true, true, true, true, true, true, true, true, true, true, true, true, true, true, true, true, false, false, false, false, false, false] rfl rfl (by kernel_rfl) (fun _ _ _ h => h) (Or.inr ⟨by rfl, rfl⟩) ?_ ?_
              rotate_left
              · simp only [Act.put, List.setIfInBounds_toArray, List.set_cons_zero, List.set_cons_succ]
                rfl
              refine pure_ (i := 19) (N := some 103) (v := undef) (a' := ?_) #[true, true, true, true, true, true, true, true, true, true, true, true, true, true, true, true, true, true, true, true, false, false, false, false, false] rfl rfl (by kernel_rfl) (fun _ _ _ h => h) (Or.inr ⟨by rfl, rfl⟩) ?_ ?_
              rotate_left
              · simp only [Act.put, List.setIfInBounds_toArray, List.set_cons_zero, List.set_cons_succ]
                rfl
              refine pure_ (i := 20) (N := some 104) (v := undef) (a' := ?_) #[true, true, true, true, true, true, true, true, true, true, true, true, true, true, true, true, true, true, true, true, true, false, false, false, false] rfl rfl (by kernel_rfl) (fun _ _ _ h => h) (Or.inr ⟨by rfl, rfl⟩) ?_ ?_
              rotate_left
              · simp only [Act.put, List.setIfInBounds_toArray, List.set_cons_zero, List.set_cons_succ]
                rfl
              refine pure_ (i := 21) (N := some 105) (v := undef) (a' := ?_) #[true, true, true, true, true, true, true, true, true, true, true, true, true, true, true, true, true, true, true, true, true, true, false, false, false] rfl rfl (by kernel_rfl) (fun _ _ _ h => h) (Or.inr ⟨by rfl, rfl⟩) ?_ ?_
              rotate_left
              · simp only [Act.put, List.setIfInBounds_toArray, List.set_cons_zero, List.set_cons_succ]
                rfl
              refine pure_ (i := 22) (N := some 106) (v := undef) (a' := ?_) #[true, true, true, true, true, true, true, true, true, true, true, true, true, true, true, true, true, true, true, true, true, true, true, false, false] rfl rfl (by kernel_rfl) (fun _ _ _ h => h) (Or.inr ⟨by rfl, rfl⟩) ?_ ?_
              rotate_left
              · simp only [Act.put, List.setIfInBounds_toArray, List.set_cons_zero, List.set_cons_succ]
                rfl
              refine pure_ (i := 23) (N := some 107) (v := undef) (a' := ?_) #[true, true, true, true, true, true, true, true, true, true, true, true, true, true, true, true, true, true, true, true, true, true, true, true, false] rfl rfl (by kernel_rfl) (fun _ _ _ h => h) (Or.inr ⟨by rfl, rfl⟩) ?_ ?_
              rotate_left
              · simp only [Act.put, List.setIfInBounds_toArray, List.set_cons_zero, List.set_cons_succ]
                rfl
              refine pure_ (i := 24) (N := some 108) (v := ?_) (a' := ?_) #[true, true, true, true, true, true, true, true, true, true, true, true, true, true, true, true, true, true, true, true, true, true, true, true, true] rfl rfl (by kernel_rfl) (fun _ _ _ h => h) (Or.inl ⟨by rfl, ?_⟩) ?_ ?_
              rotate_left
              · intro w'
                go_simp
                with_reducible rfl
              rotate_left
              · simp only [Act.put, List.setIfInBounds_toArray, List.set_cons_zero, List.set_cons_succ]
                rfl
              refine done_ (by kernel_rfl) ?_

              have hfin := HR.out.trans (HBC.out.mono HR.out.size)
              have HFIN := Lib.hid hfin; clear hfin hX f3 f4 e0
              go_wp2_with fail
              go_ret
              exact ⟨rfl, HFIN.out⟩
            | true =>
              rw [ht] at hX
              by_cases hj0 : j = 0
              · subst hj0
                have hgood : okAt x3 0 = true := by unfold okAt; rw [HG.out, ht]; rfl
                have HGD := Lib.hid hgood; clear hgood
                rw [Nat.add_zero] at e0
                go_upto_region 10 with fail
                refine start_ (n := 25) (S := fun w' => w'.cell? ⟨w.heap.size, 3, none⟩ = some (.slice (some ⟨b, o, none⟩) x3.length c3) ∧ w'.cell? ⟨b, o, none⟩ = some (.string s)) (ds := []) #[false, false, false, false, false, false, false, false, false, false, false, false, false, false, false, false, false, false, false, false, false, false, false, false, false] (by kernel_rfl) rfl rfl ⟨f3, e0⟩ (fun hHeld => ?_)
                refine pure_ (i := 0) (N := some 84) (v := ?_) (a' := ?_) #[true, false, false, false, false, false, false, false, false, false, false, false, false, false, false, false, false, false, false, false, false, false, false, false, false] rfl rfl (by kernel_rfl) (fun _ _ _ h => h) (Or.inl ⟨by rfl, ?_⟩) ?_ ?_
                rotate_left
                · intro w'
                  go_simp
                  with_reducible rfl
                rotate_left
                · simp only [Act.put, List.setIfInBounds_toArray, List.set_cons_zero, List.set_cons_succ]
                  rfl
                refine pure_ (i := 2) (N := some 86) (v := ?_) (a' := ?_) #[true, false, true, false, false, false, false, false, false, false, false, false, false, false, false, false, false, false, false, false, false, false, false, false, false] rfl rfl (by kernel_rfl) (fun _ _ _ h => h) (Or.inl ⟨by rfl, ?_⟩) ?_ ?_
                rotate_left
                · intro w'
                  go_simp
                  with_reducible rfl
                rotate_left
                · simp only [Act.put, List.setIfInBounds_toArray, List.set_cons_zero, List.set_cons_succ]
                  rfl
                refine take_ (i := 1) (N := some 85) (v := ?_) (a' := ?_) #[true, true, true, false, false, false, false, false, false, false, false, false, false, false, false, false, false, false, false, false, false, false, false, false, false] rfl rfl (by kernel_rfl) (fun _ _ _ h => h) (Or.inl ⟨by rfl, ?_⟩) hHeld ?_ ?_
                rotate_left
                · rintro w' ⟨s0, s1⟩
                  go_simp
                  with_reducible rfl
                rotate_left
                · simp only [Act.put, List.setIfInBounds_toArray, List.set_cons_zero, List.set_cons_succ]
                  rfl
                refine pure_ (i := 3) (N := some 87) (v := ?_) (a' := ?_) #[true, true, true, true, false, false, false, false, false, false, false, false, false, false, false, false, false, false, false, false, false, false, false, false, false] rfl rfl (by kernel_rfl) (fun _ _ _ h => h) (Or.inl ⟨by rfl, ?_⟩) ?_ ?_
                rotate_left
                · intro w'
                  go_simp
                  with_reducible rfl
                rotate_left
                · simp only [Act.put, List.setIfInBounds_toArray, List.set_cons_zero, List.set_cons_succ]
                  rfl
                refine take_ (i := 4) (N := some 88) (v := ?_) (a' := ?_) #[true, true, true, true, true, false, false, false, false, false, false, false, false, false, false, false, false, false, false, false, false, false, false, false, false] rfl rfl (by kernel_rfl) (fun _ _ _ h => h) (Or.inl ⟨by rfl, ?_⟩) hHeld ?_ ?_
                rotate_left
                · rintro w' ⟨s0, s1⟩
                  go_simp
                  with_reducible rfl
                rotate_left
                · simp only [Act.put, List.setIfInBounds_toArray, List.set_cons_zero, List.set_cons_succ]
                  rfl
                refine one_ (i := 5) (N := some 89) #[true, true, true, true, true, true, false, false, false, false, false, false, false, false, false, false, false, false, false, false, false, false, false, false, false] rfl rfl (by kernel_rfl) (by decide) (fun K hK => ?_)
                refine goes_ Tryd.func81 (by kernel_rfl) rfl #[.string s] (by rfl) rfl rfl (by simp only [List.map_toArray, List.map_cons, List.map_nil]; rfl) ?_
                with_reducible refine (hX).mono ?_
                rintro e w2 ⟨rfl, hbc⟩
                refine ⟨_, rfl, ?_⟩
                have hbw : Below wr.heap.size wr w2 := (Below.refl _ wr).drew.trans hbc
                have HBC := Lib.hid hbw
                clear hbc hbw
                refine hK.out _ _ ⟨((HBC.out.cell (World.block_lt_of_cell? wr _ f3)).trans f3), ((HBC.out.cell (World.block_lt_of_cell? wr _ e0)).trans e0)⟩ (fun hHeld => ?_)
                clear hK K
                refine norm_ (a' := ?_) ?_ ?_
                rotate_left
                · show Act.put _ (some 89) _ = _
                  simp only [Act.put, List.setIfInBounds_toArray, List.set_cons_zero, List.set_cons_succ]
                  rfl
                refine pure_ (i := 6) (N := some 90) (v := ?_) (a' := ?_) #[true, true, true, true, true, true, true, false, false, false, false, false, false, false, false, false, false, false, false, false, false, false, false, false, false] rfl rfl (by kernel_rfl) (fun _ _ _ h => h) (Or.inl ⟨by rfl, ?_⟩) ?_ ?_
                rotate_left
                · intro w'
                  go_simp
                  with_reducible rfl
                rotate_left
                · simp only [Act.put, List.setIfInBounds_toArray, List.set_cons_zero, List.set_cons_succ]
                  rfl
                refine pure_ (i := 7) (N := some 91) (v := ?_) (a' := ?_) #[true, true, true, true, true, true, true, true, false, false, false, false, false, false, false, false, false, false, false, false, false, false, false, false, false] rfl rfl (by kernel_rfl) (fun _ _ _ h => h) (Or.inl ⟨by rfl, ?_⟩) ?_ ?_
                rotate_left
                · intro w'
                  go_simp
                  with_reducible rfl
                rotate_left
                · simp only [Act.put, List.setIfInBounds_toArray, List.set_cons_zero, List.set_cons_succ]
                  rfl
                refine pure_ (i := 8) (N := some 92) (v := ?_) (a' := ?_) #[true, true, true, true, true, true, true, true, true, false, false, false, false, false, false, false, false, false, false, false, false, false, false, false, false] rfl rfl (by kernel_rfl) (fun _ _ _ h => h) (Or.inl ⟨by rfl, ?_⟩) ?_ ?_
                rotate_left
                · intro w'
                  go_simp
                  with_reducible rfl
                rotate_left
                · simp only [Act.put, List.setIfInBounds_toArray, List.set_cons_zero, List.set_cons_succ]
                  rfl
                refine pure_ (i := 9) (N := some 93) (v := ?_) (a' := ?_) #[true, true, true, true, true, true, true, true, true, true, false, false, false, false, false, false, false, false, false, false, false, false, false, false, false] rfl rfl (by kernel_rfl) (fun _ _ _ h => h) (Or.inl ⟨by rfl, ?_⟩) ?_ ?_
                rotate_left
                · intro w'
                  go_simp
                  with_reducible rfl
                rotate_left
                · simp only [Act.put, List.setIfInBounds_toArray, List.set_cons_zero, List.set_cons_succ]
                  rfl
                refine pure_ (i := 10) (N := some 94) (v := ?_) (a' := ?_) #[true, true, true, true, true, true, true, true, true, true, true, false, false, false, false, false, false, false, false, false, false, false, false, false, false] rfl rfl (by kernel_rfl) (fun _ _ _ h => h) (Or.inl ⟨by rfl, ?_⟩) ?_ ?_
                rotate_left
                · intro w'
                  go_simp
                  with_reducible rfl
                rotate_left
                · simp only [Act.put, List.setIfInBounds_toArray, List.set_cons_zero, List.set_cons_succ]
                  rfl
                refine pure_ (i := 11) (N := some 95) (v := undef) (a' := ?_) #[true, true, true, true, true, true, true, true, true, true, true, true, false, false, false, false, false, false, false, false, false, false, false, false, false] rfl rfl (by kernel_rfl) (fun _ _ _ h => h) (Or.inr ⟨by rfl, rfl⟩) ?_ ?_
                rotate_left
                · simp only [Act.put, List.setIfInBounds_toArray, List.set_cons_zero, List.set_cons_succ]
                  rfl
                refine pure_ (i := 12) (N := some 96) (v := undef) (a' := ?_) #[true, true, true, true, true, true, true, true, true, true, true, true, true, false, false, false, false, false, false, false, false, false, false, false, false] rfl rfl (by kernel_rfl) (fun _ _ _ h => h) (Or.inr ⟨by rfl, rfl⟩) ?_ ?_
                rotate_left
                · simp only [Act.put, List.setIfInBounds_toArray, List.set_cons_zero, List.set_cons_succ]
                  rfl
                refine pure_ (i := 13) (N := some 97) (v := undef) (a' := ?_) #[true, true, true, true, true, true, true, true, true, true, true, true, true, true, false, false, false, false, false, false, false, false, false, false, false] rfl rfl (by kernel_rfl) (fun _ _ _ h => h) (Or.inr ⟨by rfl, rfl⟩) ?_ ?_
                rotate_left
                · simp only [Act.put, List.setIfInBounds_toArray, List.set_cons_zero, List.set_cons_succ]
                  rfl
                refine pure_ (i := 14) (N := some 98) (v := undef) (a' := ?_) #[true, true, true, true, true, true, true, true, true, true, true, true, true, true, true, false, false, false, false, false, false, false, false, false, false] rfl rfl (by kernel_rfl) (fun _ _ _ h => h) (Or.inr ⟨by rfl, rfl⟩) ?_ ?_
                rotate_left
                · simp only [Act.put, List.setIfInBounds_toArray, List.set_cons_zero, List.set_cons_succ]
                  rfl
                refine pure_ (i := 15) (N := some 99) (v := undef) (a' := ?_) #[true, true, true, true, true, true, true, true, true, true, true, true, true, true, true, true, false, false, false, false, false, false, false, false, false] rfl rfl (by kernel_rfl) (fun _ _ _ h => h) (Or.inr ⟨by rfl, rfl⟩) ?_ ?_
                rotate_left
                · simp only [Act.put, List.setIfInBounds_toArray, List.set_cons_zero, List.set_cons_succ]
                  rfl
                refine pure_ (i := 16) (N := some 100) (v := undef) (a' := ?_) #[true, true, true, true, true, true, true, true, true, true, true, true, true, true, true, true, true, false, false, false, false, false, false, false, false] rfl rfl (by kernel_rfl) (fun _ _ _ h => h) (Or.inr ⟨by rfl, rfl⟩) ?_ ?_
                rotate_left
                · simp only [Act.put, List.setIfInBounds_toArray, List.set_cons_zero, List.set_cons_succ]
                  rfl
                refine pure_ (i := 17) (N := some 101) (v := undef) (a' := ?_) #[true, true, true, true, true, true, true, true, true, true, true, true, true, true, true, true, true, true, false, false, false, false, false, false, false] rfl rfl (by kernel_rfl) (fun _ _ _ h => h) (Or.inr ⟨by rfl, rfl⟩) ?_ ?_
                rotate_left
                · simp only [Act.put, List.setIfInBounds_toArray, List.set_cons_zero, List.set_cons_succ]
                  rfl
                refine pure_ (i := 18) (N := some 102) (v := undef) (a' := ?_) #[true, true, true, true, true, true, true, true, true, true, true, true, true, true, true, true, true, true, true, false, false, false, false, false, false] rfl rfl (by kernel_rfl) (fun _ _ _ h => h) (Or.inr ⟨by rfl, rfl⟩) ?_ ?_
                rotate_left
                · simp only [Act.put, List.setIfInBounds_toArray, List.set_cons_zero, List.set_cons_succ]
                  rfl
                refine pure_ (i := 19) (N := some 103) (v := undef) (a' := ?_) #[true, true, true, true, true, true, true, true, true, true, true, true, true, true, true, true, true, true, true, true, false, false, false, false, false] rfl rfl (by kernel_rfl) (fun _ _ _ h => h) (Or.inr ⟨by rfl, rfl⟩) ?_ ?_
                rotate_left
                · simp only [Act.put, List.setIfInBounds_toArray, List.set_cons_zero, List.set_cons_succ]
                  rfl
                refine pure_ (i := 20) (N := some 104) (v := undef) (a' := ?_) #[true, true, true, true, true, true, true, true, true, true, true, true, true, true, true, true, true, true, true, true, true, false, false, false, false] rfl rfl (by kernel_rfl) (fun _ _ _ h => h) (Or.inr ⟨by rfl, rfl⟩) ?_ ?_
                rotate_left
                · simp only [Act.put, List.setIfInBounds_toArray, List.set_cons_zero, List.set_cons_succ]
                  rfl
                refine pure_ (i := 21) (N := some 105) (v := undef) (a' := ?_) #[true, true, true, true, true, true, true, true, true, true, true, true, true, true, true, true, true, true, true, true, true, true, false, false, false] rfl rfl (by kernel_rfl) (fun _ _ _ h => h) (Or.inr ⟨by rfl, rfl⟩) ?_ ?_
                rotate_left
                · simp only [Act.put, List.setIfInBounds_toArray, List.set_cons_zero, List.set_cons_succ]
                  rfl
                refine pure_ (i := 22) (N := some 106) (v := undef) (a' := ?_) #[true, true, true, true, true, true, true, true, true, true, true, true, true, true, true, true, true, true, true, true, true, true, true, false, false] rfl rfl (by kernel_rfl) (fun _ _ _ h => h) (Or.inr ⟨by rfl, rfl⟩) ?_ ?_
                rotate_left
                · simp only [Act.put, List.setIfInBounds_toArray, List.set_cons_zero, List.set_cons_succ]
                  rfl
                refine pure_ (i := 23) (N := some 107) (v := ?_) (a' := ?_) #[true, true, true, true, true, true, true, true, true, true, true, true, true, true, true, true, true, true, true, true, true, true, true, true, false] rfl rfl (by kernel_rfl) (fun _ _ _ h => h) (Or.inl ⟨by rfl, ?_⟩) ?_ ?_
                rotate_left
                · intro w'
                  go_simp
                  with_reducible rfl
                rotate_left
                · simp only [Act.put, List.setIfInBounds_toArray, List.set_cons_zero, List.set_cons_succ]
                  rfl
                refine pure_ (i := 24) (N := some 108) (v := ?_) (a' := ?_) #[true, true, true, true, true, true, true, true, true, true, true, true, true, true, true, true, true, true, true, true, true, true, true, true, true] rfl rfl (by kernel_rfl) (fun _ _ _ h => h) (Or.inl ⟨by rfl, ?_⟩) ?_ ?_
                rotate_left
                · intro w'
                  go_simp
                  with_reducible rfl
                rotate_left
                · simp only [Act.put, List.setIfInBounds_toArray, List.set_cons_zero, List.set_cons_succ]
                  rfl
                refine done_ (by kernel_rfl) ?_

                have hfin := HR.out.trans (HBC.out.mono HR.out.size)
                have HFIN := Lib.hid hfin; clear hfin hX f3 f4 e0
                go_wp2_with fail
                go_roundw
                case rel =>
                  refine ⟨1, by omega, by go_num, fun i hi => ?_, HFIN.out, blk_below HKR.out HBC.out⟩
                  obtain rfl : i = 0 := by omega
                  exact HGD.out
                case measure => simp [intOf]; omega
              · obtain ⟨i, rfl⟩ : ∃ i, j = i + 1 := ⟨j - 1, by omega⟩
                have hii : (0 : Int) < (i : Int) + 1 := by omega
                have hi0 : (0 : Int) ≤ (i : Int) + 1 := by omega
                have hdi : decide ((0 : Int) < (i : Int) + 1) = true := decide_eq_true hii
                have hi1 : (i : Int) < (x3.length : Int) := by omega
                obtain ⟨s', hs'⟩ : ∃ s', x3[i]? = some s' := ⟨_, List.getElem?_eq_getElem (by omega)⟩
                obtain ⟨b', o', he, hb', e1⟩ := name_of HRD.out.g3 rfl i s' hs'
                obtain ⟨rfl, rfl⟩ : b = b' ∧ o = o' := by simpa using he
                replace e1 := (HR.out.cell (World.block_lt_of_cell? w _ e1)).trans e1
                have hget' : x3.getD i ByteArray.empty = s' := by rw [List.getD_eq_getElem?_getD, hs']; rfl
                clear he hs'
                have hokj : okAt x3 (i + 1) = Op.bytesLess s'.toList s.toList := by
                  unfold okAt
                  rw [HG.out, ht, Nat.add_sub_cancel, hget']
                  simp
                clear hget'
                have HOK := Lib.hid hokj; clear hokj
                obtain ⟨L, hl⟩ : ∃ L, Op.bytesLess s'.toList s.toList = L := ⟨_, rfl⟩
                have HL := Lib.hid hl
                have wr1 : IntKind.i64.wrap ((i : Int) + 1 - 1) = (i : Int) := by rw [IntKind.wrap_i64]; omega
                have wr2 : IntKind.i64.wrap (i : Int) = (i : Int) := by rw [IntKind.wrap_i64]; omega
                go_upto_region 10 with fail
                refine start_ (n := 25) (S := fun w' => w'.cell? ⟨w.heap.size, 3, none⟩ = some (.slice (some ⟨b, o, none⟩) x3.length c3) ∧ w'.cell? ⟨b, o + (i + 1), none⟩ = some (.string s) ∧ w'.cell? ⟨b, o + i, none⟩ = some (.string s')) (ds := []) #[false, false, false, false, false, false, false, false, false, false, false, false, false, false, false, false, false, false, false, false, false, false, false, false, false] (by kernel_rfl) rfl rfl ⟨f3, e0, e1⟩ (fun hHeld => ?_)
                refine pure_ (i := 0) (N := some 84) (v := ?_) (a' := ?_) #[true, false, false, false, false, false, false, false, false, false, false, false, false, false, false, false, false, false, false, false, false, false, false, false, false] rfl rfl (by kernel_rfl) (fun _ _ _ h => h) (Or.inl ⟨by rfl, ?_⟩) ?_ ?_
                rotate_left
                · intro w'
                  go_simp
                  with_reducible rfl
                rotate_left
                · simp only [Act.put, List.setIfInBounds_toArray, List.set_cons_zero, List.set_cons_succ]
                  rfl
                refine pure_ (i := 2) (N := some 86) (v := ?_) (a' := ?_) #[true, false, true, false, false, false, false, false, false, false, false, false, false, false, false, false, false, false, false, false, false, false, false, false, false] rfl rfl (by kernel_rfl) (fun _ _ _ h => h) (Or.inl ⟨by rfl, ?_⟩) ?_ ?_
                rotate_left
                · intro w'
                  go_simp
                  with_reducible rfl
                rotate_left
                · simp only [Act.put, List.setIfInBounds_toArray, List.set_cons_zero, List.set_cons_succ]
                  rfl
                refine take_ (i := 1) (N := some 85) (v := ?_) (a' := ?_) #[true, true, true, false, false, false, false, false, false, false, false, false, false, false, false, false, false, false, false, false, false, false, false, false, false] rfl rfl (by kernel_rfl) (fun _ _ _ h => h) (Or.inl ⟨by rfl, ?_⟩) hHeld ?_ ?_
                rotate_left
                · rintro w' ⟨s0, s1, s2⟩
                  go_simp
                  with_reducible rfl
                rotate_left
                · simp only [Act.put, List.setIfInBounds_toArray, List.set_cons_zero, List.set_cons_succ]
                  rfl
                refine pure_ (i := 3) (N := some 87) (v := ?_) (a' := ?_) #[true, true, true, true, false, false, false, false, false, false, false, false, false, false, false, false, false, false, false, false, false, false, false, false, false] rfl rfl (by kernel_rfl) (fun _ _ _ h => h) (Or.inl ⟨by rfl, ?_⟩) ?_ ?_
                rotate_left
                · intro w'
                  go_simp
                  with_reducible rfl
                rotate_left
                · simp only [Act.put, List.setIfInBounds_toArray, List.set_cons_zero, List.set_cons_succ]
                  rfl
                refine take_ (i := 4) (N := some 88) (v := ?_) (a' := ?_) #[true, true, true, true, true, false, false, false, false, false, false, false, false, false, false, false, false, false, false, false, false, false, false, false, false] rfl rfl (by kernel_rfl) (fun _ _ _ h => h) (Or.inl ⟨by rfl, ?_⟩) hHeld ?_ ?_
                rotate_left
                · rintro w' ⟨s0, s1, s2⟩
                  go_simp
                  with_reducible rfl
                rotate_left
                · simp only [Act.put, List.setIfInBounds_toArray, List.set_cons_zero, List.set_cons_succ]
                  rfl
                refine one_ (i := 5) (N := some 89) #[true, true, true, true, true, true, false, false, false, false, false, false, false, false, false, false, false, false, false, false, false, false, false, false, false] rfl rfl (by kernel_rfl) (by decide) (fun K hK => ?_)
                refine goes_ Tryd.func81 (by kernel_rfl) rfl #[.string s] (by rfl) rfl rfl (by simp only [List.map_toArray, List.map_cons, List.map_nil]; rfl) ?_
                with_reducible refine (hX).mono ?_
                rintro e w2 ⟨rfl, hbc⟩
                refine ⟨_, rfl, ?_⟩
                have hbw : Below wr.heap.size wr w2 := (Below.refl _ wr).drew.trans hbc
                have HBC := Lib.hid hbw
                clear hbc hbw
                refine hK.out _ _ ⟨((HBC.out.cell (World.block_lt_of_cell? wr _ f3)).trans f3), ((HBC.out.cell (World.block_lt_of_cell? wr _ e0)).trans e0), ((HBC.out.cell (World.block_lt_of_cell? wr _ e1)).trans e1)⟩ (fun hHeld => ?_)
                clear hK K
                refine norm_ (a' := ?_) ?_ ?_
                rotate_left
                · show Act.put _ (some 89) _ = _
                  simp only [Act.put, List.setIfInBounds_toArray, List.set_cons_zero, List.set_cons_succ]
                  rfl
                refine pure_ (i := 6) (N := some 90) (v := ?_) (a' := ?_) #[true, true, true, true, true, true, true, false, false, false, false, false, false, false, false, false, false, false, false, false, false, false, false, false, false] rfl rfl (by kernel_rfl) (fun _ _ _ h => h) (Or.inl ⟨by rfl, ?_⟩) ?_ ?_
                rotate_left
                · intro w'
                  go_simp
                  with_reducible rfl
                rotate_left
                · simp only [Act.put, List.setIfInBounds_toArray, List.set_cons_zero, List.set_cons_succ]
                  rfl
                refine pure_ (i := 7) (N := some 91) (v := ?_) (a' := ?_) #[true, true, true, true, true, true, true, true, false, false, false, false, false, false, false, false, false, false, false, false, false, false, false, false, false] rfl rfl (by kernel_rfl) (fun _ _ _ h => h) (Or.inl ⟨by rfl, ?_⟩) ?_ ?_
                rotate_left
                · intro w'
                  go_simp
                  with_reducible rfl
                rotate_left
                · simp only [Act.put, List.setIfInBounds_toArray, List.set_cons_zero, List.set_cons_succ]
                  rfl
                refine pure_ (i := 8) (N := some 92) (v := ?_) (a' := ?_) #[true, true, true, true, true, true, true, true, true, false, false, false, false, false, false, false, false, false, false, false, false, false, false, false, false] rfl rfl (by kernel_rfl) (fun _ _ _ h => h) (Or.inl ⟨by rfl, ?_⟩) ?_ ?_
                rotate_left
                · intro w'
                  go_simp
                  with_reducible rfl
                rotate_left
                · simp only [Act.put, List.setIfInBounds_toArray, List.set_cons_zero, List.set_cons_succ]
                  rfl
                refine pure_ (i := 9) (N := some 93) (v := ?_) (a' := ?_) #[true, true, true, true, true, true, true, true, true, true, false, false, false, false, false, false, false, false, false, false, false, false, false, false, false] rfl rfl (by kernel_rfl) (fun _ _ _ h => h) (Or.inl ⟨by rfl, ?_⟩) ?_ ?_
                rotate_left
                · intro w'
                  go_simp
                  with_reducible rfl
                rotate_left
                · simp only [Act.put, List.setIfInBounds_toArray, List.set_cons_zero, List.set_cons_succ]
                  rfl
                refine pure_ (i := 10) (N := some 94) (v := ?_) (a' := ?_) #[true, true, true, true, true, true, true, true, true, true, true, false, false, false, false, false, false, false, false, false, false, false, false, false, false] rfl rfl (by kernel_rfl) (fun _ _ _ h => h) (Or.inl ⟨by rfl, ?_⟩) ?_ ?_
                rotate_left
                · intro w'
                  go_simp
                  with_reducible rfl
                rotate_left
                · simp only [Act.put, List.setIfInBounds_toArray, List.set_cons_zero, List.set_cons_succ]
                  rfl
                refine pure_ (i := 11) (N := some 95) (v := ?_) (a' := ?_) #[true, true, true, true, true, true, true, true, true, true, true, true, false, false, false, false, false, false, false, false, false, false, false, false, false] rfl rfl (by kernel_rfl) (fun _ _ _ h => h) (Or.inl ⟨by rfl, ?_⟩) ?_ ?_
                rotate_left
                · intro w'
                  go_simp
                  with_reducible rfl
                rotate_left
                · simp only [Act.put, List.setIfInBounds_toArray, List.set_cons_zero, List.set_cons_succ]
                  rfl
                refine pure_ (i := 13) (N := some 97) (v := ?_) (a' := ?_) #[true, true, true, true, true, true, true, true, true, true, true, true, false, true, false, false, false, false, false, false, false, false, false, false, false] rfl rfl (by kernel_rfl) (fun _ _ _ h => h) (Or.inl ⟨by rfl, ?_⟩) ?_ ?_
                rotate_left
                · intro w'
                  go_simp
                  with_reducible rfl
                rotate_left
                · simp only [Act.put, List.setIfInBounds_toArray, List.set_cons_zero, List.set_cons_succ]
                  rfl
                refine pure_ (i := 14) (N := some 98) (v := ?_) (a' := ?_) #[true, true, true, true, true, true, true, true, true, true, true, true, false, true, true, false, false, false, false, false, false, false, false, false, false] rfl rfl (by kernel_rfl) (fun _ _ _ h => h) (Or.inl ⟨by rfl, ?_⟩) ?_ ?_
                rotate_left
                · intro w'
                  go_simp
                  with_reducible rfl
                rotate_left
                · simp only [Act.put, List.setIfInBounds_toArray, List.set_cons_zero, List.set_cons_succ]
                  rfl
                refine pure_ (i := 17) (N := some 101) (v := ?_) (a' := ?_) #[true, true, true, true, true, true, true, true, true, true, true, true, false, true, true, false, false, true, false, false, false, false, false, false, false] rfl rfl (by kernel_rfl) (fun _ _ _ h => h) (Or.inl ⟨by rfl, ?_⟩) ?_ ?_
                rotate_left
                · intro w'
                  go_simp
                  with_reducible rfl
                rotate_left
                · simp only [Act.put, List.setIfInBounds_toArray, List.set_cons_zero, List.set_cons_succ]
                  rfl
                refine pure_ (i := 19) (N := some 103) (v := ?_) (a' := ?_) #[true, true, true, true, true, true, true, true, true, true, true, true, false, true, true, false, false, true, false, true, false, false, false, false, false] rfl rfl (by kernel_rfl) (fun _ _ _ h => h) (Or.inl ⟨by rfl, ?_⟩) ?_ ?_
                rotate_left
                · intro w'
                  go_simp
                  with_reducible rfl
                rotate_left
                · simp only [Act.put, List.setIfInBounds_toArray, List.set_cons_zero, List.set_cons_succ]
                  rfl
                refine take_ (i := 12) (N := some 96) (v := ?_) (a' := ?_) #[true, true, true, true, true, true, true, true, true, true, true, true, true, true, true, false, false, true, false, true, false, false, false, false, false] rfl rfl (by kernel_rfl) (fun _ _ _ h => h) (Or.inl ⟨by rfl, ?_⟩) hHeld ?_ ?_
                rotate_left
                · rintro w' ⟨s0, s1, s2⟩
                  go_simp
                  with_reducible rfl
                rotate_left
                · simp only [Act.put, List.setIfInBounds_toArray, List.set_cons_zero, List.set_cons_succ]
                  rfl
                refine pure_ (i := 15) (N := some 99) (v := ?_) (a' := ?_) #[true, true, true, true, true, true, true, true, true, true, true, true, true, true, true, true, false, true, false, true, false, false, false, false, false] rfl rfl (by kernel_rfl) (fun _ _ _ h => h) (Or.inl ⟨by rfl, ?_⟩) ?_ ?_
                rotate_left
                · intro w'
                  go_simp
                  with_reducible rfl
                rotate_left
                · simp only [Act.put, List.setIfInBounds_toArray, List.set_cons_zero, List.set_cons_succ]
                  rfl
                refine take_ (i := 16) (N := some 100) (v := ?_) (a' := ?_) #[true, true, true, true, true, true, true, true, true, true, true, true, true, true, true, true, true, true, false, true, false, false, false, false, false] rfl rfl (by kernel_rfl) (fun _ _ _ h => h) (Or.inl ⟨by rfl, ?_⟩) hHeld ?_ ?_
                rotate_left
                · rintro w' ⟨s0, s1, s2⟩
                  go_simp
                  with_reducible rfl
                rotate_left
                · simp only [Act.put, List.setIfInBounds_toArray, List.set_cons_zero, List.set_cons_succ]
                  rfl
                refine take_ (i := 18) (N := some 102) (v := ?_) (a' := ?_) #[true, true, true, true, true, true, true, true, true, true, true, true, true, true, true, true, true, true, true, true, false, false, false, false, false] rfl rfl (by kernel_rfl) (fun _ _ _ h => h) (Or.inl ⟨by rfl, ?_⟩) hHeld ?_ ?_
                rotate_left
                · rintro w' ⟨s0, s1, s2⟩
                  go_simp
                  with_reducible rfl
                rotate_left
                · simp only [Act.put, List.setIfInBounds_toArray, List.set_cons_zero, List.set_cons_succ]
                  rfl
                refine pure_ (i := 20) (N := some 104) (v := ?_) (a' := ?_) #[true, true, true, true, true, true, true, true, true, true, true, true, true, true, true, true, true, true, true, true, true, false, false, false, false] rfl rfl (by kernel_rfl) (fun _ _ _ h => h) (Or.inl ⟨by rfl, ?_⟩) ?_ ?_
                rotate_left
                · intro w'
                  go_simp
                  with_reducible rfl
                rotate_left
                · simp only [Act.put, List.setIfInBounds_toArray, List.set_cons_zero, List.set_cons_succ]
                  rfl
                refine take_ (i := 21) (N := some 105) (v := ?_) (a' := ?_) #[true, true, true, true, true, true, true, true, true, true, true, true, true, true, true, true, true, true, true, true, true, true, false, false, false] rfl rfl (by kernel_rfl) (fun _ _ _ h => h) (Or.inl ⟨by rfl, ?_⟩) hHeld ?_ ?_
                rotate_left
                · rintro w' ⟨s0, s1, s2⟩
                  go_simp
                  with_reducible rfl
                rotate_left
                · simp only [Act.put, List.setIfInBounds_toArray, List.set_cons_zero, List.set_cons_succ]
                  rfl
                refine pure_ (i := 22) (N := some 106) (v := ?_) (a' := ?_) #[true, true, true, true, true, true, true, true, true, true, true, true, true, true, true, true, true, true, true, true, true, true, true, false, false] rfl rfl (by kernel_rfl) (fun _ _ _ h => h) (Or.inl ⟨by rfl, ?_⟩) ?_ ?_
                rotate_left
                · intro w'
                  go_simp
                  with_reducible rfl
                rotate_left
                · simp only [Act.put, List.setIfInBounds_toArray, List.set_cons_zero, List.set_cons_succ]
                  rfl
                refine pure_ (i := 23) (N := some 107) (v := ?_) (a' := ?_) #[true, true, true, true, true, true, true, true, true, true, true, true, true, true, true, true, true, true, true, true, true, true, true, true, false] rfl rfl (by kernel_rfl) (fun _ _ _ h => h) (Or.inl ⟨by rfl, ?_⟩) ?_ ?_
                rotate_left
                · intro w'
                  go_simp
                  with_reducible rfl
                rotate_left
                · simp only [Act.put, List.setIfInBounds_toArray, List.set_cons_zero, List.set_cons_succ]
                  rfl
                refine pure_ (i := 24) (N := some 108) (v := ?_) (a' := ?_) #[true, true, true, true, true, true, true, true, true, true, true, true, true, true, true, true, true, true, true, true, true, true, true, true, true] rfl rfl (by kernel_rfl) (fun _ _ _ h => h) (Or.inl ⟨by rfl, ?_⟩) ?_ ?_
                rotate_left
                · intro w'
                  go_simp
                  with_reducible rfl
                rotate_left
                · simp only [Act.put, List.setIfInBounds_toArray, List.set_cons_zero, List.set_cons_succ]
                  rfl
                refine done_ (by kernel_rfl) ?_

                have hfin := HR.out.trans (HBC.out.mono HR.out.size)
                have HFIN := Lib.hid hfin; clear hfin hX wr1 wr2
                clear hl
                cases L with
                | false =>
                  have hno := BAD.out (by rw [HOK.out, HL.out])
                  subst hno
                  clear HA BAD
                  go_wp2_with fail
                  go_ret
                  exact ⟨rfl, HFIN.out⟩
                | true =>
                  go_wp2_with fail
                  go_roundw
                  case rel =>
                    refine ⟨i + 2, by omega, by go_num, fun i' hi => ?_, HFIN.out, blk_below HKR.out HBC.out⟩
                    by_cases hi' : i' < i + 1
                    · exact HO.out i' hi'
                    · obtain rfl : i' = i + 1 := by omega
                      rw [HOK.out, HL.out]
                  case measure => simp [intOf]; omega
          · obtain rfl : j = x3.length := by omega
            have hnm : namesJ x3 = true := List.all_eq_true.2 (fun i hi => HO.out i (by simpa using hi))
            have hA := HA.out
            rw [hnm, Bool.true_and] at hA
            clear HA hnm
            have HA := Lib.hid hA; clear hA
            obtain ⟨wo, rfl⟩ : ∃ wo : World, wo = wr := ⟨_, rfl⟩
            go_wp2_with fail
            go_loopw [4] (fun v4 wr => ∃ j : Nat, j ≤ x4.length ∧ v4 = .int .i64 j ∧ ANS = (x4.drop j).all (formedJ k) ∧ Below w.heap.size w wr ∧ wr.heap[w.heap.size]? = some (.cells #[.int .i64 x0, .int .i64 x1, .string x2, .slice A3 x3.length c3, .slice A4 x4.length c4] 25 (0, 0))) (fun v4 _ => x4.length - (intOf v4).toNat)
            case atStart => exact ⟨0, Nat.zero_le _, rfl, HA.out.symm, HR.out, HKR.out⟩
            case round =>
              obtain ⟨j, hj, rfl, hS, hBr, hKr⟩ := hrel
              have HS := Lib.hid hS; clear hS
              have HQ := Lib.hid hBr; clear hBr
              clear f3 f4 HR HKR HO HA
              have f4 : wr.cell? ⟨w.heap.size, 4, none⟩ = some (.slice A4 x4.length c4) := (blk_cell hKr 4).trans rfl
              have HKR := Lib.hid hKr; clear hKr
              by_cases hlt : j < x4.length
              · have hji : (j : Int) < (x4.length : Int) := by omega
                obtain ⟨y, hy⟩ : ∃ y, x4[j]? = some y := ⟨_, List.getElem?_eq_getElem hlt⟩
                obtain ⟨b, o, B3, d3, B4, d4, rfl, hb, e0, e1, e2, e3, e4, hR⟩ := item_of HRD.out.g4 rfl j y hy
                replace e0 := (HQ.out.cell (World.block_lt_of_cell? w _ e0)).trans e0
                replace e1 := (HQ.out.cell (World.block_lt_of_cell? w _ e1)).trans e1
                replace e2 := (HQ.out.cell (World.block_lt_of_cell? w _ e2)).trans e2
                replace e3 := (HQ.out.cell (World.block_lt_of_cell? w _ e3)).trans e3
                replace e4 := (HQ.out.cell (World.block_lt_of_cell? w _ e4)).trans e4
                have hcall := HI.out y B3 d3 B4 d4 wr (HIM.out y (List.mem_of_getElem? hy)) (hR.below HQ.out)
                have hd : x4.drop j = y :: x4.drop (j + 1) := by
                  obtain ⟨hi, rfl⟩ := List.getElem?_eq_some_iff.1 hy
                  exact List.drop_eq_getElem_cons hi
                have HD := Lib.hid hd; clear hd hy hR
                obtain ⟨y0, y1, y2, y3, y4⟩ := y
                obtain ⟨q, hq⟩ : ∃ q, formedJ k ⟨y0, y1, y2, y3, y4⟩ = q := ⟨_, rfl⟩
                rw [hq] at hcall
                have HQQ := Lib.hid hq; clear hq
                cases q with
                | false =>
                  have hno : ANS = false := by rw [HS.out, HD.out, List.all_cons, HQQ.out, Bool.false_and]
                  subst hno
                  go_wp2_with fail
                  refine hcall.mono ?_; rintro e w2 ⟨rfl, hb⟩
                  have HB2 := Lib.hid hb; clear hb hcall
                  go_wp2_with fail
                  go_ret
                  exact ⟨rfl, HQ.out.trans (HB2.out.mono HQ.out.size)⟩
                | true =>
                  have hS2 : ANS = (x4.drop (j + 1)).all (formedJ k) := by rw [HS.out, HD.out, List.all_cons, HQQ.out, Bool.true_and]
                  have HS2 := Lib.hid hS2; clear hS2
                  go_wp2_with fail
                  refine hcall.mono ?_; rintro e w2 ⟨rfl, hb⟩
                  have HB2 := Lib.hid hb; clear hb hcall
                  go_wp2_with fail
                  go_roundw
                  case rel => exact ⟨j + 1, by omega, by go_num, HS2.out, HQ.out.trans (HB2.out.mono HQ.out.size), blk_below HKR.out HB2.out⟩
                  case measure => simp [intOf]; omega
              · obtain rfl : j = x4.length := by omega
                have hans : ANS = true := by rw [HS.out, List.drop_length]; rfl
                subst hans
                go_wp2_with fail
                go_ret
                exact ⟨rfl, HQ.out⟩

theorem ref_any : ∀ k, RefAt k
  | 0 => fun x A3 c3 A4 c4 w hd _ => by
    have h1 := (dep_le 1 x).1
    have h2 : dep 1 x ≤ 0 := hd
    omega
  | k + 1 => ref_step k (ref_any k)

set_option maxHeartbeats 1000000 in
theorem Formed_ref (x : S25) (A3 : Option Addr) (c3 : Nat) (A4 : Option Addr) (c4 : Nat) (w : World) (h : Rd w A3 c3 A4 c4 x) :
    Calls Tryd.prog 32 #[av x A3 c3 A4 c4] w fun e w' => e = .returned (.bool (fmJ x)) ∧ Below w.heap.size w w' := by
  have hb0 : Below w.heap.size w (w.alloc (.cells #[.int .i64 x.f0, .int .i64 x.f1, .string x.f2, .slice A3 x.f3.length c3, .slice A4 x.f4.length c4] 25)) := (Below.refl _ w).alloc (Nat.le_refl _) _
  have hblk := new_blk w (.cells #[.int .i64 x.f0, .int .i64 x.f1, .string x.f2, .slice A3 x.f3.length c3, .slice A4 x.f4.length c4] 25)
  have hD := depth_any x A3 c3 A4 c4 _ (h.below hb0)
  have hF := fun W (hb : Below w.heap.size w W) (hd : dep 7 x ≤ 6) => ref_any 6 x A3 c3 A4 c4 W hd (h.below hb)
  have hno : ¬ dep 7 x ≤ 6 → fmJ x = false := by
    intro hd
    cases hf : fmJ x with
    | false => rfl
    | true => exact absurd (formed_dep 6 x hf) hd
  have e6 : formedJ 6 x = fmJ x := rfl
  rw [e6] at hF
  obtain ⟨F, hf⟩ : ∃ F, fmJ x = F := ⟨_, rfl⟩
  rw [hf] at hF hno ⊢
  obtain ⟨d, hd⟩ : ∃ d, dep 7 x = d := ⟨_, rfl⟩
  rw [hd] at hD hF hno
  clear hd hf e6
  have HB0 := Lib.hid hb0; clear hb0
  have HK0 := Lib.hid hblk; clear hblk
  have HF := Lib.hid hF; clear hF
  have HNO := Lib.hid hno; clear hno
  clear h
  obtain ⟨x0, x1, x2, x3, x4⟩ := x
  simp only at hD HF
  by_cases h6 : d ≤ 6
  · have b6 : decide ((d : Int) ≤ 6) = true := decide_eq_true (by omega)
    go_enter Tryd.func32, Tryd.ntmps32
    go_wp2_with fail
    refine hD.mono ?_; rintro e w1 ⟨rfl, hb⟩
    have hB1 := HB0.out.trans (hb.mono HB0.out.size)
    have k0 := blk_below HK0.out hb
    have hX := HF.out w1 hB1 h6
    have f0 : w1.cell? ⟨w.heap.size, 0, none⟩ = some (.int .i64 x0) := (blk_cell k0 0).trans rfl
    have f1 : w1.cell? ⟨w.heap.size, 1, none⟩ = some (.int .i64 x1) := (blk_cell k0 1).trans rfl
    have f2 : w1.cell? ⟨w.heap.size, 2, none⟩ = some (.string x2) := (blk_cell k0 2).trans rfl
    have f3 : w1.cell? ⟨w.heap.size, 3, none⟩ = some (.slice A3 x3.length c3) := (blk_cell k0 3).trans rfl
    have f4 : w1.cell? ⟨w.heap.size, 4, none⟩ = some (.slice A4 x4.length c4) := (blk_cell k0 4).trans rfl
    have HB1 := Lib.hid hB1; clear hB1 hb k0 hD
    go_wp2_with fail
    refine hX.mono ?_; rintro e w2 ⟨rfl, hb⟩
    have HB2 := Lib.hid hb; clear hb hX f0 f1 f2 f3 f4
    go_wp2_with fail
    go_ret
    exact ⟨rfl, HB1.out.trans (HB2.out.mono HB1.out.size)⟩
  · have b6 : decide ((d : Int) ≤ 6) = false := decide_eq_false (by omega)
    have hans := HNO.out h6
    subst hans
    go_enter Tryd.func32, Tryd.ntmps32
    go_wp2_with fail
    refine hD.mono ?_; rintro e w1 ⟨rfl, hb⟩
    have HB1 := Lib.hid hb; clear hb hD
    go_wp2_with fail
    go_ret
    exact ⟨rfl, HB0.out.trans (HB1.out.mono HB0.out.size)⟩

end Go.Proofs.YtehdnjegipcpfaaDoor
