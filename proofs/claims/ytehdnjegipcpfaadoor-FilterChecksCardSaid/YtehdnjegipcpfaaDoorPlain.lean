/-
  Plain laws: what holds of the filters that the statements build; no condition.
  Plain laws: two formed values compare as 0 just where they are alike; what the tests of a member say together; no condition.
  Plain laws: what the tests of a member say together; no condition.
-/
import Derived.Test.YtehdnjegipcpfaaDoorPath
namespace Go.Proofs.YtehdnjegipcpfaaDoor
open Go.RowKit Go.Proofs.YtehdnjegipcpfaaDoorW.PrintWords Go.Proofs.YtehdnjegipcpfaaDoorW.PrintLast Go.Proofs.YtehdnjegipcpfaaDoorW.PrintMore
open PFilterHolds Go.Shelf

/-- An object of one member; an array of two items. -/
def ob (s : ByteArray) (v : S25) : S25 := ⟨6, 0, ⟨#[]⟩, [s], [v]⟩
def both (f g : S25) : S25 := ⟨5, 0, ⟨#[]⟩, [], [f, g]⟩

theorem sumO_one (o : Option Nat) : sumO [o] = o := by cases o <;> simp [sumO]

theorem check_zero {x : S25} : checkJ x = 0 ↔ fmJ x = true ∧ ∃ n, clausesJ 6 x = some n ∧ n ≤ 12 := by
  unfold checkJ
  cases hf : fmJ x with
  | false => simp
  | true =>
    cases hc : clausesJ 6 x with
    | none => simp
    | some n =>
      by_cases h : 12 < n
      · simp [h]
      · simp [h]; omega

theorem clauses_ob (k : Nat) (s : ByteArray) (v : S25) : clausesJ (k + 1) (ob s v) = clauseJ (clausesJ k) s v := by
  unfold clausesJ ob
  simp only [List.length_cons, List.length_nil]
  exact sumO_one _

theorem holds_succ (k : Nat) (f doc : S25) : holdsJ (k + 1) f doc = (List.range' 0 f.f3.length).all fun i => oneJ (fun y => holdsJ k y doc) (f.f3.getD i ByteArray.empty) (f.f4.getD i z25) doc := rfl
theorem formed_succ (k : Nat) (x : S25) : formedJ (k + 1) x = (headJ x && if x.f0 < 5 then x.f4.length == 0 && x.f3.length == 0 else decide (x.f4.length ≤ 24) && x.f3.length == (if x.f0 = 6 then x.f4.length else 0) && namesJ x.f3 && x.f4.all (formedJ k)) := rfl
theorem holds_ob (k : Nat) (s : ByteArray) (v doc : S25) : holdsJ (k + 1) (ob s v) doc = oneJ (fun y => holdsJ k y doc) s v doc := by
  rw [holds_succ]
  simp [ob, List.range'_succ]

theorem formed_ob {k : Nat} {s : ByteArray} {v : S25} (h : formedJ (k + 1) (ob s v) = true) : formedJ k v = true :=
  (formed_parts h).2.2.1 v (by simp [ob])

theorem formed_both {k : Nat} {f g : S25} (h : formedJ (k + 1) (both f g) = true) : formedJ k f = true ∧ formedJ k g = true :=
  ⟨(formed_parts h).2.2.1 f (by simp [both]), (formed_parts h).2.2.1 g (by simp [both])⟩

theorem Holds_of {f doc : S25} (hc : checkJ f = 0) (h6 : doc.f0 = 6) (hd : fmJ doc = true) : HoldsJ f doc = holdsJ 6 f doc := by
  unfold HoldsJ
  rw [hc, h6, hd]
  simp

def sNot : ByteArray := ⟨#[36, 110, 111, 116]⟩
def sAnd : ByteArray := ⟨#[36, 97, 110, 100]⟩
def sOr : ByteArray := ⟨#[36, 111, 114]⟩

theorem not_law (f doc : S25) (h6 : doc.f0 = 6) (hd : fmJ doc = true) (hc : checkJ (ob sNot f) = 0) : HoldsJ (ob sNot f) doc = !HoldsJ f doc := by
  obtain ⟨hf, n, hn, hn12⟩ := check_zero.1 hc
  have h5 : formedJ 5 f = true := formed_ob hf
  rw [clauses_ob] at hn
  have e : clauseJ (clausesJ 5) sNot f = (clausesJ 5 f).map (1 + ·) := by
    unfold clauseJ
    rw [if_neg (by decide +kernel), if_pos (by decide +kernel)]
  rw [e, Option.map_eq_some_iff] at hn
  obtain ⟨m, hm, rfl⟩ := hn
  have hcf : checkJ f = 0 := check_zero.2 ⟨formed_mono 5 f h5, m, (clauses_mono 5 f h5).trans hm, by omega⟩
  rw [Holds_of hc h6 hd, Holds_of hcf h6 hd, holds_ob, holds_mono doc 5 f h5]
  unfold oneJ
  rw [if_neg (by decide +kernel), if_neg (by decide +kernel), if_pos (by decide +kernel)]

theorem sumO_two {a b : Option Nat} {n : Nat} (h : sumO [a, b] = some n) : ∃ p q, a = some p ∧ b = some q ∧ n = p + q := by
  cases a with
  | none => simp [sumO] at h
  | some p =>
    cases b with
    | none => simp [sumO] at h
    | some q => exact ⟨p, q, rfl, rfl, by simp [sumO] at h; omega⟩

theorem both_parts {s : ByteArray} (hs : (isAnd s || isOr s) = true) {f g : S25} (hc : checkJ (ob s (both f g)) = 0) : formedJ 5 f = true ∧ formedJ 5 g = true ∧ checkJ f = 0 ∧ checkJ g = 0 := by
  obtain ⟨hf, n, hn, hn12⟩ := check_zero.1 hc
  obtain ⟨f4, g4⟩ := formed_both (formed_ob hf)
  have f5 := formed_mono 4 f f4
  have g5 := formed_mono 4 g g4
  rw [clauses_ob] at hn
  have e : clauseJ (clausesJ 5) s (both f g) = (sumO [clausesJ 5 f, clausesJ 5 g]).map (1 + ·) := by
    unfold clauseJ
    rw [if_pos hs]
    rfl
  rw [e, Option.map_eq_some_iff] at hn
  obtain ⟨m, hm, rfl⟩ := hn
  obtain ⟨p, q, hp, hq, rfl⟩ := sumO_two hm
  exact ⟨f5, g5, check_zero.2 ⟨formed_mono 5 f f5, p, (clauses_mono 5 f f5).trans hp, by omega⟩, check_zero.2 ⟨formed_mono 5 g g5, q, (clauses_mono 5 g g5).trans hq, by omega⟩⟩

theorem and_law (f g doc : S25) (h6 : doc.f0 = 6) (hd : fmJ doc = true) (hc : checkJ (ob sAnd (both f g)) = 0) : HoldsJ (ob sAnd (both f g)) doc = (HoldsJ f doc && HoldsJ g doc) := by
  obtain ⟨f5, g5, cf, cg⟩ := both_parts (by decide +kernel) hc
  rw [Holds_of hc h6 hd, Holds_of cf h6 hd, Holds_of cg h6 hd, holds_ob, holds_mono doc 5 f f5, holds_mono doc 5 g g5]
  unfold oneJ
  rw [if_pos (by decide +kernel)]
  simp [both]

theorem or_law (f g doc : S25) (h6 : doc.f0 = 6) (hd : fmJ doc = true) (hc : checkJ (ob sOr (both f g)) = 0) : HoldsJ (ob sOr (both f g)) doc = (HoldsJ f doc || HoldsJ g doc) := by
  obtain ⟨f5, g5, cf, cg⟩ := both_parts (by decide +kernel) hc
  rw [Holds_of hc h6 hd, Holds_of cf h6 hd, Holds_of cg h6 hd, holds_ob, holds_mono doc 5 f f5, holds_mono doc 5 g g5]
  unfold oneJ
  rw [if_neg (by decide +kernel), if_pos (by decide +kernel)]
  simp [both]

/-! The tests -/

def sA : ByteArray := ⟨#[97]⟩
def sB : ByteArray := ⟨#[98]⟩

theorem steps_a : stepsJ vstr sA = some [sA] := by decide +kernel
theorem steps_b : stepsJ vstr sB = some [sB] := by decide +kernel

/-- A text that is one step, no sign ahead. -/
def Stp (p : ByteArray) : Prop := stepsJ vstr p = some [p] ∧ isAnd p = false ∧ isOr p = false ∧ isNot p = false ∧ sgn p = false ∧ textJ p = true
theorem stp_a : Stp sA := ⟨steps_a, by decide +kernel, by decide +kernel, by decide +kernel, by decide +kernel, by decide +kernel⟩
theorem stp_b : Stp sB := ⟨steps_b, by decide +kernel, by decide +kernel, by decide +kernel, by decide +kernel, by decide +kernel⟩

theorem formed_ob_iff (k : Nat) (s : ByteArray) (v : S25) (hs : textJ s = true) : formedJ (k + 1) (ob s v) = formedJ k v := by
  have ht : textJ ⟨#[]⟩ = true := by decide +kernel
  rw [formed_succ]
  unfold headJ namesJ okAt ob
  simp [hs, ht, List.range_succ]

theorem ask_check (p t : ByteArray) (w : S25) (hp : Stp p) (hw : testJ t w = true) (hx : textJ t = true) : checkJ (ob p (ob t w)) = if formedJ 4 w then 0 else 2 := by
  obtain ⟨p1, p2, p3, p4, p5, p6⟩ := hp
  unfold checkJ fmJ
  rw [formed_ob_iff 5 p _ p6, formed_ob_iff 4 t _ hx, clauses_ob]
  have e : clauseJ (clausesJ 5) p (ob t w) = some 1 := by
    unfold clauseJ
    rw [p2, p3, p4, p5, p1, if_neg (by simp), if_neg (by simp), if_neg (by simp), if_neg (by simp), if_neg]
    simp [testsJ, testsOk, ob, List.range'_succ, hw]
  rw [e]
  simp

theorem ask_holds (p t : ByteArray) (w doc : S25) (hp : Stp p) (ht : sgn t = true) (hw : testJ t w = true) (hx : textJ t = true) (h6 : doc.f0 = 6) (hd : fmJ doc = true) :
    HoldsJ (ob p (ob t w)) doc = (formedJ 4 w && passJ t w ((getJ doc p).getD z25) (getJ doc p).isSome) := by
  have hc := ask_check p t w hp hw hx
  cases h4 : formedJ 4 w with
  | false =>
    rw [h4, if_neg (by simp)] at hc
    unfold HoldsJ
    rw [hc]
    rfl
  | true =>
    rw [h4, if_pos rfl] at hc
    rw [Holds_of hc h6 hd, holds_ob]
    obtain ⟨p1, p2, p3, p4, p5, p6⟩ := hp
    unfold oneJ
    rw [p2, p3, p4, if_neg (by simp), if_neg (by simp), if_neg (by simp), if_pos (by simp [testsJ, ob, ht])]
    simp [ob, List.range'_succ]

theorem walk_one (x : S25) (s : ByteArray) : walkJ (ob sA x) [s] = if nameAt s [sA] 1 0 < 0 then none else some ([x].getD (nameAt s [sA] 1 0).toNat z25) := rfl
theorem get_a (x : S25) (h : fmJ (ob sA x) = true) : getJ (ob sA x) sA = some x := by
  unfold getJ
  rw [steps_a, Option.bind_some, if_pos h, walk_one, show nameAt sA [sA] 1 0 = 0 by decide +kernel]
  rfl

theorem get_b (x : S25) (h : fmJ (ob sA x) = true) : getJ (ob sA x) sB = none := by
  unfold getJ
  rw [steps_b, Option.bind_some, if_pos h, walk_one, show nameAt sB [sA] 1 0 = -1 by decide +kernel]
  rfl

end Go.Proofs.YtehdnjegipcpfaaDoor

namespace Go.Proofs.YtehdnjegipcpfaaDoor
open Go.RowKit Go.Proofs.YtehdnjegipcpfaaDoorW.PrintWords Go.Proofs.YtehdnjegipcpfaaDoorW.PrintLast Go.Proofs.YtehdnjegipcpfaaDoorW.PrintMore
open PFilterHolds Go.Shelf

theorem cmpI_zero (a b : Int) : cmpI a b = 0 ↔ a = b := by
  unfold cmpI
  split
  · constructor <;> intro h <;> omega
  · split
    · constructor <;> intro h <;> omega
    · constructor <;> intro h <;> omega

theorem less_tri : ∀ (a b : List UInt8), Op.bytesLess a b = false → Op.bytesLess b a = false → a = b
  | [], [], _, _ => rfl
  | [], _ :: _, h, _ => by simp [Op.bytesLess] at h
  | _ :: _, [], _, h => by simp [Op.bytesLess] at h
  | x :: a, y :: b, h, h' => by
    simp only [Op.bytesLess] at h h'
    by_cases e : x = y
    · subst e
      simp at h h'
      rw [less_tri a b h h']
    · exfalso
      have hlt : x < y ∨ y < x := by
        rcases UInt8.lt_or_lt_of_ne e with h | h
        · exact .inl h
        · exact .inr h
      rcases hlt with hl | hl
      · simp [hl] at h
      · simp [hl] at h'

theorem less_irrefl : ∀ (a : List UInt8), Op.bytesLess a a = false
  | [] => rfl
  | x :: a => by simp [Op.bytesLess, less_irrefl a]

theorem cmpS_zero (a b : ByteArray) : cmpS a b = 0 ↔ a.toList = b.toList := by
  unfold cmpS
  cases h1 : Op.bytesLess a.toList b.toList with
  | true =>
    rw [if_pos rfl]
    constructor
    · intro h; cases h
    · intro h; rw [h, less_irrefl] at h1; cases h1
  | false =>
    rw [if_neg (by simp)]
    cases h2 : Op.bytesLess b.toList a.toList with
    | true =>
      rw [if_pos rfl]
      constructor
      · intro h; cases h
      · intro h; rw [h, less_irrefl] at h2; cases h2
    | false =>
      rw [if_neg (by simp)]
      exact ⟨fun _ => less_tri _ _ h1 h2, fun _ => rfl⟩

theorem or3_zero (a b c : Int) : or3 a b c = 0 ↔ a = 0 ∧ b = 0 ∧ c = 0 := by
  unfold or3
  by_cases h : a = 0
  · by_cases h' : b = 0
    · simp [h, h']
    · simp [h, h']
  · simp [h]

theorem firstNZ_zero (st : Nat → Int) (fin : Int) : ∀ d i, firstNZ st fin d i = 0 ↔ (∀ j, j ∈ List.range' i d → st j = 0) ∧ fin = 0
  | 0, i => by simp [firstNZ]
  | d + 1, i => by
    rw [firstNZ_succ, List.range'_succ]
    by_cases h : st i = 0
    · rw [if_neg (fun e => e h), firstNZ_zero st fin d (i + 1)]
      simp [h]
    · rw [if_pos h]
      simp [h]

theorem stepC_zero (cp : S25 → S25 → Int) (x y : S25) (i : Nat) : stepC cp x y i = 0 ↔ (x.f0 = 6 → eqAt x.f3 y.f3 i = true) ∧ cp (x.f4.getD i z25) (y.f4.getD i z25) = 0 := by
  unfold stepC eqAt
  have hs := cmpS_zero (x.f3.getD i ByteArray.empty) (y.f3.getD i ByteArray.empty)
  by_cases h6 : x.f0 = 6
  · by_cases hc : cmpS (x.f3.getD i ByteArray.empty) (y.f3.getD i ByteArray.empty) = 0
    · rw [if_neg (fun e => e.2 hc)]
      exact ⟨fun e => ⟨fun _ => by rw [hs.1 hc, beq_self_eq_true], e⟩, fun e => e.2⟩
    · rw [if_pos ⟨h6, hc⟩]
      constructor
      · intro e; exact absurd e hc
      · rintro ⟨e, _⟩
        have := e h6
        rw [beq_iff_eq] at this
        exact absurd (hs.2 this) hc
  · rw [if_neg (fun e => h6 e.1)]
    simp [h6]

theorem cmpF_succ (k : Nat) (x y : S25) : cmpF (k + 1) x y = if or3 (cmpI x.f0 y.f0) (cmpI x.f1 y.f1) (cmpS x.f2 y.f2) ≠ 0 then or3 (cmpI x.f0 y.f0) (cmpI x.f1 y.f1) (cmpS x.f2 y.f2) else firstNZ (stepC (cmpF k) x y) (cmpI x.f4.length y.f4.length) (min x.f4.length y.f4.length) 0 := rfl
theorem sameF_succ (k : Nat) (x y : S25) : sameF (k + 1) x y = (x.f0 == y.f0 && (x.f1 == y.f1 && (x.f2.toList == y.f2.toList && (eqS x.f3 y.f3 && (decide (x.f4.length = y.f4.length) && (List.range' 0 x.f4.length).all (fun i => sameF k (x.f4.getD i z25) (y.f4.getD i z25))))))) := rfl
theorem cmp_same : ∀ (k : Nat) (x y : S25), formedJ k x = true → formedJ k y = true → (cmpF k x y = 0 ↔ sameF k x y = true)
  | 0, x, y, h, _ => by unfold formedJ at h; cases h
  | k + 1, x, y, hx, hy => by
    obtain ⟨a1, a2, a3, a4, a5, a6, a7, a8, a9⟩ := formed_parts hx
    obtain ⟨b1, b2, b3, b4, b5, b6, b7, b8, b9⟩ := formed_parts hy
    have hcmp : cmpF (k + 1) x y = 0 ↔ (x.f0 = y.f0 ∧ x.f1 = y.f1 ∧ x.f2.toList = y.f2.toList) ∧ (∀ j ∈ List.range' 0 (min x.f4.length y.f4.length), (x.f0 = 6 → eqAt x.f3 y.f3 j = true) ∧ cmpF k (x.f4.getD j z25) (y.f4.getD j z25) = 0) ∧ x.f4.length = y.f4.length := by
      rw [cmpF_succ]
      by_cases ho : or3 (cmpI x.f0 y.f0) (cmpI x.f1 y.f1) (cmpS x.f2 y.f2) = 0
      · rw [if_neg (fun e => e ho), firstNZ_zero, cmpI_zero]
        rw [or3_zero, cmpI_zero, cmpI_zero, cmpS_zero] at ho
        constructor
        · rintro ⟨h1, h2⟩
          exact ⟨ho, fun j hj => (stepC_zero _ x y j).1 (h1 j hj), by omega⟩
        · rintro ⟨_, h1, h2⟩
          exact ⟨fun j hj => (stepC_zero _ x y j).2 (h1 j hj), by omega⟩
      · rw [if_pos ho]
        constructor
        · intro e; exact absurd e ho
        · rintro ⟨e, _⟩
          refine absurd ?_ ho
          rw [or3_zero, cmpI_zero, cmpI_zero, cmpS_zero]
          exact e
    rw [hcmp]
    rw [sameF_succ]
    unfold eqS
    simp only [Bool.and_eq_true, beq_iff_eq, decide_eq_true_eq, List.all_eq_true]
    constructor
    · rintro ⟨⟨e0, e1, e2⟩, h, hl⟩
      have hm : min x.f4.length y.f4.length = x.f4.length := by omega
      rw [hm] at h
      refine ⟨e0, e1, e2, ⟨?_, ?_⟩, hl, ?_⟩
      · by_cases h6 : x.f0 = 6
        · rw [a6 h6, b6 (e0 ▸ h6)]; exact hl
        · rw [a7 h6, b7 (e0 ▸ h6)]
      · intro j hj
        by_cases h6 : x.f0 = 6
        · rw [a6 h6] at hj
          exact (h j hj).1 h6
        · rw [a7 h6] at hj
          simp at hj
      · intro j hj
        have hj' : j < x.f4.length := by simpa using hj
        exact (cmp_same k _ _ (by rw [List.getD_eq_getElem?_getD, List.getElem?_eq_getElem hj']; exact a3 _ (List.getElem_mem hj')) (by rw [List.getD_eq_getElem?_getD, List.getElem?_eq_getElem (by omega)]; exact b3 _ (List.getElem_mem _))).1 (h j hj).2
    · rintro ⟨e0, e1, e2, ⟨hl3, h3⟩, hl, h4⟩
      have hm : min x.f4.length y.f4.length = x.f4.length := by omega
      rw [hm]
      refine ⟨⟨e0, e1, e2⟩, fun j hj => ⟨fun h6 => h3 j (by rw [a6 h6]; exact hj), ?_⟩, hl⟩
      have hj' : j < x.f4.length := by simpa using hj
      exact (cmp_same k _ _ (by rw [List.getD_eq_getElem?_getD, List.getElem?_eq_getElem hj']; exact a3 _ (List.getElem_mem hj')) (by rw [List.getD_eq_getElem?_getD, List.getElem?_eq_getElem (by omega)]; exact b3 _ (List.getElem_mem _))).2 (h4 j hj)

end Go.Proofs.YtehdnjegipcpfaaDoor

namespace Go.Proofs.YtehdnjegipcpfaaDoor
open Go.RowKit Go.Proofs.YtehdnjegipcpfaaDoorW.PrintWords Go.Proofs.YtehdnjegipcpfaaDoorW.PrintLast Go.Proofs.YtehdnjegipcpfaaDoorW.PrintMore
open PFilterHolds Go.Shelf

def sLt : ByteArray := ⟨#[36, 108, 116]⟩
def sLe : ByteArray := ⟨#[36, 108, 101]⟩
def sGt : ByteArray := ⟨#[36, 103, 116]⟩
def sGe : ByteArray := ⟨#[36, 103, 101]⟩
def sEq : ByteArray := ⟨#[36, 101, 113]⟩
def sNe : ByteArray := ⟨#[36, 110, 101]⟩
def sIn : ByteArray := ⟨#[36, 105, 110]⟩
def sHas : ByteArray := ⟨#[36, 104, 97, 115]⟩

/-- A test's name. -/
structure Tst (t : ByteArray) (w : S25) : Prop where
  sg : sgn t = true
  ok : testJ t w = true
  tx : textJ t = true

theorem tst_lt (w : S25) : Tst sLt w := ⟨by decide +kernel, by unfold testJ; rw [if_pos (by decide +kernel)], by decide +kernel⟩
theorem tst_le (w : S25) : Tst sLe w := ⟨by decide +kernel, by unfold testJ; rw [if_pos (by decide +kernel)], by decide +kernel⟩
theorem tst_gt (w : S25) : Tst sGt w := ⟨by decide +kernel, by unfold testJ; rw [if_pos (by decide +kernel)], by decide +kernel⟩
theorem tst_ge (w : S25) : Tst sGe w := ⟨by decide +kernel, by unfold testJ; rw [if_pos (by decide +kernel)], by decide +kernel⟩
theorem tst_eq (w : S25) : Tst sEq w := ⟨by decide +kernel, by unfold testJ; rw [if_pos (by decide +kernel)], by decide +kernel⟩
theorem tst_ne (w : S25) : Tst sNe w := ⟨by decide +kernel, by unfold testJ; rw [if_pos (by decide +kernel)], by decide +kernel⟩
theorem tst_in (w : S25) (h : w.f0 = 5) : Tst sIn w := ⟨by decide +kernel, by unfold testJ; rw [if_neg (by decide +kernel), if_pos (by decide +kernel), h]; rfl, by decide +kernel⟩
theorem tst_has (w : S25) (h : w.f0 = 1) : Tst sHas w := ⟨by decide +kernel, by unfold testJ; rw [if_neg (by decide +kernel), if_neg (by decide +kernel), if_pos (by decide +kernel), h]; rfl, by decide +kernel⟩

theorem ask_a {t : ByteArray} {w : S25} (ht : Tst t w) {x : S25} (hd : fmJ (ob sA x) = true) : HoldsJ (ob sA (ob t w)) (ob sA x) = (formedJ 4 w && passJ t w x true) := by
  rw [ask_holds sA t w (ob sA x) stp_a ht.sg ht.ok ht.tx rfl hd, get_a x hd]
  rfl
theorem ask_b {t : ByteArray} {w : S25} (ht : Tst t w) {x : S25} (hd : fmJ (ob sA x) = true) : HoldsJ (ob sB (ob t w)) (ob sA x) = (formedJ 4 w && passJ t w z25 false) := by
  rw [ask_holds sB t w (ob sA x) stp_b ht.sg ht.ok ht.tx rfl hd, get_b x hd]
  rfl
theorem chk_a {t : ByteArray} {w : S25} (ht : Tst t w) : checkJ (ob sA (ob t w)) = if formedJ 4 w then 0 else 2 := ask_check sA t w stp_a ht.ok ht.tx
theorem chk_b {t : ByteArray} {w : S25} (ht : Tst t w) : checkJ (ob sB (ob t w)) = if formedJ 4 w then 0 else 2 := ask_check sB t w stp_b ht.ok ht.tx

theorem pass_lt (w x : S25) : passJ sLt w x true = decide (cmpF 6 x w < 0) := by
  unfold passJ
  simp only [show isB nHas sLt = false by decide +kernel, show isB nIn sLt = false by decide +kernel, show isB nEq sLt = false by decide +kernel, show isB nNe sLt = false by decide +kernel, show isB nLt sLt = true by decide +kernel]
  rfl
theorem pass_le (w x : S25) : passJ sLe w x true = decide (cmpF 6 x w ≤ 0) := by
  unfold passJ
  simp only [show isB nHas sLe = false by decide +kernel, show isB nIn sLe = false by decide +kernel, show isB nEq sLe = false by decide +kernel, show isB nNe sLe = false by decide +kernel, show isB nLt sLe = false by decide +kernel, show isB nLe sLe = true by decide +kernel]
  rfl
theorem pass_gt (w x : S25) : passJ sGt w x true = decide (cmpF 6 x w > 0) := by
  unfold passJ
  simp only [show isB nHas sGt = false by decide +kernel, show isB nIn sGt = false by decide +kernel, show isB nEq sGt = false by decide +kernel, show isB nNe sGt = false by decide +kernel, show isB nLt sGt = false by decide +kernel, show isB nLe sGt = false by decide +kernel, show isB nGt sGt = true by decide +kernel]
  rfl
theorem pass_ge (w x : S25) : passJ sGe w x true = decide (cmpF 6 x w ≥ 0) := by
  unfold passJ
  simp only [show isB nHas sGe = false by decide +kernel, show isB nIn sGe = false by decide +kernel, show isB nEq sGe = false by decide +kernel, show isB nNe sGe = false by decide +kernel, show isB nLt sGe = false by decide +kernel, show isB nLe sGe = false by decide +kernel, show isB nGt sGe = false by decide +kernel]
  rfl
theorem pass_eq (w x : S25) : passJ sEq w x true = (cmpF 6 x w == 0) := by
  unfold passJ
  simp only [show isB nHas sEq = false by decide +kernel, show isB nIn sEq = false by decide +kernel, show isB nEq sEq = true by decide +kernel]
  rfl
theorem pass_ne (w x : S25) : passJ sNe w x true = (cmpF 6 x w != 0) := by
  unfold passJ
  simp only [show isB nHas sNe = false by decide +kernel, show isB nIn sNe = false by decide +kernel, show isB nEq sNe = false by decide +kernel, show isB nNe sNe = true by decide +kernel]
  rfl
theorem pass_in (w x : S25) : passJ sIn w x true = w.f4.any (sameF 6 x) := by
  unfold passJ
  simp only [show isB nHas sIn = false by decide +kernel, show isB nIn sIn = true by decide +kernel]
  rfl
theorem pass_le_no (w x : S25) : passJ sLe w x false = false := by
  unfold passJ
  simp only [show isB nHas sLe = false by decide +kernel, show isB nNe sLe = false by decide +kernel]
  rfl
theorem pass_ne_no (w x : S25) : passJ sNe w x false = true := by
  unfold passJ
  simp only [show isB nHas sNe = false by decide +kernel, show isB nNe sNe = true by decide +kernel]
  rfl
theorem pass_has_no (w x : S25) : passJ sHas w x false = (false == (w.f0 == 2)) := by
  unfold passJ
  simp only [show isB nHas sHas = true by decide +kernel]
  rfl

theorem formed_up {k m : Nat} (hk : k ≤ m) {x : S25} (h : formedJ k x = true) : formedJ m x = true := by
  induction m with
  | zero => obtain rfl : k = 0 := by omega
            exact h
  | succ m ih =>
    by_cases e : k = m + 1
    · subst e; exact h
    · exact formed_mono m x (ih (by omega))

theorem same_sym_true {x : S25} (h : fmJ x = true) : sameF 6 x ⟨2, 0, ⟨#[]⟩, [], []⟩ = (x.f0 == 2) := by
  have h' : formedJ 6 x = true := h
  obtain ⟨a1, a2, a3, a4, a5, a6, a7, a8, a9⟩ := formed_parts h'
  unfold sameF eqS
  by_cases h2 : x.f0 = 2
  · have hn : x.f3 = [] := a7 (by omega)
    have hi : x.f4 = [] := a8 (by omega)
    have hh : headJ x = true := by
      unfold formedJ at h'
      simp only [Bool.and_eq_true] at h'
      exact h'.1
    unfold headJ at hh
    simp only [Bool.and_eq_true, decide_eq_true_eq] at hh
    obtain ⟨⟨⟨⟨_, _⟩, d3⟩, d4⟩, _⟩ := hh
    rw [h2] at d3 d4
    have e1 : x.f1 = 0 := by simpa using d3
    have e2 : x.f2.toList = [] := by simpa using d4
    have e3 : (⟨#[]⟩ : ByteArray).toList = [] := by decide +kernel
    simp [h2, hn, hi, e1, e2, e3]
  · simp [h2]

theorem in_law {x a b : S25} (hd : fmJ (ob sA x) = true) (h4 : formedJ 4 (both a b) = true) : HoldsJ (ob sA (ob sIn (both a b))) (ob sA x) = (sameF 6 x a || sameF 6 x b) := by
  rw [ask_a (tst_in _ rfl) hd, h4, pass_in]
  simp [both]

theorem eq_law {x a : S25} (hd : fmJ (ob sA x) = true) (h4 : formedJ 4 a = true) : HoldsJ (ob sA (ob sEq a)) (ob sA x) = sameF 6 x a := by
  have hx : formedJ 6 x = true := formed_mono 5 x (formed_ob hd)
  have hc := cmp_same 6 x a hx (formed_up (by omega) h4)
  rw [ask_a (tst_eq _) hd, h4, pass_eq, Bool.true_and, Bool.eq_iff_iff, beq_iff_eq]
  exact hc

end Go.Proofs.YtehdnjegipcpfaaDoor
