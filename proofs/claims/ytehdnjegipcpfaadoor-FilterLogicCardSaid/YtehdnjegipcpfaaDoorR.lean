/-
  Plain laws: what holds of the filters that the statements build; no condition.
-/
import Derived.Test.YtehdnjegipcpfaaDoorO
namespace Go.Proofs.YtehdnjegipcpfaaDoor
open Go.RowKit Go.Proofs.YtehdnjegipcpfaaDoorW.PrintWords Go.Proofs.YtehdnjegipcpfaaDoorW.PrintLast Go.Proofs.YtehdnjegipcpfaaDoorW.PrintMore
open PFilterHolds Go.Shelf

/-- An object of one member; an array of two items. -/
def ob (s : ByteArray) (v : S25) : S25 := ⟨6, 0, ⟨#[]⟩, [s], [v]⟩
def both (f g : S25) : S25 := ⟨5, 0, ⟨#[]⟩, [], [f, g]⟩

theorem sumO_one (o : Option Nat) : sumO [o] = o := by cases o <;> simp [sumO]

theorem check_zero {x : S25} : checkJ x = 0 ↔ fmJ x = true ∧ ∃ n, clausesJ 6 x = some n ∧ n ≤ 12 := by
  unfold checkJ
  cases hf : fmJ x with
  | false => simp
  | true =>
    cases hc : clausesJ 6 x with
    | none => simp
    | some n =>
      by_cases h : 12 < n
      · simp [h]
      · simp [h]; omega

theorem clauses_ob (k : Nat) (s : ByteArray) (v : S25) : clausesJ (k + 1) (ob s v) = clauseJ (clausesJ k) s v := by
  unfold clausesJ ob
  simp only [List.length_cons, List.length_nil]
  exact sumO_one _

theorem holds_succ (k : Nat) (f doc : S25) : holdsJ (k + 1) f doc = (List.range' 0 f.f3.length).all fun i => oneJ (fun y => holdsJ k y doc) (f.f3.getD i ByteArray.empty) (f.f4.getD i z25) doc := rfl
theorem formed_succ (k : Nat) (x : S25) : formedJ (k + 1) x = (headJ x && if x.f0 < 5 then x.f4.length == 0 && x.f3.length == 0 else decide (x.f4.length ≤ 24) && x.f3.length == (if x.f0 = 6 then x.f4.length else 0) && namesJ x.f3 && x.f4.all (formedJ k)) := rfl
theorem holds_ob (k : Nat) (s : ByteArray) (v doc : S25) : holdsJ (k + 1) (ob s v) doc = oneJ (fun y => holdsJ k y doc) s v doc := by
  rw [holds_succ]
  simp [ob, List.range'_succ]

theorem formed_ob {k : Nat} {s : ByteArray} {v : S25} (h : formedJ (k + 1) (ob s v) = true) : formedJ k v = true :=
  (formed_parts h).2.2.1 v (by simp [ob])

theorem formed_both {k : Nat} {f g : S25} (h : formedJ (k + 1) (both f g) = true) : formedJ k f = true ∧ formedJ k g = true :=
  ⟨(formed_parts h).2.2.1 f (by simp [both]), (formed_parts h).2.2.1 g (by simp [both])⟩

theorem Holds_of {f doc : S25} (hc : checkJ f = 0) (h6 : doc.f0 = 6) (hd : fmJ doc = true) : HoldsJ f doc = holdsJ 6 f doc := by
  unfold HoldsJ
  rw [hc, h6, hd]
  simp

def sNot : ByteArray := ⟨#[36, 110, 111, 116]⟩
def sAnd : ByteArray := ⟨#[36, 97, 110, 100]⟩
def sOr : ByteArray := ⟨#[36, 111, 114]⟩

theorem not_law (f doc : S25) (h6 : doc.f0 = 6) (hd : fmJ doc = true) (hc : checkJ (ob sNot f) = 0) : HoldsJ (ob sNot f) doc = !HoldsJ f doc := by
  obtain ⟨hf, n, hn, hn12⟩ := check_zero.1 hc
  have h5 : formedJ 5 f = true := formed_ob hf
  rw [clauses_ob] at hn
  have e : clauseJ (clausesJ 5) sNot f = (clausesJ 5 f).map (1 + ·) := by
    unfold clauseJ
    rw [if_neg (by decide +kernel), if_pos (by decide +kernel)]
  rw [e, Option.map_eq_some_iff] at hn
  obtain ⟨m, hm, rfl⟩ := hn
  have hcf : checkJ f = 0 := check_zero.2 ⟨formed_mono 5 f h5, m, (clauses_mono 5 f h5).trans hm, by omega⟩
  rw [Holds_of hc h6 hd, Holds_of hcf h6 hd, holds_ob, holds_mono doc 5 f h5]
  unfold oneJ
  rw [if_neg (by decide +kernel), if_neg (by decide +kernel), if_pos (by decide +kernel)]

theorem sumO_two {a b : Option Nat} {n : Nat} (h : sumO [a, b] = some n) : ∃ p q, a = some p ∧ b = some q ∧ n = p + q := by
  cases a with
  | none => simp [sumO] at h
  | some p =>
    cases b with
    | none => simp [sumO] at h
    | some q => exact ⟨p, q, rfl, rfl, by simp [sumO] at h; omega⟩

theorem both_parts {s : ByteArray} (hs : (isAnd s || isOr s) = true) {f g : S25} (hc : checkJ (ob s (both f g)) = 0) : formedJ 5 f = true ∧ formedJ 5 g = true ∧ checkJ f = 0 ∧ checkJ g = 0 := by
  obtain ⟨hf, n, hn, hn12⟩ := check_zero.1 hc
  obtain ⟨f4, g4⟩ := formed_both (formed_ob hf)
  have f5 := formed_mono 4 f f4
  have g5 := formed_mono 4 g g4
  rw [clauses_ob] at hn
  have e : clauseJ (clausesJ 5) s (both f g) = (sumO [clausesJ 5 f, clausesJ 5 g]).map (1 + ·) := by
    unfold clauseJ
    rw [if_pos hs]
    rfl
  rw [e, Option.map_eq_some_iff] at hn
  obtain ⟨m, hm, rfl⟩ := hn
  obtain ⟨p, q, hp, hq, rfl⟩ := sumO_two hm
  exact ⟨f5, g5, check_zero.2 ⟨formed_mono 5 f f5, p, (clauses_mono 5 f f5).trans hp, by omega⟩, check_zero.2 ⟨formed_mono 5 g g5, q, (clauses_mono 5 g g5).trans hq, by omega⟩⟩

theorem and_law (f g doc : S25) (h6 : doc.f0 = 6) (hd : fmJ doc = true) (hc : checkJ (ob sAnd (both f g)) = 0) : HoldsJ (ob sAnd (both f g)) doc = (HoldsJ f doc && HoldsJ g doc) := by
  obtain ⟨f5, g5, cf, cg⟩ := both_parts (by decide +kernel) hc
  rw [Holds_of hc h6 hd, Holds_of cf h6 hd, Holds_of cg h6 hd, holds_ob, holds_mono doc 5 f f5, holds_mono doc 5 g g5]
  unfold oneJ
  rw [if_pos (by decide +kernel)]
  simp [both]

theorem or_law (f g doc : S25) (h6 : doc.f0 = 6) (hd : fmJ doc = true) (hc : checkJ (ob sOr (both f g)) = 0) : HoldsJ (ob sOr (both f g)) doc = (HoldsJ f doc || HoldsJ g doc) := by
  obtain ⟨f5, g5, cf, cg⟩ := both_parts (by decide +kernel) hc
  rw [Holds_of hc h6 hd, Holds_of cf h6 hd, Holds_of cg h6 hd, holds_ob, holds_mono doc 5 f f5, holds_mono doc 5 g g5]
  unfold oneJ
  rw [if_neg (by decide +kernel), if_pos (by decide +kernel)]
  simp [both]

/-! The tests -/

def sA : ByteArray := ⟨#[97]⟩
def sB : ByteArray := ⟨#[98]⟩

theorem steps_a : stepsJ vstr sA = some [sA] := by decide +kernel
theorem steps_b : stepsJ vstr sB = some [sB] := by decide +kernel

/-- A text that is one step, no sign ahead. -/
def Stp (p : ByteArray) : Prop := stepsJ vstr p = some [p] ∧ isAnd p = false ∧ isOr p = false ∧ isNot p = false ∧ sgn p = false ∧ textJ p = true
theorem stp_a : Stp sA := ⟨steps_a, by decide +kernel, by decide +kernel, by decide +kernel, by decide +kernel, by decide +kernel⟩
theorem stp_b : Stp sB := ⟨steps_b, by decide +kernel, by decide +kernel, by decide +kernel, by decide +kernel, by decide +kernel⟩

theorem formed_ob_iff (k : Nat) (s : ByteArray) (v : S25) (hs : textJ s = true) : formedJ (k + 1) (ob s v) = formedJ k v := by
  have ht : textJ ⟨#[]⟩ = true := by decide +kernel
  rw [formed_succ]
  unfold headJ namesJ okAt ob
  simp [hs, ht, List.range_succ]

theorem ask_check (p t : ByteArray) (w : S25) (hp : Stp p) (hw : testJ t w = true) (hx : textJ t = true) : checkJ (ob p (ob t w)) = if formedJ 4 w then 0 else 2 := by
  obtain ⟨p1, p2, p3, p4, p5, p6⟩ := hp
  unfold checkJ fmJ
  rw [formed_ob_iff 5 p _ p6, formed_ob_iff 4 t _ hx, clauses_ob]
  have e : clauseJ (clausesJ 5) p (ob t w) = some 1 := by
    unfold clauseJ
    rw [p2, p3, p4, p5, p1, if_neg (by simp), if_neg (by simp), if_neg (by simp), if_neg (by simp), if_neg]
    simp [testsJ, testsOk, ob, List.range'_succ, hw]
  rw [e]
  simp

theorem ask_holds (p t : ByteArray) (w doc : S25) (hp : Stp p) (ht : sgn t = true) (hw : testJ t w = true) (hx : textJ t = true) (h6 : doc.f0 = 6) (hd : fmJ doc = true) :
    HoldsJ (ob p (ob t w)) doc = (formedJ 4 w && passJ t w ((getJ doc p).getD z25) (getJ doc p).isSome) := by
  have hc := ask_check p t w hp hw hx
  cases h4 : formedJ 4 w with
  | false =>
    rw [h4, if_neg (by simp)] at hc
    unfold HoldsJ
    rw [hc]
    rfl
  | true =>
    rw [h4, if_pos rfl] at hc
    rw [Holds_of hc h6 hd, holds_ob]
    obtain ⟨p1, p2, p3, p4, p5, p6⟩ := hp
    unfold oneJ
    rw [p2, p3, p4, if_neg (by simp), if_neg (by simp), if_neg (by simp), if_pos (by simp [testsJ, ob, ht])]
    simp [ob, List.range'_succ]

theorem walk_one (x : S25) (s : ByteArray) : walkJ (ob sA x) [s] = if nameAt s [sA] 1 0 < 0 then none else some ([x].getD (nameAt s [sA] 1 0).toNat z25) := rfl
theorem get_a (x : S25) (h : fmJ (ob sA x) = true) : getJ (ob sA x) sA = some x := by
  unfold getJ
  rw [steps_a, Option.bind_some, if_pos h, walk_one, show nameAt sA [sA] 1 0 = 0 by decide +kernel]
  rfl

theorem get_b (x : S25) (h : fmJ (ob sA x) = true) : getJ (ob sA x) sB = none := by
  unfold getJ
  rw [steps_b, Option.bind_some, if_pos h, walk_one, show nameAt sB [sA] 1 0 = -1 by decide +kernel]
  rfl

end Go.Proofs.YtehdnjegipcpfaaDoor
