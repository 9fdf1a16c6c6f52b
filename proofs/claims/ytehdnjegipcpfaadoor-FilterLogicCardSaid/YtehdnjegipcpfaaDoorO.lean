/-
  Plain laws: what stands at a path of a value, whether a test passes, whether a filter holds; no condition.
-/
import Derived.Test.YtehdnjegipcpfaaDoorN
import Derived.Test.YtehdnjegipcpfaaDoorM
namespace Go.Proofs.YtehdnjegipcpfaaDoor
open Go.RowKit Go.Proofs.YtehdnjegipcpfaaDoorW.PrintWords Go.Proofs.YtehdnjegipcpfaaDoorW.PrintLast Go.Proofs.YtehdnjegipcpfaaDoorW.PrintMore
open PFilterHolds Go.Shelf

/-- The value at the steps; none: there is none. -/
def walkJ : S25 → List ByteArray → Option S25
  | x, [] => some x
  | x, s :: l => if placeJ x s < 0 then none else walkJ (x.f4.getD (placeJ x s).toNat z25) l
def getJ (x : S25) (p : ByteArray) : Option S25 := (stepsJ vstr p).bind fun l => if fmJ x then walkJ x l else none

theorem nameAt_le (s : ByteArray) (l : List ByteArray) : ∀ d i : Nat, nameAt s l d i = -1 ∨ ((i : Int) ≤ nameAt s l d i ∧ nameAt s l d i < (i : Int) + d)
  | 0, i => .inl rfl
  | d + 1, i => by
    unfold nameAt
    by_cases h : (l.getD i ByteArray.empty).toList = s.toList
    · rw [if_pos h]; exact .inr ⟨by omega, by omega⟩
    · rw [if_neg h]
      rcases nameAt_le s l d (i + 1) with e | ⟨e1, e2⟩
      · exact .inl e
      · exact .inr ⟨by omega, by omega⟩

theorem placeJ_lt {k : Nat} {x : S25} (h : formedJ k x = true) (s : ByteArray) : -1 ≤ placeJ x s ∧ (0 ≤ placeJ x s → placeJ x s < x.f4.length) := by
  have hn := (numJ_tot s).2
  unfold placeJ
  by_cases h5 : x.f0 = 5
  · rw [if_pos h5]
    split <;> omega
  · rw [if_neg h5]
    by_cases h6 : x.f0 = 6
    · rw [if_pos h6]
      have := names_items h h6
      rcases nameAt_le s x.f3 x.f3.length 0 with e | ⟨e1, e2⟩ <;> omega
    · rw [if_neg h6]; omega

theorem item_formed {k : Nat} {x : S25} (h : formedJ k x = true) {i : Nat} (hi : i < x.f4.length) : formedJ k (x.f4.getD i z25) = true := by
  rw [List.getD_eq_getElem?_getD, List.getElem?_eq_getElem hi]
  exact items_formed h _ (List.getElem_mem hi)

theorem walk_formed {k : Nat} : ∀ (l : List ByteArray) (x y : S25), formedJ k x = true → walkJ x l = some y → formedJ k y = true
  | [], x, y, h, e => by unfold walkJ at e; injection e with e; rw [← e]; exact h
  | s :: l, x, y, h, e => by
    unfold walkJ at e
    by_cases hp : placeJ x s < 0
    · rw [if_pos hp] at e; cases e
    · rw [if_neg hp] at e
      have := (placeJ_lt h s).2 (by omega)
      exact walk_formed l _ y (item_formed h (by omega)) e

theorem get_formed {x : S25} {p : ByteArray} {y : S25} (h : getJ x p = some y) : fmJ y = true := by
  unfold getJ at h
  cases hs : stepsJ vstr p with
  | none => rw [hs] at h; cases h
  | some l =>
    rw [hs, Option.bind_some] at h
    cases hf : fmJ x with
    | false => rw [hf, if_neg (by simp)] at h; cases h
    | true => rw [hf, if_pos rfl] at h; exact walk_formed l x y hf h

def isB (c : List UInt8) (s : ByteArray) : Bool := s.toList == c
def nHas : List UInt8 := [36, 104, 97, 115]
def nNe : List UInt8 := [36, 110, 101]
def nIn : List UInt8 := [36, 105, 110]
def nEq : List UInt8 := [36, 101, 113]
def nLt : List UInt8 := [36, 108, 116]
def nLe : List UInt8 := [36, 108, 101]
def nGt : List UInt8 := [36, 103, 116]

/-- Does a value pass a test? (there: there is one) -/
def passJ (s : ByteArray) (v x : S25) (there : Bool) : Bool :=
  if isB nHas s then there == (v.f0 == 2)
  else if !there then isB nNe s
  else if isB nIn s then v.f4.any (sameF 6 x)
  else if isB nEq s then cmpF 6 x v == 0
  else if isB nNe s then cmpF 6 x v != 0
  else if isB nLt s then decide (cmpF 6 x v < 0)
  else if isB nLe s then decide (cmpF 6 x v ≤ 0)
  else if isB nGt s then decide (cmpF 6 x v > 0)
  else decide (cmpF 6 x v ≥ 0)

/-- Does one member of a filter hold? -/
def oneJ (h : S25 → Bool) (s : ByteArray) (v doc : S25) : Bool :=
  if isAnd s then v.f4.all h
  else if isOr s then v.f4.any h
  else if isNot s then !h v
  else if testsJ v then (List.range' 0 v.f3.length).all (fun i => passJ (v.f3.getD i ByteArray.empty) (v.f4.getD i z25) ((getJ doc s).getD z25) (getJ doc s).isSome)
  else (getJ doc s).isSome && sameF 6 ((getJ doc s).getD z25) v

/-- Does a filter hold? (of at most so much depth) -/
def holdsJ : Nat → S25 → S25 → Bool
  | 0, _, _ => false
  | k + 1, f, doc => (List.range' 0 f.f3.length).all fun i => oneJ (fun y => holdsJ k y doc) (f.f3.getD i ByteArray.empty) (f.f4.getD i z25) doc

def HoldsJ (f doc : S25) : Bool := checkJ f == 0 && (doc.f0 == 6 && (fmJ doc && holdsJ 6 f doc))

theorem clause_congr {cl cl' : S25 → Option Nat} {k : Nat} (h : ∀ y, formedJ k y = true → cl y = cl' y) (s : ByteArray) {v : S25} (hv : formedJ k v = true) : clauseJ cl s v = clauseJ cl' s v := by
  have h1 : v.f4.map cl = v.f4.map cl' := List.map_congr_left (fun y hy => h y (items_formed hv y hy))
  unfold clauseJ
  rw [h1, h v hv]

theorem one_congr {g g' : S25 → Bool} {k : Nat} (h : ∀ y, formedJ k y = true → g y = g' y) (s : ByteArray) {v : S25} (doc : S25) (hv : formedJ k v = true) : oneJ g s v doc = oneJ g' s v doc := by
  have h1 : v.f4.all g = v.f4.all g' := by
    rw [Bool.eq_iff_iff, List.all_eq_true, List.all_eq_true]
    exact ⟨fun hh y hy => (h y (items_formed hv y hy)) ▸ hh y hy, fun hh y hy => (h y (items_formed hv y hy)).symm ▸ hh y hy⟩
  have h2 : v.f4.any g = v.f4.any g' := by
    rw [Bool.eq_iff_iff, List.any_eq_true, List.any_eq_true]
    exact ⟨fun ⟨y, hy, e⟩ => ⟨y, hy, (h y (items_formed hv y hy)) ▸ e⟩, fun ⟨y, hy, e⟩ => ⟨y, hy, (h y (items_formed hv y hy)).symm ▸ e⟩⟩
  unfold oneJ
  rw [h1, h2, h v hv]

theorem names_le {k : Nat} {x : S25} (h : formedJ (k + 1) x = true) : x.f3.length ≤ x.f4.length := by
  by_cases h6 : x.f0 = 6
  · rw [names_items h h6]; exact Nat.le_refl _
  · rw [(formed_parts h).2.2.2.2.2.2.1 h6]; exact Nat.zero_le _

theorem member_formed {k : Nat} {x : S25} (h : formedJ (k + 1) x = true) {i : Nat} (hi : i < x.f3.length) : formedJ k (x.f4.getD i z25) = true := by
  have hl := names_le h
  rw [List.getD_eq_getElem?_getD, List.getElem?_eq_getElem (by omega)]
  exact (formed_parts h).2.2.1 _ (List.getElem_mem _)

theorem clauses_mono : ∀ (k : Nat) (x : S25), formedJ k x = true → clausesJ (k + 1) x = clausesJ k x
  | 0, x, h => by unfold formedJ at h; cases h
  | k + 1, x, h => by
    conv => lhs; unfold clausesJ
    conv => rhs; unfold clausesJ
    congr 2
    refine List.map_congr_left (fun i hi => ?_)
    exact clause_congr (fun y hy => clauses_mono k y hy) _ (member_formed h (by simpa using hi))

theorem holds_mono (doc : S25) : ∀ (k : Nat) (x : S25), formedJ k x = true → holdsJ (k + 1) x doc = holdsJ k x doc
  | 0, x, h => by unfold formedJ at h; cases h
  | k + 1, x, h => by
    conv => lhs; unfold holdsJ
    conv => rhs; unfold holdsJ
    rw [Bool.eq_iff_iff, List.all_eq_true, List.all_eq_true]
    constructor
    · intro hh i hi
      rw [← hh i hi]
      exact (one_congr (fun y hy => holds_mono doc k y hy) _ doc (member_formed h (by simpa using hi))).symm
    · intro hh i hi
      rw [← hh i hi]
      exact one_congr (fun y hy => holds_mono doc k y hy) _ doc (member_formed h (by simpa using hi))

end Go.Proofs.YtehdnjegipcpfaaDoor
