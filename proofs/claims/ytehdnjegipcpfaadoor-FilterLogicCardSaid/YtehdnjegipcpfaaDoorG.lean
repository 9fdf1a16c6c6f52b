/-
  How many clauses a filter has, in plain Lean; the contract of filter.test; no condition.
-/
import Derived.Test.YtehdnjegipcpfaaDoorF
namespace Go.Proofs.YtehdnjegipcpfaaDoor
open Go.RowKit Go.Proofs.YtehdnjegipcpfaaDoorW.PrintWords Go.Proofs.YtehdnjegipcpfaaDoorW.PrintLast Go.Proofs.YtehdnjegipcpfaaDoorW.PrintMore
open PFilterHolds Go.Shelf

/-- Is a test formed? -/
def testJ (s : ByteArray) (v : S25) : Bool :=
  if s.toList = [36, 101, 113] ∨ s.toList = [36, 110, 101] ∨ s.toList = [36, 108, 116] ∨ s.toList = [36, 108, 101] ∨ s.toList = [36, 103, 116] ∨ s.toList = [36, 103, 101] then true
  else if s.toList = [36, 105, 110] then v.f0 == 5
  else if s.toList = [36, 104, 97, 115] then v.f0 == 2 || v.f0 == 1
  else false

theorem test_tot (s : ByteArray) (v : S25) : filter_test.f 1 s v.f0 v.f1 v.f2 v.f3 v.f4 = some (testJ s v) := by
  unfold filter_test.f testJ filter_test.j0
  by_cases h1 : s.toList = [36, 101, 113]
  · simp [h1]
  by_cases h2 : s.toList = [36, 110, 101]
  · simp [h2]
  by_cases h3 : s.toList = [36, 108, 116]
  · simp [h3]
  by_cases h4 : s.toList = [36, 108, 101]
  · simp [h4]
  by_cases h5 : s.toList = [36, 103, 116]
  · simp [h5]
  by_cases h6 : s.toList = [36, 103, 101]
  · simp [h6]
  by_cases h7 : s.toList = [36, 105, 110]
  · simp [h7]
  by_cases h8 : s.toList = [36, 104, 97, 115]
  · simp only [h1, h2, h3, h4, h5, h6, h7, h8]
    by_cases e : v.f0 = 2 <;> simp [e]
  · simp [h1, h2, h3, h4, h5, h6, h7, h8]

theorem test_any (s : ByteArray) (v : S25) (A3 : Option Addr) (c3 : Nat) (A4 : Option Addr) (c4 : Nat) (w : World) (h : Rd w A3 c3 A4 c4 v) :
    Calls Tryd.prog 88 #[.string s, av v A3 c3 A4 c4] w fun e w' => e = .returned (.bool (testJ s v)) ∧ Below w.heap.size w w' :=
  (filter_test.calls 1 s v.f0 v.f1 v.f2 A3 c3 v.f3 A4 c4 v.f4 (testJ s v) w h.g3 h.l3 h.g4 h.l4 (test_tot s v)).mono fun _ _ ⟨he, hb⟩ => ⟨he, hb⟩

theorem formed_mono : ∀ (k : Nat) (x : S25), formedJ k x = true → formedJ (k + 1) x = true
  | 0, x, h => by unfold formedJ at h; cases h
  | k + 1, x, h => by
    unfold formedJ at h ⊢
    simp only [Bool.and_eq_true] at h ⊢
    refine ⟨h.1, ?_⟩
    have h2 := h.2
    by_cases h5 : x.f0 < 5
    · rw [if_pos h5] at h2 ⊢; exact h2
    · rw [if_neg h5] at h2 ⊢
      simp only [Bool.and_eq_true, List.all_eq_true] at h2 ⊢
      exact ⟨h2.1, fun y hy => formed_mono k y (h2.2 y hy)⟩

def sumO : List (Option Nat) → Option Nat
  | [] => some 0
  | none :: _ => none
  | some a :: l => (sumO l).map (a + ·)

def isAnd (s : ByteArray) : Bool := s.toList == [36, 97, 110, 100]
def isOr (s : ByteArray) : Bool := s.toList == [36, 111, 114]
def isNot (s : ByteArray) : Bool := s.toList == [36, 110, 111, 116]

def testsOk (v : S25) : Bool := (List.range' 0 v.f3.length).all (fun i => testJ (v.f3.getD i ByteArray.empty) (v.f4.getD i z25))

/-- The conditions of one member of a filter. -/
def clauseJ (cl : S25 → Option Nat) (s : ByteArray) (v : S25) : Option Nat :=
  if isAnd s || isOr s then (if v.f0 != 5 || v.f4.length == 0 then none else (sumO (v.f4.map cl)).map (1 + ·))
  else if isNot s then (cl v).map (1 + ·)
  else if sgn s then none
  else if stepsJ vstr s = none then none
  else if testsJ v && !testsOk v then none
  else some 1

/-- The conditions of a filter; none: it is none. -/
def clausesJ : Nat → S25 → Option Nat
  | 0, _ => none
  | k + 1, f => if f.f0 != 6 then none else sumO ((List.range' 0 f.f3.length).map (fun i => clauseJ (clausesJ k) (f.f3.getD i ByteArray.empty) (f.f4.getD i z25)))

def encO : Option Nat → Int
  | none => -1
  | some n => n

theorem sumO_le (b : Nat) : ∀ (l : List (Option Nat)), (∀ o ∈ l, ∀ n, o = some n → n ≤ b) → ∀ n, sumO l = some n → n ≤ l.length * b
  | [], _, n, h => by simp [sumO] at h; omega
  | none :: l, _, n, h => by simp [sumO] at h
  | some a :: l, hl, n, h => by
    simp only [sumO, Option.map_eq_some_iff] at h
    obtain ⟨m, hm, rfl⟩ := h
    have h1 := hl (some a) (by simp) a rfl
    have h2 := sumO_le b l (fun o ho => hl o (by simp [ho])) m hm
    simp only [List.length_cons, Nat.add_mul, Nat.one_mul]
    omega

theorem items_formed {k : Nat} {x : S25} (h : formedJ k x = true) : ∀ y ∈ x.f4, formedJ k y = true := by
  cases k with
  | zero => unfold formedJ at h; cases h
  | succ k => exact fun y hy => formed_mono k y ((formed_parts h).2.2.1 y hy)

theorem few_items {k : Nat} {x : S25} (h : formedJ k x = true) : x.f3.length ≤ 24 ∧ x.f4.length ≤ 24 := by
  cases k with
  | zero => unfold formedJ at h; cases h
  | succ k => exact ⟨(formed_parts h).1, (formed_parts h).2.1⟩

theorem clause_le {cl : S25 → Option Nat} {k b : Nat} (hb : ∀ x, formedJ k x = true → ∀ n, cl x = some n → n ≤ b) {s : ByteArray} {v : S25} (hv : formedJ k v = true) : ∀ n, clauseJ cl s v = some n → n ≤ 1 + 24 * b := by
  intro n h
  have h4 := (few_items hv).2
  unfold clauseJ at h
  repeat' split at h
  all_goals first | (cases h; done) | skip
  · simp only [Option.map_eq_some_iff] at h
    obtain ⟨m, hm, rfl⟩ := h
    have := sumO_le b _ (fun o ho n e => by
      obtain ⟨y, hy', hy⟩ := List.mem_map.1 ho
      exact hb y (items_formed hv y hy') n (hy.trans e)) m hm
    rw [List.length_map] at this
    have := Nat.mul_le_mul_right b h4
    omega
  · simp only [Option.map_eq_some_iff] at h
    obtain ⟨m, hm, rfl⟩ := h
    have := hb v hv m hm
    omega
  · injection h with h
    omega

theorem clauses_le : ∀ (k : Nat) (x : S25), formedJ k x = true → ∀ n, clausesJ k x = some n → n ≤ 1000 ^ k
  | 0, x, h, n, hn => by simp [clausesJ] at hn
  | k + 1, x, h, n, hn => by
    obtain ⟨p1, p2, p3, p4, p5, p6, p7, p8, p9⟩ := formed_parts h
    unfold clausesJ at hn
    split at hn
    · cases hn
    rename_i hk
    have hk6 : x.f0 = 6 := by simpa using hk
    have hl := p6 hk6
    have := sumO_le (1 + 24 * 1000 ^ k) _ (fun o ho n e => by
      obtain ⟨i, hi, hy⟩ := List.mem_map.1 ho
      have hi' : i < x.f4.length := by simp at hi; omega
      refine clause_le (k := k) (fun y hy n => clauses_le k y hy n) (s := x.f3.getD i ByteArray.empty) (v := x.f4.getD i z25) ?_ n (hy.trans e)
      rw [List.getD_eq_getElem?_getD, List.getElem?_eq_getElem hi']
      exact p3 _ (List.getElem_mem hi')) n hn
    rw [List.length_map, List.length_range'] at this
    have h1 : 1 ≤ 1000 ^ k := Nat.one_le_pow _ _ (by omega)
    have h2 : 1000 ^ (k + 1) = 1000 * 1000 ^ k := by rw [Nat.pow_succ]; omega
    have h3 := Nat.mul_le_mul_right (1 + 24 * 1000 ^ k) p1
    omega

end Go.Proofs.YtehdnjegipcpfaaDoor
