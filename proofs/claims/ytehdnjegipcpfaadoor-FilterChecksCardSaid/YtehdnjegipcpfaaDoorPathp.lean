/-
  The paths of a filter, in plain Lean: sorted and each once is what the reference's putting makes of them.
-/
import Derived.Test.YtehdnjegipcpfaaDoorRefc
import Derived.Lib.SlicesCompact
import Derived.Sort.Walk0
namespace Go.Proofs.YtehdnjegipcpfaaDoor
open Go.RowKit Go.Proofs.YtehdnjegipcpfaaDoorW.PrintWords Go.Proofs.YtehdnjegipcpfaaDoorW.PrintLast Go.Proofs.YtehdnjegipcpfaaDoorW.PrintMore
open PFilterHolds Go.Shelf

/-- The paths of a filter's member, of a filter (of at most so much depth). -/
def memberJ (ps : S25 → List ByteArray) (s : ByteArray) (y : S25) : List ByteArray :=
  if isAnd s || isOr s then y.f4.flatMap ps else if isNot s then ps y else [s]
def pathsJ : Nat → S25 → List ByteArray
  | 0, _ => []
  | k + 1, f => (List.range' 0 f.f3.length).flatMap fun i => memberJ (pathsJ k) (f.f3.getD i ByteArray.empty) (f.f4.getD i z25)

/-- A text put into rising ones. -/
def putJ : List ByteArray → ByteArray → List ByteArray
  | [], s => [s]
  | a :: l, s => if Op.bytesLess a.toList s.toList then a :: putJ l s else if a.toList == s.toList then s :: l else s :: a :: l

abbrev key (s : ByteArray) : List UInt8 := s.data.toList

theorem key_inj {a b : ByteArray} (h : key a = key b) : a = b := by
  cases a; cases b
  simp only [key, ByteArray.mk.injEq] at h ⊢
  exact Array.toList_inj.1 h

def putK : List (List UInt8) → List UInt8 → List (List UInt8)
  | [], s => [s]
  | a :: l, s => if a < s then a :: putK l s else if a = s then s :: l else s :: a :: l

theorem put_key : ∀ (l : List ByteArray) (s : ByteArray), (putJ l s).map key = putK (l.map key) (key s)
  | [], s => rfl
  | a :: l, s => by
    have e : Op.bytesLess a.toList s.toList = decide (key a < key s) := by
      rw [bytesLess_eq, ByteArray.toList_eq, ByteArray.toList_eq]
    have e2 : (a.toList == s.toList) = decide (key a = key s) := by
      rw [ByteArray.toList_eq, ByteArray.toList_eq, Bool.eq_iff_iff]
      simp
    simp only [putJ, putK, List.map_cons, e, e2, decide_eq_true_eq]
    split
    · rw [List.map_cons, put_key l s]
    · split
      · rfl
      · rfl

theorem fold_key : ∀ (ps l : List ByteArray), (ps.foldl putJ l).map key = (ps.map key).foldl putK (l.map key)
  | [], l => rfl
  | s :: ps, l => by rw [List.foldl_cons, fold_key ps, put_key]; rfl

theorem tri (a b : List UInt8) (h1 : ¬ a < b) (h2 : a ≠ b) : b < a := by
  have e1 : Op.bytesLess a b = false := by rw [bytesLess_eq]; exact decide_eq_false h1
  cases e2 : Op.bytesLess b a with
  | true => rw [bytesLess_eq] at e2; exact of_decide_eq_true e2
  | false => exact absurd (less_tri a b e1 e2) h2

theorem irr (a : List UInt8) : ¬ a < a := by
  have := less_irrefl a
  rw [bytesLess_eq] at this
  exact of_decide_eq_false this

theorem mem_put : ∀ (l : List (List UInt8)) (s x : List UInt8), x ∈ putK l s ↔ x = s ∨ x ∈ l
  | [], s, x => by simp [putK]
  | a :: l, s, x => by
    unfold putK
    split
    · rw [List.mem_cons, mem_put l s x, List.mem_cons]
      constructor
      · rintro (h | h | h) <;> simp [h]
      · rintro (h | h | h) <;> simp [h]
    · split
      · rename_i e
        subst e
        simp
      · simp

theorem sorted_put : ∀ (l : List (List UInt8)) (s : List UInt8), l.Pairwise (· < ·) → (putK l s).Pairwise (· < ·)
  | [], s, _ => by simp [putK]
  | a :: l, s, h => by
    obtain ⟨h1, h2⟩ := List.pairwise_cons.1 h
    unfold putK
    split
    · rename_i hl
      refine List.pairwise_cons.2 ⟨fun x hx => ?_, sorted_put l s h2⟩
      rcases (mem_put l s x).1 hx with rfl | hx
      · exact hl
      · exact h1 x hx
    · split
      · rename_i e
        subst e
        exact h
      · rename_i hn hne
        have hs := tri a s hn hne
        refine List.pairwise_cons.2 ⟨fun x hx => ?_, h⟩
        rcases List.mem_cons.1 hx with rfl | hx
        · exact hs
        · exact List.lt_trans hs (h1 x hx)

theorem fold_sorted : ∀ (ps l : List (List UInt8)), l.Pairwise (· < ·) → (ps.foldl putK l).Pairwise (· < ·) ∧ ∀ x, x ∈ ps.foldl putK l ↔ x ∈ ps ∨ x ∈ l
  | [], l, h => ⟨h, fun x => by simp⟩
  | s :: ps, l, h => by
    obtain ⟨h1, h2⟩ := fold_sorted ps (putK l s) (sorted_put l s h)
    refine ⟨h1, fun x => ?_⟩
    rw [List.foldl_cons, h2, mem_put, List.mem_cons]
    constructor
    · rintro (h | h | h) <;> simp [h]
    · rintro ((h | h) | h) <;> simp [h]

theorem strict_eq : ∀ (a b : List (List UInt8)), a.Pairwise (· < ·) → b.Pairwise (· < ·) → (∀ x, x ∈ a ↔ x ∈ b) → a = b
  | [], [], _, _, _ => rfl
  | [], y :: b, _, _, h => absurd ((h y).2 (by simp)) (by simp)
  | x :: a, [], _, _, h => absurd ((h x).1 (by simp)) (by simp)
  | x :: a, y :: b, ha, hb, h => by
    obtain ⟨a1, a2⟩ := List.pairwise_cons.1 ha
    obtain ⟨b1, b2⟩ := List.pairwise_cons.1 hb
    have hxy : x = y := by
      apply Classical.byContradiction
      intro hne
      rcases List.mem_cons.1 ((h x).1 (by simp)) with e | e
      · exact hne e
      · rcases List.mem_cons.1 ((h y).2 (by simp)) with e2 | e2
        · exact hne e2.symm
        · exact irr x (List.lt_trans (a1 y e2) (b1 x e))
    subst hxy
    rw [strict_eq a b a2 b2 (fun z => ?_)]
    constructor
    · intro hz
      rcases List.mem_cons.1 ((h z).1 (List.mem_cons_of_mem _ hz)) with e | e
      · subst e; exact absurd (a1 z hz) (irr z)
      · exact e
    · intro hz
      rcases List.mem_cons.1 ((h z).2 (List.mem_cons_of_mem _ hz)) with e | e
      · subst e; exact absurd (b1 z hz) (irr z)
      · exact e

theorem le_or_lt {a b : List UInt8} (h : a ≤ b) (hne : a ≠ b) : a < b := by
  apply Classical.byContradiction
  intro hn
  exact h (tri a b hn hne)

/-- What Compact makes of a sorted list. -/
theorem compact_inv (d : Array (List UInt8)) (hd : ∀ j, j + 1 < d.size → d[j]! ≤ d[j + 1]!) : ∀ m, m ≤ d.size →
    (Lib.compactUpTo d m).Pairwise (· < ·) ∧ (∀ x ∈ Lib.compactUpTo d m, ∀ j, j + 1 = m → x = d[j]! ∨ x < d[j]!) ∧ (∀ x, x ∈ Lib.compactUpTo d m ↔ ∃ i, i < m ∧ d[i]! = x)
  | 0, _ => ⟨by simp [Lib.compactUpTo], fun x hx => by simp [Lib.compactUpTo] at hx, fun x => by simp [Lib.compactUpTo]⟩
  | m + 1, hm => by
    obtain ⟨h1, h2, h3⟩ := compact_inv d hd m (by omega)
    rw [Lib.compactUpTo_succ]
    cases hk : Lib.keeps d m with
    | true =>
      have hlt : ∀ x ∈ Lib.compactUpTo d m, x < d[m]! := by
        intro x hx
        obtain ⟨i, hi, _⟩ := (h3 x).1 hx
        obtain ⟨j, rfl⟩ : ∃ j, m = j + 1 := ⟨m - 1, by omega⟩
        have hne : d[j]! ≠ d[j + 1]! := by
          intro e
          rw [Lib.keeps_neg (by omega) (by simpa using e.symm)] at hk
          cases hk
        have hl : d[j]! < d[j + 1]! := le_or_lt (hd j (by omega)) hne
        rcases h2 x hx j rfl with rfl | hx2
        · exact hl
        · exact List.lt_trans hx2 hl
      simp only [if_true]
      refine ⟨List.pairwise_append.2 ⟨h1, by simp, fun x hx y hy => ?_⟩, fun x hx j hj => ?_, fun x => ?_⟩
      · obtain rfl : y = d[m]! := by simpa using hy
        exact hlt x hx
      · obtain rfl : j = m := by omega
        rcases List.mem_append.1 hx with hx | hx
        · exact .inr (hlt x hx)
        · exact .inl (by simpa using hx)
      · rw [List.mem_append, h3]
        constructor
        · rintro (⟨i, hi, e⟩ | h)
          · exact ⟨i, by omega, e⟩
          · exact ⟨m, by omega, ((by simpa using h : x = d[m]!)).symm⟩
        · rintro ⟨i, hi, e⟩
          by_cases hi' : i < m
          · exact .inl ⟨i, hi', e⟩
          · obtain rfl : i = m := by omega
            exact .inr (by simp [e])
    | false =>
      have hm0 : 0 < m := by
        rcases Nat.eq_zero_or_pos m with h | h
        · subst h; simp [Lib.keeps] at hk
        · exact h
      have heq : d[m]! = d[m - 1]! := by
        apply Classical.byContradiction
        intro hne
        rw [Lib.keeps_pos hne] at hk
        cases hk
      simp only [Bool.false_eq_true, if_false, List.append_nil]
      refine ⟨h1, fun x hx j hj => ?_, fun x => ?_⟩
      · obtain rfl : j = m := by omega
        rw [heq]
        exact h2 x hx (j - 1) (by omega)
      · rw [h3]
        constructor
        · rintro ⟨i, hi, e⟩
          exact ⟨i, by omega, e⟩
        · rintro ⟨i, hi, e⟩
          by_cases hi' : i < m
          · exact ⟨i, hi', e⟩
          · obtain rfl : i = m := by omega
            exact ⟨i - 1, by omega, by rw [← heq, e]⟩

theorem le_tot (a b : List UInt8) : (decide (a ≤ b) || decide (b ≤ a)) = true := by
  by_cases h : a ≤ b
  · simp [h]
  · have h' : b < a := by
      apply Classical.byContradiction
      intro hn
      exact h hn
    have : b ≤ a := fun hlt => irr a (List.lt_trans hlt h')
    simp [this]

theorem le_tr (a b c : List UInt8) (h1 : decide (a ≤ b) = true) (h2 : decide (b ≤ c) = true) : decide (a ≤ c) = true := by
  have h1 := of_decide_eq_true h1
  have h2 := of_decide_eq_true h2
  refine decide_eq_true (fun hlt => ?_)
  by_cases e : b = a
  · subst e; exact h2 hlt
  · by_cases e2 : b < a
    · exact h1 e2
    · have := tri b a e2 e
      exact h2 (List.lt_trans hlt this)

theorem compact_sorted (zs : List (List UInt8)) : (Lib.compact (zs.mergeSort fun x y => decide (x ≤ y))).Pairwise (· < ·) ∧ ∀ x, x ∈ Lib.compact (zs.mergeSort fun x y => decide (x ≤ y)) ↔ x ∈ zs := by
  have hs : (zs.mergeSort fun x y => decide (x ≤ y)).Pairwise (fun x y => decide (x ≤ y) = true) := List.pairwise_mergeSort le_tr le_tot zs
  have hm : ∀ x, x ∈ (zs.mergeSort fun x y => decide (x ≤ y)) ↔ x ∈ zs := fun x => List.mem_mergeSort
  generalize (zs.mergeSort fun x y => decide (x ≤ y)) = ts at hs hm
  obtain ⟨h1, _, h3⟩ := compact_inv ts.toArray (fun j hj => by
    have hj' : j + 1 < ts.length := by simpa using hj
    have := List.pairwise_iff_getElem.1 hs j (j + 1) (by omega) hj' (by omega)
    simpa [getElem!_pos, hj', show j < ts.length by omega] using this) ts.length (by simp)
  refine ⟨h1, fun x => ?_⟩
  rw [← hm x]
  unfold Lib.compact
  rw [h3]
  constructor
  · rintro ⟨i, hi, e⟩
    have e' : ts[i] = x := by simpa [getElem!_pos, hi] using e
    rw [← e']
    exact List.getElem_mem hi
  · intro hx
    obtain ⟨i, hi, e⟩ := List.getElem_of_mem hx
    exact ⟨i, hi, by simpa [getElem!_pos, hi] using e⟩

/-- Sorted and each once: what putting one after the other makes. -/
theorem paths_law (ps : List ByteArray) : Lib.compact ((ps.map key).mergeSort fun x y => decide (x ≤ y)) = (ps.foldl putJ []).map key := by
  obtain ⟨h1, h2⟩ := compact_sorted (ps.map key)
  obtain ⟨h3, h4⟩ := fold_sorted (ps.map key) [] List.Pairwise.nil
  rw [fold_key, List.map_nil]
  refine strict_eq _ _ h1 h3 (fun x => ?_)
  rw [h2, h4]
  simp

/-! ### how many -/
theorem sumO_cons_some {o : Option Nat} {l : List (Option Nat)} {n : Nat} (h : sumO (o :: l) = some n) : ∃ a m, o = some a ∧ sumO l = some m ∧ n = a + m := by
  cases o with
  | none => simp [sumO] at h
  | some a =>
    simp only [sumO, Option.map_eq_some_iff] at h
    obtain ⟨m, hm, e⟩ := h
    exact ⟨a, m, rfl, hm, e.symm⟩

theorem flat_le {α : Type} (g : α → Option Nat) (p : α → List ByteArray) : ∀ (l : List α), (∀ x ∈ l, ∀ n, g x = some n → (p x).length ≤ n) → ∀ n, sumO (l.map g) = some n → (l.flatMap p).length ≤ n
  | [], _, n, _ => by simp
  | x :: l, h, n, hn => by
    obtain ⟨a, m, e1, e2, rfl⟩ := sumO_cons_some hn
    rw [List.flatMap_cons, List.length_append]
    have h1 := h x (by simp) a e1
    have h2 := flat_le g p l (fun y hy => h y (by simp [hy])) m e2
    omega

theorem member_le {cl : S25 → Option Nat} {ps : S25 → List ByteArray} (s : ByteArray) (y : S25) (hy : ∀ z, (z = y ∨ z ∈ y.f4) → ∀ n, cl z = some n → (ps z).length ≤ n) (n : Nat) (h : clauseJ cl s y = some n) : (memberJ ps s y).length ≤ n := by
  unfold clauseJ at h
  unfold memberJ
  by_cases c : (isAnd s || isOr s) = true
  · rw [if_pos c] at h ⊢
    split at h
    · cases h
    · obtain ⟨m, hm, rfl⟩ := Option.map_eq_some_iff.1 h
      have := flat_le cl ps y.f4 (fun z hz => hy z (.inr hz)) m hm
      omega
  · rw [if_neg c] at h ⊢
    by_cases c2 : isNot s = true
    · rw [if_pos c2] at h ⊢
      obtain ⟨m, hm, rfl⟩ := Option.map_eq_some_iff.1 h
      have := hy y (.inl rfl) m hm
      omega
    · rw [if_neg c2] at h ⊢
      split at h
      · cases h
      split at h
      · cases h
      split at h
      · cases h
      · injection h with h
        simp [← h]

theorem paths_le : ∀ (k : Nat) (f : S25) (n : Nat), clausesJ k f = some n → (pathsJ k f).length ≤ n
  | 0, f, n, h => by simp [pathsJ]
  | k + 1, f, n, h => by
    unfold clausesJ at h
    split at h
    · cases h
    · unfold pathsJ
      exact flat_le _ _ _ (fun i _ m hm => member_le _ _ (fun z _ n => paths_le k z n) m hm) n h

end Go.Proofs.YtehdnjegipcpfaaDoor
