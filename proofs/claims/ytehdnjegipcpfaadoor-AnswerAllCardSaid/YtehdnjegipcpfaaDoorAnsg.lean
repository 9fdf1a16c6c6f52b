/-
  Few of the answers comes to a value, and what it bounds; Same is true of a formed value and itself.
-/
import Derived.Test.YtehdnjegipcpfaaDoorOrd
import Derived.Test.YtehdnjegipcpfaaDoorAx4
import Derived.Test.YtehdnjegipcpfaaDoorAx2
namespace Go.Proofs.YtehdnjegipcpfaaDoor
open Go.RowKit Go.Proofs.YtehdnjegipcpfaaDoorW.PrintWords Go.Proofs.YtehdnjegipcpfaaDoorW.PrintLast Go.Proofs.YtehdnjegipcpfaaDoorW.PrintMore
open PFilterHolds PAns Go.Shelf
theorem rd72 (l : List S72) (i : Nat) (h : i < l.length) : rd_T72 l (i : Int) = l[i] := by unfold rd_T72; simp [h]
theorem rd83 (l : List S83) (i : Nat) (h : i < l.length) : rd_T83 l (i : Int) = l[i] := by unfold rd_T83; simp [h]
theorem rdB (l : List ByteArray) (i : Nat) (h : i < l.length) : rdOf ByteArray.empty l (i : Int) = l[i] := by unfold rdOf; simp [h]
theorem wrapS {i n : Nat} (h : i < n) (hn : n ≤ 1000) : wrap64 ((i : Int) + 1) = ((i + 1 : Nat) : Int) := by unfold wrap64; omega
theorem few2_tot (l : List S72) (hb : l.length ≤ 1000) : ∀ d i : Nat, i + d = l.length → ∃ k r, munimentref16_Few.l2 k l (i : Int) = some r ∧ (r = true → ∀ x ∈ l.drop i, x.f0.size ≤ 1000)
  | 0, i, h => ⟨1, true, by unfold munimentref16_Few.l2; rw [if_neg (by omega)], fun _ x hx => by rw [List.drop_eq_nil_of_le (by omega)] at hx; cases hx⟩
  | d + 1, i, h => by
    have hi : i < l.length := by omega
    obtain ⟨k1, r1, e1⟩ := few_tot (l[i]).f1
    obtain ⟨k2, r2, e2, h2⟩ := few2_tot l hb d (i + 1) (by omega)
    by_cases hs : ((l[i]).f0.size : Int) > 1000
    · refine ⟨k1 + 1, false, ?_, fun h => by cases h⟩
      unfold munimentref16_Few.l2
      rw [if_pos (by omega), if_pos (by omega), rd72 _ _ hi, e1, Option.bind_some, if_pos hs]
      cases r1 <;> simp
    · refine ⟨max k1 k2 + 1, if r1 then r2 else false, ?_, fun hr x hx => ?_⟩
      · unfold munimentref16_Few.l2
        rw [if_pos (by omega), if_pos (by omega), rd72 _ _ hi]
        rw [le_lift (F := fun k => munimentref01_Few.f k (l[i]).f1.f0 (l[i]).f1.f1 (l[i]).f1.f2 (l[i]).f1.f3 (l[i]).f1.f4) (fun k => munimentref01_Few.mono _ _ _ _ _ k) e1 (Nat.le_max_left k1 k2), Option.bind_some, wrapS hi hb, if_neg hs]
        rw [le_lift (F := fun k => munimentref16_Few.l2 k l ((i + 1 : Nat) : Int)) (fun k => (munimentref16_Few.mono_l k).2.2.2 _ _) e2 (Nat.le_max_right k1 k2)]
        cases r1 <;> simp
      · rw [List.drop_eq_getElem_cons hi] at hx
        rcases List.mem_cons.1 hx with rfl | hx
        · omega
        · cases r1
          · cases hr
          · exact h2 hr x hx
theorem few1_tot (l : List S72) (a0 a1 : Int) (a2 : ByteArray) (l3 : List ByteArray) (l4 : List S25) (l5 : List S83) (l6 : List ByteArray) (a7 a8 : Int) (hb : l6.length ≤ 1000) {k2 : Nat} {r2 : Bool} (h2 : munimentref16_Few.l2 k2 l 0 = some r2) :
    ∀ d i : Nat, i + d = l6.length → ∃ k r, munimentref16_Few.l1 k l (i : Int) a0 a1 a2 l3 l4 l5 l6 a7 a8 = some r ∧ (r = true → r2 = true ∧ ∀ s ∈ l6.drop i, s.size ≤ 1000)
  | 0, i, h => ⟨k2 + 1, r2, by unfold munimentref16_Few.l1; rw [if_neg (by omega)]; exact h2, fun hr => ⟨hr, fun s hs => by rw [List.drop_eq_nil_of_le (by omega)] at hs; cases hs⟩⟩
  | d + 1, i, h => by
    have hi : i < l6.length := by omega
    obtain ⟨k1, r1, e1, h1⟩ := few1_tot l a0 a1 a2 l3 l4 l5 l6 a7 a8 hb h2 d (i + 1) (by omega)
    by_cases hs : ((l6[i]).size : Int) > 1000
    · refine ⟨1, false, ?_, fun h => by cases h⟩
      unfold munimentref16_Few.l1
      rw [if_pos (by omega), if_pos (by omega), rdB _ _ hi, if_pos hs]
    · refine ⟨k1 + 1, r1, ?_, fun hr => ⟨(h1 hr).1, fun s hx => ?_⟩⟩
      · unfold munimentref16_Few.l1
        rw [if_pos (by omega), if_pos (by omega), rdB _ _ hi, if_neg hs, wrapS hi hb]
        exact e1
      · rw [List.drop_eq_getElem_cons hi] at hx
        rcases List.mem_cons.1 hx with rfl | hx
        · omega
        · exact (h1 hr).2 s hx
theorem few0_tot (l : List S72) (a0 a1 : Int) (a2 : ByteArray) (l3 : List ByteArray) (l4 : List S25) (l5 : List S83) (l6 : List ByteArray) (a7 a8 : Int) (hb : l5.length ≤ 1000) {k2 : Nat} {r2 : Bool} (h2 : munimentref16_Few.l1 k2 l 0 a0 a1 a2 l3 l4 l5 l6 a7 a8 = some r2) :
    ∀ d i : Nat, i + d = l5.length → ∃ k r, munimentref16_Few.l0 k l (i : Int) a0 a1 a2 l3 l4 l5 l6 a7 a8 = some r ∧ (r = true → r2 = true ∧ ∀ s ∈ l5.drop i, s.f0.size ≤ 1000)
  | 0, i, h => ⟨k2 + 1, r2, by unfold munimentref16_Few.l0; rw [if_neg (by omega)]; exact h2, fun hr => ⟨hr, fun s hs => by rw [List.drop_eq_nil_of_le (by omega)] at hs; cases hs⟩⟩
  | d + 1, i, h => by
    have hi : i < l5.length := by omega
    obtain ⟨k1, r1, e1, h1⟩ := few0_tot l a0 a1 a2 l3 l4 l5 l6 a7 a8 hb h2 d (i + 1) (by omega)
    by_cases hs : ((l5[i]).f0.size : Int) > 1000
    · refine ⟨1, false, ?_, fun h => by cases h⟩
      unfold munimentref16_Few.l0
      rw [if_pos (by omega), if_pos (by omega), rd83 _ _ hi, if_pos hs]
    · refine ⟨k1 + 1, r1, ?_, fun hr => ⟨(h1 hr).1, fun s hx => ?_⟩⟩
      · unfold munimentref16_Few.l0
        rw [if_pos (by omega), if_pos (by omega), rd83 _ _ hi, if_neg hs, wrapS hi hb]
        exact e1
      · rw [List.drop_eq_getElem_cons hi] at hx
        rcases List.mem_cons.1 hx with rfl | hx
        · omega
        · exact (h1 hr).2 s hx
theorem few16_tot (f : S25) (so : List S83) (fi : List ByteArray) (sk lm : Int) (l : List S72) :
    ∃ k r, munimentref16_Few.f k f.f0 f.f1 f.f2 f.f3 f.f4 so fi sk lm l = some r ∧ (r = true → so.length ≤ 20 ∧ fi.length ≤ 20 ∧ l.length ≤ 40 ∧ (∀ o ∈ so, o.f0.size ≤ 1000) ∧ (∀ s ∈ fi, s.size ≤ 1000) ∧ ∀ x ∈ l, x.f0.size ≤ 1000) := by
  obtain ⟨k1, r1, e1⟩ := few_tot f
  by_cases hc : r1 = true ∧ so.length ≤ 20 ∧ fi.length ≤ 20 ∧ l.length ≤ 40
  · obtain ⟨rfl, c1, c2, c3⟩ := hc
    obtain ⟨k2, r2, e2, h2⟩ := few2_tot l (by omega) l.length 0 (by omega)
    obtain ⟨k3, r3, e3, h3⟩ := few1_tot l f.f0 f.f1 f.f2 f.f3 f.f4 so fi sk lm (by omega) e2 fi.length 0 (by omega)
    obtain ⟨k4, r4, e4, h4⟩ := few0_tot l f.f0 f.f1 f.f2 f.f3 f.f4 so fi sk lm (by omega) e3 so.length 0 (by omega)
    refine ⟨max k1 (k4 + 1), r4, ?_, fun hr => ?_⟩
    · unfold munimentref16_Few.f
      rw [le_lift (F := fun k => munimentref01_Few.f k f.f0 f.f1 f.f2 f.f3 f.f4) (fun k => munimentref01_Few.mono _ _ _ _ _ k) e1 (Nat.le_max_left k1 (k4 + 1)), Option.bind_some, if_pos rfl, if_neg (by omega), if_neg (by omega), decide_eq_false (by omega)]
      refine le_lift (F := fun k => munimentref16_Few.j0 k l false f.f0 f.f1 f.f2 f.f3 f.f4 so fi sk lm) (fun k => (munimentref16_Few.mono_l k).1 _ _ _ _ _ _ _ _ _ _ _) (k := k4 + 1) ?_ (Nat.le_max_right k1 (k4 + 1))
      show munimentref16_Few.j0 (k4 + 1) _ _ _ _ _ _ _ _ _ _ _ = _
      rw [munimentref16_Few.j0, if_neg (by decide)]
      exact e4
    · obtain ⟨hr3, hso⟩ := h4 hr
      obtain ⟨hr2, hfi⟩ := h3 hr3
      exact ⟨c1, c2, c3, hso, hfi, h2 hr2⟩
  · have hj : ∀ k, munimentref16_Few.j0 (k + 1) l true f.f0 f.f1 f.f2 f.f3 f.f4 so fi sk lm = some false := fun k => by
      rw [munimentref16_Few.j0, if_pos rfl]
    refine ⟨k1 + 1, false, ?_, fun h => by cases h⟩
    unfold munimentref16_Few.f
    rw [le_lift (F := fun k => munimentref01_Few.f k f.f0 f.f1 f.f2 f.f3 f.f4) (fun k => munimentref01_Few.mono _ _ _ _ _ k) e1 (Nat.le_succ k1), Option.bind_some]
    cases r1 with
    | false => rw [if_neg (by decide)]; exact hj k1
    | true =>
      rw [if_pos rfl]
      by_cases c1 : (so.length : Int) > 20
      · rw [if_pos c1]; exact hj k1
      rw [if_neg c1]
      by_cases c2 : (fi.length : Int) > 20
      · rw [if_pos c2]; exact hj k1
      rw [if_neg c2, decide_eq_true (by
        by_cases c3 : (l.length : Int) > 40
        · exact c3
        · exact absurd ⟨rfl, by omega, by omega, by omega⟩ hc)]
      exact hj k1
theorem same_l1 (x : S25) (hb : x.f4.length ≤ 1000) (hx : ∀ y ∈ x.f4, ∃ k, munimentref01_Same.f k y.f0 y.f1 y.f2 y.f3 y.f4 y.f0 y.f1 y.f2 y.f3 y.f4 = some true) : ∀ d i : Nat, i + d = x.f4.length →
    ∃ k, munimentref01_Same.l1 k (i : Int) x.f0 x.f1 x.f2 x.f3 x.f4 x.f0 x.f1 x.f2 x.f3 x.f4 = some true
  | 0, i, h => ⟨1, by unfold munimentref01_Same.l1; rw [if_neg (by omega)]⟩
  | d + 1, i, h => by
    have hi : i < x.f4.length := by omega
    obtain ⟨k1, e1⟩ := hx (x.f4[i]) (List.getElem_mem hi)
    obtain ⟨k2, e2⟩ := same_l1 x hb hx d (i + 1) (by omega)
    refine ⟨max k1 k2 + 1, ?_⟩
    unfold munimentref01_Same.l1
    rw [if_pos (by omega), if_pos (by omega), if_pos (by omega), rd_getD _ _ hi]
    rw [le_lift (F := fun k => munimentref01_Same.f k (x.f4[i]).f0 (x.f4[i]).f1 (x.f4[i]).f2 (x.f4[i]).f3 (x.f4[i]).f4 (x.f4[i]).f0 (x.f4[i]).f1 (x.f4[i]).f2 (x.f4[i]).f3 (x.f4[i]).f4) (fun k => munimentref01_Same.mono _ _ _ _ _ _ _ _ _ _ k) e1 (Nat.le_max_left k1 k2), Option.bind_some, if_pos rfl, wrapS hi hb]
    exact le_lift (F := fun k => munimentref01_Same.l1 k ((i + 1 : Nat) : Int) x.f0 x.f1 x.f2 x.f3 x.f4 x.f0 x.f1 x.f2 x.f3 x.f4) (fun k => (munimentref01_Same.mono_l k).2.2.2 _ _ _ _ _ _ _ _ _ _ _) e2 (Nat.le_max_right k1 k2)
theorem same_l0 (x : S25) (hb : x.f3.length ≤ 1000) {k1 : Nat} (h1 : munimentref01_Same.l1 k1 0 x.f0 x.f1 x.f2 x.f3 x.f4 x.f0 x.f1 x.f2 x.f3 x.f4 = some true) : ∀ d i : Nat, i + d = x.f3.length →
    ∃ k, munimentref01_Same.l0 k (i : Int) x.f0 x.f1 x.f2 x.f3 x.f4 x.f0 x.f1 x.f2 x.f3 x.f4 = some true
  | 0, i, h => ⟨k1 + 1, by unfold munimentref01_Same.l0; rw [if_neg (by omega)]; exact h1⟩
  | d + 1, i, h => by
    have hi : i < x.f3.length := by omega
    obtain ⟨k2, e2⟩ := same_l0 x hb h1 d (i + 1) (by omega)
    refine ⟨k2 + 1, ?_⟩
    unfold munimentref01_Same.l0
    rw [if_pos (by omega), if_pos (by omega), if_pos (by omega), if_pos rfl, wrapS hi hb]
    exact e2
theorem same_one (x : S25) (h3 : x.f3.length ≤ 1000) (h4 : x.f4.length ≤ 1000) (hx : ∀ y ∈ x.f4, ∃ k, munimentref01_Same.f k y.f0 y.f1 y.f2 y.f3 y.f4 y.f0 y.f1 y.f2 y.f3 y.f4 = some true) :
    ∃ k, munimentref01_Same.f k x.f0 x.f1 x.f2 x.f3 x.f4 x.f0 x.f1 x.f2 x.f3 x.f4 = some true := by
  obtain ⟨k1, e1⟩ := same_l1 x h4 hx x.f4.length 0 (by omega)
  obtain ⟨k2, e2⟩ := same_l0 x h3 e1 x.f3.length 0 (by omega)
  refine ⟨k2 + 2, ?_⟩
  unfold munimentref01_Same.f
  rw [if_pos rfl, if_pos rfl, if_pos rfl, if_pos rfl, show ((x.f4.length : Int) != (x.f4.length : Int)) = false by simp]
  rw [munimentref01_Same.j0, if_neg (by decide)]
  exact e2
theorem same_formed : ∀ (n : Nat) (x : S25), formedJ n x = true → ∃ k, munimentref01_Same.f k x.f0 x.f1 x.f2 x.f3 x.f4 x.f0 x.f1 x.f2 x.f3 x.f4 = some true
  | 0, x, h => by unfold formedJ at h; cases h
  | n + 1, x, h => by
    unfold formedJ at h
    rw [Bool.and_eq_true] at h
    have h := h.2
    split at h
    · simp only [Bool.and_eq_true, beq_iff_eq] at h
      exact same_one x (by omega) (by omega) (fun y hy => by rw [List.eq_nil_of_length_eq_zero h.1] at hy; cases hy)
    · simp only [Bool.and_eq_true, decide_eq_true_eq, beq_iff_eq, List.all_eq_true] at h
      obtain ⟨⟨⟨a1, a2⟩, _⟩, a4⟩ := h
      exact same_one x (by split at a2 <;> omega) (by omega) (fun y hy => same_formed n y (a4 y hy))
end Go.Proofs.YtehdnjegipcpfaaDoor
