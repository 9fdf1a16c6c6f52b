/-
  Plain laws: the printed mirrors of Nodes, Few and few answer at every value; no condition.
-/
import Derived.Test.YtehdnjegipcpfaaDoorA
import Derived.Test.YtehdnjegipcpfaaDoorPFilterHoldsx5
namespace Go.Proofs.YtehdnjegipcpfaaDoor
open Go.RowKit Go.Proofs.YtehdnjegipcpfaaDoorW.PrintWords Go.Proofs.YtehdnjegipcpfaaDoorW.PrintLast Go.Proofs.YtehdnjegipcpfaaDoorW.PrintMore
open PFilterHolds

theorem le_lift {α : Type} {F : Nat → Option α} (hm : ∀ k, LeO (F k) (F (k + 1))) {k m : Nat} {r : α} (h : F k = some r) (hk : k ≤ m) : F m = some r := by
  induction m with
  | zero => obtain rfl : k = 0 := by omega
            exact h
  | succ m ih =>
    by_cases e : k = m + 1
    · subst e; exact h
    · exact hm m r (ih (by omega))

theorem nodes_l0 (left : Nat) (x : S25) (hx : ∀ y ∈ x.f4, ∃ k r, munimentref01_nodes.f k y.f0 y.f1 y.f2 y.f3 y.f4 (left : Int) = some r ∧ 1 ≤ r ∧ r ≤ 1001) (hleft : left ≤ 100) : ∀ d i : Nat, ∀ n : Int, i + d = x.f4.length → (i : Int) + 1 ≤ n → n ≤ 2001 →
    ∃ k r, munimentref01_nodes.l0 k ((left : Int) + 1) n (i : Int) x.f0 x.f1 x.f2 x.f3 x.f4 = some r ∧ 1 ≤ r ∧ r ≤ 1001 ∧ (r ≤ 1000 → (x.f4.length : Int) + 1 ≤ r)
  | 0, i, n, h, h1, h2 => by
    refine ⟨1, mn n 1001, ?_, ?_⟩
    · unfold munimentref01_nodes.l0
      rw [if_neg (by omega)]
    · unfold mn; split <;> omega
  | d + 1, i, n, h, h1, h2 => by
    by_cases hn : n ≤ 1000
    · have hi : i < x.f4.length := by omega
      obtain ⟨k1, r1, e1, a1, a2⟩ := hx (x.f4[i]) (List.getElem_mem hi)
      obtain ⟨k2, r2, e2, b1, b2, b3⟩ := nodes_l0 left x hx hleft d (i + 1) (n + r1) (by omega) (by omega) (by omega)
      refine ⟨max k1 k2 + 1, r2, ?_, b1, b2, b3⟩
      unfold munimentref01_nodes.l0
      rw [if_pos (by omega), if_pos hn, if_pos (by omega), rd_getD _ _ hi]
      have w1 : wrap64 ((left : Int) + 1 - 1) = left := by unfold wrap64; omega
      have w2 : wrap64 (n + r1) = n + r1 := by unfold wrap64; omega
      have w3 : wrap64 ((i : Int) + 1) = ((i + 1 : Nat) : Int) := by unfold wrap64; omega
      rw [w1, le_lift (F := fun k => munimentref01_nodes.f k (x.f4[i]).f0 (x.f4[i]).f1 (x.f4[i]).f2 (x.f4[i]).f3 (x.f4[i]).f4 (left : Int)) (fun k => munimentref01_nodes.mono _ _ _ _ _ _ k) e1 (Nat.le_max_left k1 k2), Option.bind_some, w2, w3]
      exact le_lift (F := fun k => munimentref01_nodes.l0 k ((left : Int) + 1) (n + r1) ((i + 1 : Nat) : Int) x.f0 x.f1 x.f2 x.f3 x.f4) (fun k => (munimentref01_nodes.mono_l k).2 _ _ _ _ _ _ _ _) e2 (Nat.le_max_right k1 k2)
    · refine ⟨1, mn n 1001, ?_, ?_⟩
      · unfold munimentref01_nodes.l0
        rw [if_pos (by omega), if_neg hn]
      · unfold mn; split <;> omega

theorem nodes_tot : ∀ (left : Nat), left ≤ 100 → ∀ x : S25, ∃ k r, munimentref01_nodes.f k x.f0 x.f1 x.f2 x.f3 x.f4 (left : Int) = some r ∧ 1 ≤ r ∧ r ≤ 1001 ∧ (r ≤ 1000 → (x.f4.length : Int) + 1 ≤ r)
  | 0, _, x => ⟨1, 1001, by unfold munimentref01_nodes.f; rw [if_pos (by omega)], by omega, by omega, by omega⟩
  | left + 1, hl, x => by
    obtain ⟨k, r, e, h⟩ := nodes_l0 left x (fun y _ => by
      obtain ⟨k, r, e, h1, h2, _⟩ := nodes_tot left (by omega) y
      exact ⟨k, r, e, h1, h2⟩) (by omega) x.f4.length 0 1 (by omega) (by omega) (by omega)
    refine ⟨k + 1, r, ?_, h⟩
    unfold munimentref01_nodes.f
    rw [if_neg (by omega), Int.natCast_add]
    exact e

theorem Nodes_tot (x : S25) : ∃ k r, munimentref01_Nodes.f k x.f0 x.f1 x.f2 x.f3 x.f4 = some r ∧ (r ≤ 1000 → (x.f4.length : Int) + 1 ≤ r) := by
  obtain ⟨k, r, e, _, _, h⟩ := nodes_tot 40 (by omega) x
  refine ⟨k, r, ?_, h⟩
  unfold munimentref01_Nodes.f
  rw [show (40 : Int) = ((40 : Nat) : Int) from rfl, e]
  rfl

theorem few_l1 (x : S25) (hb : x.f4.length ≤ 1000) (hx : ∀ y ∈ x.f4, ∃ k r, munimentref01_Few.f k y.f0 y.f1 y.f2 y.f3 y.f4 = some r) : ∀ d i : Nat, i + d = x.f4.length →
    ∃ k r, munimentref01_Few.l1 k (i : Int) x.f0 x.f1 x.f2 x.f3 x.f4 = some r
  | 0, i, h => ⟨1, true, by unfold munimentref01_Few.l1; rw [if_neg (by omega)]⟩
  | d + 1, i, h => by
    have hi : i < x.f4.length := by omega
    obtain ⟨k1, r1, e1⟩ := hx (x.f4[i]) (List.getElem_mem hi)
    obtain ⟨k2, r2, e2⟩ := few_l1 x hb hx d (i + 1) (by omega)
    have w3 : wrap64 ((i : Int) + 1) = ((i + 1 : Nat) : Int) := by unfold wrap64; omega
    refine ⟨max k1 k2 + 1, if r1 then r2 else false, ?_⟩
    unfold munimentref01_Few.l1
    rw [if_pos (by omega), if_pos (by omega), rd_getD _ _ hi]
    rw [le_lift (F := fun k => munimentref01_Few.f k (x.f4[i]).f0 (x.f4[i]).f1 (x.f4[i]).f2 (x.f4[i]).f3 (x.f4[i]).f4) (fun k => munimentref01_Few.mono _ _ _ _ _ k) e1 (Nat.le_max_left k1 k2), Option.bind_some, w3]
    rw [le_lift (F := fun k => munimentref01_Few.l1 k ((i + 1 : Nat) : Int) x.f0 x.f1 x.f2 x.f3 x.f4) (fun k => (munimentref01_Few.mono_l k).2.2.2 _ _ _ _ _ _) e2 (Nat.le_max_right k1 k2)]
    cases r1 <;> simp

theorem few_l0 (x : S25) (hb : x.f3.length ≤ 1000) {k1 : Nat} {r1 : Bool} (h1 : munimentref01_Few.l1 k1 0 x.f0 x.f1 x.f2 x.f3 x.f4 = some r1) : ∀ d i : Nat, i + d = x.f3.length →
    ∃ k r, munimentref01_Few.l0 k (i : Int) x.f0 x.f1 x.f2 x.f3 x.f4 = some r
  | 0, i, h => ⟨k1 + 1, r1, by unfold munimentref01_Few.l0; rw [if_neg (by omega)]; exact h1⟩
  | d + 1, i, h => by
    obtain ⟨k2, r2, e2⟩ := few_l0 x hb h1 d (i + 1) (by omega)
    have w3 : wrap64 ((i : Int) + 1) = ((i + 1 : Nat) : Int) := by unfold wrap64; omega
    refine ⟨k2 + 1, if ((rdOf ByteArray.empty x.f3 (i : Int)).size : Int) > 1000 then false else r2, ?_⟩
    unfold munimentref01_Few.l0
    rw [if_pos (by omega), if_pos (by omega), w3, e2]
    split <;> rfl

theorem few_tot (x : S25) : ∃ k r, munimentref01_Few.f k x.f0 x.f1 x.f2 x.f3 x.f4 = some r := by
  obtain ⟨x0, x1, x2, x3, x4⟩ := x
  obtain ⟨kn, rn, en, hn⟩ := Nodes_tot ⟨x0, x1, x2, x3, x4⟩
  simp only at en hn
  have hlift : ∀ m, kn ≤ m → munimentref01_Nodes.f m x0 x1 x2 x3 x4 = some rn := fun m hm => le_lift (F := fun k => munimentref01_Nodes.f k x0 x1 x2 x3 x4) (fun k => munimentref01_Nodes.mono _ _ _ _ _ k) en hm
  have hj : ∃ r, ∀ m, munimentref01_Few.j0 (m + 1) true x0 x1 x2 x3 x4 = some r := ⟨false, fun m => by unfold munimentref01_Few.j0; rw [if_pos rfl]⟩
  obtain ⟨rj, hj⟩ := hj
  by_cases h300 : rn > 300
  · refine ⟨kn + 2, rj, ?_⟩
    unfold munimentref01_Few.f
    rw [hlift (kn + 1) (by omega), Option.bind_some, if_pos h300]
    exact hj _
  have h4 : (x4.length : Int) + 1 ≤ rn := hn (by omega)
  by_cases h100 : (x3.length : Int) > 100
  · refine ⟨kn + 2, rj, ?_⟩
    unfold munimentref01_Few.f
    rw [hlift (kn + 1) (by omega), Option.bind_some, if_neg h300, if_pos h100]
    exact hj _
  obtain ⟨k1, r1, e1⟩ := few_l1 ⟨x0, x1, x2, x3, x4⟩ (by show x4.length ≤ 1000; omega) (fun y hy => few_tot y) x4.length 0 (by simp)
  obtain ⟨k2, r2, e2⟩ := few_l0 ⟨x0, x1, x2, x3, x4⟩ (by show x3.length ≤ 1000; omega) (by simpa using e1) x3.length 0 (by simp)
  simp only at e2
  refine ⟨max kn k2 + 2, if (x2.size : Int) > 1000 then false else r2, ?_⟩
  unfold munimentref01_Few.f
  rw [hlift (max kn k2 + 1) (by omega), Option.bind_some, if_neg h300, if_neg h100]
  unfold munimentref01_Few.j0
  have := le_lift (F := fun k => munimentref01_Few.l0 k 0 x0 x1 x2 x3 x4) (fun k => (munimentref01_Few.mono_l k).2.2.1 _ _ _ _ _ _) (by simpa using e2) (Nat.le_max_right kn k2)
  rw [this]
  split
  · rename_i h; rw [if_pos (by simpa using h)]
  · rename_i h; rw [if_neg (by simpa using h)]
termination_by SizeOf.sizeOf x
decreasing_by
  have h := List.sizeOf_lt_of_mem hy
  have e : SizeOf.sizeOf (S25.mk x0 x1 x2 x3 x4) = 1 + SizeOf.sizeOf x0 + SizeOf.sizeOf x1 + SizeOf.sizeOf x2 + SizeOf.sizeOf x3 + SizeOf.sizeOf x4 := S25.mk.sizeOf_spec _ _ _ _ _
  have h' : SizeOf.sizeOf y < SizeOf.sizeOf x4 := h
  clear h
  omega

theorem Few_any (x : S25) (A3 : Option Addr) (c3 : Nat) (A4 : Option Addr) (c4 : Nat) (w : World) (h : Rd w A3 c3 A4 c4 x) :
    ∃ r : Bool, Calls Tryd.prog 30 #[av x A3 c3 A4 c4] w fun e w' => e = .returned (.bool r) ∧ Below w.heap.size w w' := by
  obtain ⟨k, r, e⟩ := few_tot x
  exact ⟨r, munimentref01_Few.calls k x.f0 x.f1 x.f2 A3 c3 x.f3 A4 c4 x.f4 r w h.g3 h.l3 h.g4 h.l4 e⟩

end Go.Proofs.YtehdnjegipcpfaaDoor
