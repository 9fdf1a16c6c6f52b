/-
  How a list of acts that comes in is read.
-/
import Derived.Test.YtcdcdnochlapgaaJ
import Derived.WalkKit
import Derived.ProofKit
import Derived.OpenShut
import Derived.ShutString
import Derived.ChangeOld
import Derived.Below
import Derived.Deep.SlicePairs
namespace Go.Proofs.Ytcdcdnochlapgaa
open Go.ChangeShapes Go.WideShapes Go.ChangeAt Go.RowKit

theorem own : ownKnob Try.prog.godebug = none := by kernel_rfl
theorem laidOut : laidOutB Try.prog = true := by kernel_rfl

/-- A list of acts that came in. -/
theorem script_of {H : Type} {enc : TypeId × Value → H} {W : World} {base : Nat} {spare : Nat → Bool} {held : Bool} {r : Option Addr} {len cap : Nat} {d : DataW H} {ps : List MemPlace}
    (h : DataW.Trod enc Try.prog W base spare held 23 (.slice r len cap) d ps) : ∃ ops : List (Int × Int), len = ops.length ∧ Script W r ops ∧ ∀ p ∈ ops, (id64 p.2).wf = true := by
  obtain ⟨fuel, hf⟩ := h
  rcases Deep.open_slice_pairs Try.underlying23 Try.underlying35 (by kernel_rfl) rfl rfl (by kernel_rfl) (by kernel_rfl) hf with ⟨hcs, _⟩ | ⟨a, len', cap', m, n, V0, V1, D0, D1, P0, P1, hcs, _, hl, hm, hmm, _, hcell⟩
  · simp [Value.cells] at hcs
    obtain ⟨rfl, rfl, rfl⟩ := hcs
    exact ⟨[], rfl, fun h => by simp at h, fun p hp => by cases hp⟩
  · simp [Value.cells] at hcs
    obtain ⟨rfl, rfl, rfl⟩ := hcs
    have hlm : len ≤ m := by rw [hmm]; split <;> omega
    have each : ∀ i, i < len → ∃ p : Int × Int, V0 i = .int .i64 p.1 ∧ V1 i = .int .i64 p.2 ∧ (id64 p.2).wf = true := fun i hi => by
      obtain ⟨_, _, t0, t1⟩ := hcell i (by omega)
      obtain ⟨x, e0, _, _⟩ := DataW.trod_int Try.underlying3 t0
      obtain ⟨y, e1, _, wy⟩ := DataW.trod_int Try.underlying3 t1
      exact ⟨(x, y), by simpa using e0, by simpa using e1, wy⟩
    obtain ⟨f, hfi⟩ := Deep.choose_lt each
    refine ⟨(List.range len).map f, by simp, fun hpos => ?_, fun p hp => ?_⟩
    · have hpos' : 0 < len := by simpa using hpos
      obtain ⟨b, off, spot⟩ := a
      have hc0 := (hcell 0 (by omega)).1
      have hspot : spot = none := by simpa [Addr.add] using World.cell?_spot hc0
      subst hspot
      refine ⟨b, off, rfl, fun i p hp => ?_⟩
      have hi : i < len := by have := (List.getElem?_eq_some_iff.1 hp).1; simpa using this
      have hp' : f i = p := by simpa [hi] using hp
      subst hp'
      obtain ⟨c0, c1, _, _⟩ := hcell i (by omega)
      rw [(hfi i hi).1] at c0
      rw [(hfi i hi).2.1] at c1
      rw [add_plain] at c0 c1
      exact ⟨c0, c1⟩
    · obtain ⟨i, hi, rfl⟩ := List.mem_map.1 hp
      exact (hfi i (List.mem_range.1 hi)).2.2

end Go.Proofs.Ytcdcdnochlapgaa
