/-
  A row's argument of the values' type is read as a value; utf8's tables out of what the row lists; no condition.
-/
import Derived.Test.YtehdnjegipcpfaaDoorBase
import Derived.Test.YtehdnjegipcpfaaDoorCards
import Derived.Test.YtehdnjegipcpfaaDoorTie
import Derived.WalkKit
import Derived.ProofKit
import Derived.OpenShut
import Derived.Lib.SmallJoins
import Derived.Lib.LaidU8T
import Derived.PinnedBridge
import Derived.Deep.Slices
import Derived.Deep.DeepHandedRow
import Derived.Lib.LaidTab
import Derived.Lib.LaidIn
namespace Go.Proofs.YtehdnjegipcpfaaDoor
open Go.ChangeShapes Go.WideShapes Go.ChangeAt Go.RowKit Go.Lib
open Go.Proofs.YtehdnjegipcpfaaDoorW.PrintWords Go.Proofs.YtehdnjegipcpfaaDoorW.PrintLast Go.Proofs.YtehdnjegipcpfaaDoorW.PrintMore
open PFilterHolds Go.Shelf
theorem cells25 : Tryd.prog.cellsOf 25 = 5 := by kernel_rfl
theorem cells9 : Tryd.prog.cellsOf 9 = 1 := by kernel_rfl
theorem cells3 : Tryd.prog.cellsOf 3 = 1 := by kernel_rfl
theorem cells2 : Tryd.prog.cellsOf 2 = 1 := by kernel_rfl
theorem cells22 : Tryd.prog.cellsOf 22 = 1 := by kernel_rfl
theorem cells23 : Tryd.prog.cellsOf 23 = 1 := by kernel_rfl
theorem list_of {α : Type} (p : Nat → α → Prop) : ∀ n, (∀ i, i < n → ∃ x, p i x) → ∃ l : List α, l.length = n ∧ ∀ i x, l[i]? = some x → p i x
  | 0, _ => ⟨[], rfl, fun i x h => by simp at h⟩
  | n + 1, h => by
    obtain ⟨l, hl, hp⟩ := list_of p n (fun i hi => h i (by omega))
    obtain ⟨x, hx⟩ := h n (by omega)
    refine ⟨l ++ [x], by simp [hl], fun i y hy => ?_⟩
    by_cases hi : i < n
    · rw [List.getElem?_append_left (by omega)] at hy
      exact hp i y hy
    · have hin : i = n := by
        have := (List.getElem?_eq_some_iff.1 hy).1
        simp at this
        omega
      subst hin
      have : x = y := by rw [← hl] at hy; simpa using hy
      subst this
      exact hx
section
variable {H : Type} {enc : TypeId × Value → H} {w : World} {base : Nat} {spare : Nat → Bool} {held : Bool}
set_option maxRecDepth 100000 in
theorem row_of {α : Type} (d : Kd α) (P : Program) (e : TypeId) (hc : P.cellsOf e = d.sz) (fuel : Nat) (t : TypeId) (ht : P.underlying t = some (.slice e)) (cs : List Value) (x : DataW H × List MemPlace)
    (hel : ∀ n cs' y, n < fuel → DataW.trod enc P w base spare held n e cs' = some y → ∃ v : α, d.K w v cs') (h : DataW.trod enc P w base spare held fuel t cs = some x) :
    ∃ A c l, cs = [.slice A l.length c] ∧ l.length ≤ c ∧ Kd.C d w A l.length l := by
  rcases DataW.trod_slice ht h with ⟨rfl, _⟩ | ⟨a, len, cap, elems, rest, n, hf, rfl, _, _, hl, hm, hlen, hel', _, _⟩
  · exact ⟨none, 0, [], rfl, Nat.le_refl _, rfl, by simp, fun hp => by simp at hp⟩
  · obtain ⟨l, hll, hp⟩ := list_of (fun i (v : α) => ∃ cs', cs'.length = d.sz ∧ d.K w v cs' ∧ ∀ j u, cs'[j]? = some u → w.cell? (a.add (i * d.sz + j)) = some u) len (fun i hi => by
      have h1 := hel' i hi
      have h2 : elems[i]? = some (elems[i]'(by omega)) := List.getElem?_eq_getElem (by omega)
      rw [h2, Option.bind_eq_some_iff] at h1
      obtain ⟨cs', hcs, htr⟩ := h1
      obtain ⟨v, hv⟩ := hel n cs' _ (by omega) htr
      obtain ⟨_, hcl, hat⟩ := World.cells?_some hcs
      refine ⟨v, cs', by rw [hcl, hc], hv, fun j u hu => ?_⟩
      have hj : j < cs'.length := (List.getElem?_eq_some_iff.1 hu).1
      rw [hcl] at hj
      have := hat j hj
      rw [Go.Deep.add_add, hu, hc] at this
      exact this)
    subst hll
    refine ⟨some a, cap, l, rfl, hl, rfl, by unfold maxLen at hm; omega, fun _ => ⟨a, rfl, fun j p hj => hp j p hj⟩⟩
set_option maxRecDepth 100000 in
theorem open_value : ∀ (fuel : Nat) (cs : List Value) (x : DataW H × List MemPlace), DataW.trod enc Tryd.prog w base spare held fuel 25 cs = some x →
    ∃ (v : S25) (A3 : Option Addr) (c3 : Nat) (A4 : Option Addr) (c4 : Nat), cs = [.int .i64 v.f0, .int .i64 v.f1, .string v.f2, .slice A3 v.f3.length c3, .slice A4 v.f4.length c4] ∧ Rd w A3 c3 A4 c4 v := by
  intro fuel
  induction fuel using Nat.strongRecOn with
  | _ fuel ih =>
  intro cs x h
  obtain ⟨xs, n, hn, _, hcl, hlen, hg⟩ := DataW.trod_struct Tryd.underlying25 h
  rw [cells25] at hcl
  match cs, hcl with
  | [k0, k1, k2, k3, k4], _ =>
    have hxs : xs.length = 5 := hlen
    have g0 : DataW.trod enc Tryd.prog w base spare held n 3 (([k0, k1, k2, k3, k4].drop 0).take (Tryd.prog.cellsOf 3)) = xs[0]? := hg 0 _ rfl
    have g1 : DataW.trod enc Tryd.prog w base spare held n 2 (([k0, k1, k2, k3, k4].drop 1).take (Tryd.prog.cellsOf 2)) = xs[1]? := hg 1 _ rfl
    have g2 : DataW.trod enc Tryd.prog w base spare held n 9 (([k0, k1, k2, k3, k4].drop 2).take (Tryd.prog.cellsOf 9)) = xs[2]? := hg 2 _ rfl
    have g3 : DataW.trod enc Tryd.prog w base spare held n 22 (([k0, k1, k2, k3, k4].drop 3).take (Tryd.prog.cellsOf 22)) = xs[3]? := hg 3 _ rfl
    have g4 : DataW.trod enc Tryd.prog w base spare held n 23 (([k0, k1, k2, k3, k4].drop 4).take (Tryd.prog.cellsOf 23)) = xs[4]? := hg 4 _ rfl
    rw [cells3, List.getElem?_eq_getElem (by omega)] at g0
    rw [cells2, List.getElem?_eq_getElem (by omega)] at g1
    rw [cells9, List.getElem?_eq_getElem (by omega)] at g2
    rw [cells22, List.getElem?_eq_getElem (by omega)] at g3
    rw [cells23, List.getElem?_eq_getElem (by omega)] at g4
    obtain ⟨n0, e0, _⟩ := DataW.trod_int Tryd.underlying3 g0
    obtain ⟨n1, e1, _⟩ := DataW.trod_int Tryd.underlying2 g1
    obtain ⟨s2, e2, _⟩ := DataW.trod_string Tryd.underlying9 g2
    obtain ⟨A3, c3, l3, e3, hl3, hC3⟩ := row_of Kd.string Tryd.prog 9 cells9 n 22 Tryd.underlying22 _ _ (fun m cs' y _ hm => by
      obtain ⟨s, hs, _⟩ := DataW.trod_string Tryd.underlying9 hm
      exact ⟨s, hs⟩) g3
    obtain ⟨A4, c4, l4, e4, hl4, hC4⟩ := row_of k25 Tryd.prog 25 cells25 n 23 Tryd.underlying23 _ _ (fun m cs' y hm hy => by
      obtain ⟨v, B3, d3, B4, d4, rfl, hR⟩ := ih m (by omega) cs' y hy
      exact ⟨v, k25_mk w v hR.l3 hR.g3 hR.l4 hR.g4⟩) g4
    have e0' : k0 = .int .i64 n0 := by simpa using e0
    have e1' : k1 = .int .i64 n1 := by simpa using e1
    have e2' : k2 = .string s2 := by simpa using e2
    have e3' : k3 = .slice A3 l3.length c3 := by simpa using e3
    have e4' : k4 = .slice A4 l4.length c4 := by simpa using e4
    subst e0' e1' e2' e3' e4'
    exact ⟨⟨n0, n1, s2, l3, l4⟩, A3, c3, A4, c4, rfl, ⟨hl3, hC3, hl4, hC4⟩⟩
end
theorem own : ownKnob Tryd.prog.godebug = none := by kernel_rfl
theorem laidOut : laidOutB Tryd.prog = true := by kernel_rfl
abbrev lst : List (String × DataW Unit) := [("unicode/utf8.acceptRanges", Rows.laid_unicode_utf8_acceptRanges), ("unicode/utf8.first", Rows.laid_unicode_utf8_first)]
theorem accept_eq : (Rows.laid_unicode_utf8_acceptRanges : DataW Unit) = Lib.acceptData := by kernel_rfl
theorem first_eq : (Rows.laid_unicode_utf8_first : DataW Unit) = Lib.firstData := Go.Pinned.utf8First_eq
theorem tabs_of {W : World} (hL : laidMetH Tryd.prog lst W) : Tabs W := by
  have hL := (laidMetH_iff.1 hL).1
  have hf : (lst.filter fun x => x.2.handleName?.isNone) = lst := by kernel_rfl
  rw [hf] at hL
  have h4 := Lib.laidMet.reads hL (.head _)
  have h3 := Lib.laidMet.reads hL (.tail _ (.head _))
  rw [accept_eq] at h4
  rw [first_eq] at h3
  exact utf8Tabs_of_readsT (U8Types.of196 Tryd.laysValid) ⟨by kernel_rfl, by kernel_rfl, by kernel_rfl, by kernel_rfl, by kernel_rfl, by kernel_rfl, by kernel_rfl⟩ h3 h4
noncomputable def laidWorld (os : Os) : World :=
  let w0 := World.holding Tryd.prog os ⟨#[], #[], []⟩
  let put (h : Array Obj) (g : Nat) (cs : Array Value) : Array Obj := h.modify g fun
    | .cells _ t frozen => .cells cs t frozen
    | o => o
  let h1 := put w0.heap 0 (Lib.firstTab.map fun z => Value.int .u8 z).toArray
  let h2 := put h1 1 ((List.range 16).flatMap fun i => [Value.int .u8 (Lib.accLo i), Value.int .u8 (Lib.accHi i)]).toArray
  { w0 with heap := h2 }
theorem laid_met (os : Os) (args : Array Value) : laidMet Tryd.prog lst ((laidWorld os).forCall (fun _ _ => 0) ⟨#[], args, []⟩).memory :=
  (LaidIn.of_run (l := lst) [1, 0] 8 (by kernel_rfl) (by kernel_rfl) (by kernel_rfl) (by kernel_rfl)).met
end Go.Proofs.YtehdnjegipcpfaaDoor
