/-
  Values that a law builds out of values: how they are read; the contract of the laws' few; no condition.
-/
import Derived.Test.YtehdnjegipcpfaaDoorHold
import Derived.Test.YtehdnjegipcpfaaDoorPlain
namespace Go.Proofs.YtehdnjegipcpfaaDoor
open Go.RowKit Go.Proofs.YtehdnjegipcpfaaDoorW.PrintWords Go.Proofs.YtehdnjegipcpfaaDoorW.PrintLast Go.Proofs.YtehdnjegipcpfaaDoorW.PrintMore
open PFilterHolds Go.Shelf

/-- A row out of a block that is known whole. -/
theorem C_blk {α : Type} {d : Kd α} {w : World} {B : Nat} {cs : Array Value} {t : TypeId} {ps : List α} (h : w.heap[B]? = some (.cells cs t (0, 0))) (hr : Reps (d.K w) d.sz ps cs.toList) (hn : ps.length ≤ 1000000) : d.C w (some ⟨B, 0, none⟩) ps.length ps := by
  refine ⟨rfl, by omega, fun _ => ⟨_, rfl, fun j p hj => ?_⟩⟩
  have hk := hr.2 j p hj
  refine ⟨_, d.K_len hk, hk, fun i u hu => ?_⟩
  rw [Addr.add_lit, Nat.zero_add, blk_cell h]
  have hi : i < d.sz := by
    have h1 := d.K_len hk
    have h2 := (List.getElem?_eq_some_iff.1 hu).1
    omega
  rw [List.getElem?_take_of_lt hi, List.getElem?_drop] at hu
  rw [← hu, ← Array.getElem?_toList]

theorem K_rd {w : World} {A3 : Option Addr} {c3 : Nat} {A4 : Option Addr} {c4 : Nat} {x : S25} (h : Rd w A3 c3 A4 c4 x) : k25.K w x [.int .i64 x.f0, .int .i64 x.f1, .string x.f2, .slice A3 x.f3.length c3, .slice A4 x.f4.length c4] :=
  k25_mk w x h.l3 h.g3 h.l4 h.g4

theorem reps_one {w : World} {A3 : Option Addr} {c3 : Nat} {A4 : Option Addr} {c4 : Nat} {x : S25} (h : Rd w A3 c3 A4 c4 x) : Reps (k25.K w) k25.sz [x] (cs25 x A3 c3 A4 c4).toList :=
  Reps.front (K_rd h) rfl (Reps.none _ _) rfl

theorem rd_ob {w : World} {B3 B4 : Nat} {s : ByteArray} {x : S25} {A3 : Option Addr} {c3 : Nat} {A4 : Option Addr} {c4 : Nat} (h3 : w.heap[B3]? = some (.cells #[.string s] 9 (0, 0))) (h4 : w.heap[B4]? = some (.cells (cs25 x A3 c3 A4 c4) 25 (0, 0))) (h : Rd w A3 c3 A4 c4 x) :
    Rd w (some ⟨B3, 0, none⟩) 1 (some ⟨B4, 0, none⟩) 1 (ob s x) :=
  ⟨Nat.le_refl _, C_blk h3 (Reps.front (c := [.string s]) rfl rfl (Reps.none _ _) rfl) (by simp [ob]), Nat.le_refl _, C_blk h4 (reps_one h) (by simp [ob])⟩

theorem rd_both {w : World} {B4 : Nat} {x y : S25} {A3 : Option Addr} {c3 : Nat} {A4 : Option Addr} {c4 : Nat} {B3 : Option Addr} {d3 : Nat} {B4' : Option Addr} {d4 : Nat} (h4 : w.heap[B4]? = some (.cells #[.int .i64 x.f0, .int .i64 x.f1, .string x.f2, .slice A3 x.f3.length c3, .slice A4 x.f4.length c4, .int .i64 y.f0, .int .i64 y.f1, .string y.f2, .slice B3 y.f3.length d3, .slice B4' y.f4.length d4] 25 (0, 0)))
    (h : Rd w A3 c3 A4 c4 x) (h' : Rd w B3 d3 B4' d4 y) : Rd w none 0 (some ⟨B4, 0, none⟩) 2 (both x y) :=
  ⟨Nat.le_refl _, (rd_z25 w).g3, Nat.le_refl _, C_blk h4 (Reps.front (c := [.int .i64 x.f0, .int .i64 x.f1, .string x.f2, .slice A3 x.f3.length c3, .slice A4 x.f4.length c4]) (K_rd h) rfl (reps_one h') rfl) (by simp [both])⟩

theorem c_two {w : World} {B4 : Nat} {x y : S25} {A3 : Option Addr} {c3 : Nat} {A4 : Option Addr} {c4 : Nat} {B3 : Option Addr} {d3 : Nat} {B4' : Option Addr} {d4 : Nat} (h4 : w.heap[B4]? = some (.cells #[.int .i64 x.f0, .int .i64 x.f1, .string x.f2, .slice A3 x.f3.length c3, .slice A4 x.f4.length c4, .int .i64 y.f0, .int .i64 y.f1, .string y.f2, .slice B3 y.f3.length d3, .slice B4' y.f4.length d4] 25 (0, 0)))
    (h : Rd w A3 c3 A4 c4 x) (h' : Rd w B3 d3 B4' d4 y) : k25.C w (some ⟨B4, 0, none⟩) [x, y].length [x, y] := (rd_both h4 h h').g4

theorem c_three {w : World} {B4 : Nat} {x y z : S25} {A3 : Option Addr} {c3 : Nat} {A4 : Option Addr} {c4 : Nat} {B3 : Option Addr} {d3 : Nat} {B4' : Option Addr} {d4 : Nat} {C3 : Option Addr} {e3 : Nat} {C4 : Option Addr} {e4 : Nat} (h4 : w.heap[B4]? = some (.cells #[.int .i64 x.f0, .int .i64 x.f1, .string x.f2, .slice A3 x.f3.length c3, .slice A4 x.f4.length c4, .int .i64 y.f0, .int .i64 y.f1, .string y.f2, .slice B3 y.f3.length d3, .slice B4' y.f4.length d4, .int .i64 z.f0, .int .i64 z.f1, .string z.f2, .slice C3 z.f3.length e3, .slice C4 z.f4.length e4] 25 (0, 0)))
    (h : Rd w A3 c3 A4 c4 x) (h' : Rd w B3 d3 B4' d4 y) (h'' : Rd w C3 e3 C4 e4 z) : k25.C w (some ⟨B4, 0, none⟩) [x, y, z].length [x, y, z] :=
  C_blk h4 (Reps.front (c := [.int .i64 x.f0, .int .i64 x.f1, .string x.f2, .slice A3 x.f3.length c3, .slice A4 x.f4.length c4]) (K_rd h) rfl (Reps.front (c := [.int .i64 y.f0, .int .i64 y.f1, .string y.f2, .slice B3 y.f3.length d3, .slice B4' y.f4.length d4]) (K_rd h') rfl (reps_one h'') rfl) rfl) (by simp)

theorem fewL_tot (l : List S25) (hb : l.length ≤ 1000) : ∀ d i : Nat, i + d = l.length → ∃ k r, munimentlaw15_few.l0 k l (i : Int) = some r
  | 0, i, h => ⟨1, true, by unfold munimentlaw15_few.l0; rw [if_neg (by omega)]⟩
  | d + 1, i, h => by
    have hi : i < l.length := by omega
    obtain ⟨k1, r1, e1⟩ := few_tot (l[i])
    obtain ⟨k2, r2, e2⟩ := fewL_tot l hb d (i + 1) (by omega)
    have w3 : wrap64 ((i : Int) + 1) = ((i + 1 : Nat) : Int) := by unfold wrap64; omega
    refine ⟨max k1 k2 + 1, if r1 then r2 else false, ?_⟩
    unfold munimentlaw15_few.l0
    rw [if_pos (by omega), if_pos (by omega), rd_getD _ _ hi]
    rw [le_lift (F := fun k => munimentref01_Few.f k (l[i]).f0 (l[i]).f1 (l[i]).f2 (l[i]).f3 (l[i]).f4) (fun k => munimentref01_Few.mono _ _ _ _ _ k) e1 (Nat.le_max_left k1 k2), Option.bind_some, w3]
    rw [le_lift (F := fun k => munimentlaw15_few.l0 k l ((i + 1 : Nat) : Int)) (fun k => munimentlaw15_few.mono_l k _ _) e2 (Nat.le_max_right k1 k2)]
    cases r1 <;> simp

theorem fewL_any (l : List S25) (hb : l.length ≤ 1000) : ∃ r : Bool, ∀ (A : Option Addr) (c : Nat) (w : World), k25.C w A l.length l → l.length ≤ c →
    Calls Tryd.prog 12 #[.slice A l.length c] w fun e w' => e = .returned (.bool r) ∧ Below w.heap.size w w' := by
  obtain ⟨k, r, e⟩ := fewL_tot l hb l.length 0 (by omega)
  exact ⟨r, fun A c w h hc => munimentlaw15_few.calls k A c l r w h hc e⟩

/-- What is behind a world may be shown of any world of which the same is known. -/
theorem any_world {P : Program} {c : Code} {Q : Exit → Act → World → Prop} {a : Act} {w : World} (K : World → Prop) (hK : K w) (h : ∀ W, K W → Code.wp P c Q a W) : Code.wp P c Q a w := h w hK

end Go.Proofs.YtehdnjegipcpfaaDoor
