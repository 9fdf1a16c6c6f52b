/-
  What a step may turn, and how the clock lies in memory: helpers of the clock statements; no condition.
-/
import Derived.WalkKit
import Derived.WalkSpells
import Derived.WalkLawsBesides
import Derived.Lib.SmallJoins
import Derived.Lib.Hide
import Derived.Maps.OwnSet
import Derived.Maps.RangeWalk
import Derived.Test.YtcdcdnochlapgaaProg
namespace Go.Proofs.Ytcdcdnochlapgaa
open Go.RowKit Go.Maps

/-- Only the blocks of S may have turned; new ones may have been laid. -/
structure Turn (S : Nat → Prop) (w w' : World) : Prop where
  os : w'.os = w.os
  tape : w'.tape = w.tape
  output : w'.output = w.output
  size : w.heap.size ≤ w'.heap.size
  block : ∀ k, k < w.heap.size → ¬ S k → w'.heap[k]? = w.heap[k]?

namespace Turn
variable {S T : Nat → Prop} {w w' w'' : World}
theorem refl (S : Nat → Prop) (w : World) : Turn S w w := ⟨rfl, rfl, rfl, Nat.le_refl _, fun _ _ _ => rfl⟩
theorem mono (h : Turn S w w') (hs : ∀ k, S k → T k) : Turn T w w' := ⟨h.os, h.tape, h.output, h.size, fun k hk hn => h.block k hk (fun e => hn (hs k e))⟩
theorem trans (h : Turn S w w') (h' : Turn S w' w'') : Turn S w w'' :=
  ⟨h'.os.trans h.os, h'.tape.trans h.tape, h'.output.trans h.output, Nat.le_trans h.size h'.size, fun k hk hn => (h'.block k (Nat.lt_of_lt_of_le hk h.size) hn).trans (h.block k hk hn)⟩
theorem of_below (h : Below w.heap.size w w') : Turn S w w' := ⟨h.os, h.tape, h.output, h.size, fun k hk _ => h.block k hk⟩
theorem of_grown {row : Option Nat} (h : w.grownBy w' row) (hr : ∀ k, row = some k → S k) : Turn S w w' :=
  ⟨h.os, h.tape, h.output, h.size, fun k hk hn => h.block k hk (fun e => hn (hr k e.symm))⟩
theorem setCell (h : Turn S w w') {p : Addr} (hp : S p.block) (u : Value) : Turn S w (w'.setCell p u) :=
  h.trans ⟨rfl, rfl, rfl, by simp [World.setCell], fun k _ hn => Below.heap_setCell _ _ _ _ (fun e => hn (e ▸ hp))⟩
theorem alloc (h : Turn S w w') (o : Obj) : Turn S w (w'.alloc o) :=
  h.trans ⟨rfl, rfl, rfl, by simp, fun k hk _ => Below.heap_alloc _ _ _ hk⟩
theorem drew (h : Turn S w w') : Turn S w w'.drew := ⟨h.os, h.tape, h.output, h.size, h.block⟩
theorem drewN (h : Turn S w w') (n : Nat) : Turn S w (w'.drewN n) := ⟨h.os, h.tape, h.output, h.size, h.block⟩
/-- What turned are blocks from B on. -/
theorem below {B : Nat} (h : Turn S w w') (hs : ∀ k, k < B → ¬ S k) (hB : B ≤ w.heap.size) : Below B w w' :=
  ⟨h.os, h.tape, h.output, h.size, fun k hk => h.block k (Nat.lt_of_lt_of_le hk hB) (hs k hk)⟩
end Turn

/-! the clock: its struct, its map -/
abbrev Dt := DataW Unit
abbrev id64 (i : Int) : Lit := .int .i64 i
abbrev u64d (x : Int) : Dt := .lit (.int .u64 x)

theorem law3 : Keyed Try.prog 3 := int_keyed Try.underlying3
theorem zero22 (w : World) : (zeroValue 22).run Try.prog w = .ok (.int .u64 0) w := by kernel_rfl

/-- The clock in block c: the time, the map m, which reads as D. -/
structure CS (w : World) (c m : Nat) (now : Int) (n : Nat) (D : Dt) : Prop where
  cell : w.heap[c]? = some (.cells #[.int .u64 now, .map (some m)] 51 (0, 0))
  own : w.ownsMap Try.prog 3 (plainElem Try.prog 22) m n D

theorem CS.ne {w : World} {c m : Nat} {now : Int} {n : Nat} {D : Dt} (h : CS w c m now n D) : m ≠ c := by
  rintro rfl
  obtain ⟨es, clock, hb, _⟩ := h.own
  rw [h.cell] at hb
  cases hb

theorem own_turn {S : Nat → Prop} {w w' : World} {m n : Nat} {D : Dt} (h : w.ownsMap Try.prog 3 (plainElem Try.prog 22) m n D) (ht : Turn S w w') (hm : ¬ S m) : w'.ownsMap Try.prog 3 (plainElem Try.prog 22) m n D := by
  have hlt := h.lt
  obtain ⟨es, clock, hb, r⟩ := h
  exact ⟨es, clock, (ht.block m hlt hm).trans hb, r⟩

theorem blk_lt {w : World} {b : Nat} {o : Obj} (h : w.heap[b]? = some o) : b < w.heap.size := (Array.getElem?_eq_some_iff.1 h).1

theorem CS.turn {S : Nat → Prop} {w w' : World} {c m : Nat} {now : Int} {n : Nat} {D : Dt} (h : CS w c m now n D) (ht : Turn S w w') (hc : ¬ S c) (hm : ¬ S m) : CS w' c m now n D :=
  ⟨(ht.block c (blk_lt h.cell) hc).trans h.cell, own_turn h.own ht hm⟩

theorem CS.cells {w : World} {c m : Nat} {now : Int} {n : Nat} {D : Dt} (h : CS w c m now n D) :
    w.cell? ⟨c, 0, none⟩ = some (.int .u64 now) ∧ w.cell? ⟨c, 1, none⟩ = some (.map (some m)) ∧ w.frozen? ⟨c, 0, none⟩ = false ∧ w.frozen? ⟨c, 1, none⟩ = false :=
  ⟨by simp [World.cell?, h.cell], by simp [World.cell?, h.cell], by simp [World.frozen?, h.cell], by simp [World.frozen?, h.cell]⟩

end Go.Proofs.Ytcdcdnochlapgaa
