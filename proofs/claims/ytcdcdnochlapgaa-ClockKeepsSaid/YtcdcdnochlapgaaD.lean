/-
  How the clock of the reference lies in memory; the contracts of its methods Tick and Time.
-/
import Derived.Test.YtcdcdnochlapgaaA
import Derived.RegionTactic
import Derived.ChangeAlike
import Derived.BigRegion
import Derived.Deep.QuietTactic
import Derived.BigQuiet
import Derived.OpenShut
namespace Go.Proofs.Ytcdcdnochlapgaa
open Go.RowKit Go.Maps

def u64s (ts : List Int) : List Value := ts.map (Value.int .u64)
def bls (ls : List Bool) : List Value := ls.map Value.bool

/-- The reference's clock in block b: the time, the times tv, whether they live lv; rows of the call's own from base on. -/
structure WS (w : World) (base b : Nat) (now : Int) (tv lv : Value) (ts : List Int) (ls : List Bool) : Prop where
  cell : w.heap[b]? = some (.cells #[.int .u64 now, tv, lv] 31 (0, 0))
  ht : w.ownsRow base 22 1 tv ts.length (u64s ts)
  hl : w.ownsRow base 4 1 lv ls.length (bls ls)
  len : ts.length = ls.length

theorem row_turn {S : Nat → Prop} {w w' : World} {base : Nat} {e : TypeId} {size n : Nat} {v : Value} {xs : List Value} (h : w.ownsRow base e size v n xs) (ht : Turn S w w') (hs : ∀ k, v.ownBlock = some k → ¬ S k) : w'.ownsRow base e size v n xs := by
  have hlt := h.lt
  obtain ⟨h1, h2⟩ := h
  refine ⟨h1, ?_⟩
  rcases h2 with h2 | ⟨g, cap, cur, rfl, hb, hg, r⟩
  · exact .inl h2
  · exact .inr ⟨g, cap, cur, rfl, hb, (ht.block g (hlt g rfl).2 (hs g rfl)).trans hg, r⟩

/-- A row is none of a block of another type. -/
theorem row_ne {w : World} {base : Nat} {e t : TypeId} {size n b : Nat} {v : Value} {xs : List Value} {cs : Array Value} {fr : Nat × Nat} (h : w.ownsRow base e size v n xs) (hb : w.heap[b]? = some (.cells cs t fr)) (hne : e ≠ t) : ∀ k, v.ownBlock = some k → k ≠ b := by
  rintro k hk rfl
  rcases h.2 with ⟨rfl, _⟩ | ⟨g, cap, cur, rfl, _, hg, _⟩
  · simp [Value.ownBlock] at hk
  · simp only [Value.ownBlock, Option.some.injEq] at hk
    subst hk
    rw [hg] at hb
    simp only [Option.some.injEq, Obj.cells.injEq] at hb
    exact hne hb.2.1

theorem rows_ne {w : World} {base base' : Nat} {e t : TypeId} {size size' n n' : Nat} {v v' : Value} {xs xs' : List Value} (h : w.ownsRow base e size v n xs) (h' : w.ownsRow base' t size' v' n' xs') (hne : e ≠ t) : ∀ k, v.ownBlock = some k → v'.ownBlock ≠ some k := by
  intro k hk hk'
  rcases h'.2 with ⟨rfl, _⟩ | ⟨g, cap, cur, rfl, _, hg, _⟩
  · simp [Value.ownBlock] at hk'
  · simp only [Value.ownBlock, Option.some.injEq] at hk'
    subst hk'
    exact row_ne h hg hne _ hk rfl

theorem WS.turn {S : Nat → Prop} {w w' : World} {base b : Nat} {now : Int} {tv lv : Value} {ts : List Int} {ls : List Bool} (h : WS w base b now tv lv ts ls) (ht : Turn S w w') (hb : ¬ S b) (h1 : ∀ k, tv.ownBlock = some k → ¬ S k) (h2 : ∀ k, lv.ownBlock = some k → ¬ S k) : WS w' base b now tv lv ts ls :=
  ⟨(ht.block b (blk_lt h.cell) hb).trans h.cell, row_turn h.ht ht h1, row_turn h.hl ht h2, h.len⟩

theorem WS.cells {w : World} {base b : Nat} {now : Int} {tv lv : Value} {ts : List Int} {ls : List Bool} (h : WS w base b now tv lv ts ls) :
    w.cell? ⟨b, 0, none⟩ = some (.int .u64 now) ∧ w.cell? ⟨b, 1, none⟩ = some tv ∧ w.cell? ⟨b, 2, none⟩ = some lv ∧ w.frozen? ⟨b, 0, none⟩ = false ∧ w.frozen? ⟨b, 1, none⟩ = false ∧ w.frozen? ⟨b, 2, none⟩ = false :=
  ⟨by simp [World.cell?, h.cell], by simp [World.cell?, h.cell], by simp [World.cell?, h.cell], by simp [World.frozen?, h.cell], by simp [World.frozen?, h.cell], by simp [World.frozen?, h.cell]⟩

/-- A row that holds something. -/
theorem row_form {w : World} {base : Nat} {e : TypeId} {n : Nat} {v : Value} {xs : List Value} (h : w.ownsRow base e 1 v n xs) (hn : 0 < n) :
    ∃ g cap, v = .slice (some ⟨g, 0, none⟩) n cap ∧ g < w.heap.size ∧ (∀ j, j < n → w.cell? ⟨g, j, none⟩ = xs[j]?) ∧ (∀ j, w.frozen? ⟨g, j, none⟩ = false) ∧ n ≤ cap ∧ n ≤ 9223372036854775807 := by
  have h' := h
  rcases h.2 with ⟨_, h0⟩ | ⟨g, cap, cur, rfl, _, hg, hc, hm, _⟩
  · omega
  · exact ⟨g, cap, rfl, blk_lt hg, fun j hj => h'.cellAt j (by omega), fun j => h'.frozenAt j, hc, by unfold maxLen at hm; omega⟩

theorem wtick_full {base b : Nat} {now : Int} {tv lv : Value} {ts : List Int} {ls : List Bool} (w : World) (hn : now = 18446744073709551615) (h : WS w base b now tv lv ts ls) :
    Calls Try.prog 22 #[.pointer (some ⟨b, 0, none⟩)] w fun e w' => e = .returned (.tuple #[.int .u64 0, .int .i64 6]) ∧ w = w' := by
  obtain ⟨c0, c1, c2, f0, f1, f2⟩ := h.cells
  have hh := Lib.hid h; clear h
  have ht : (now == 18446744073709551615) = true := by simp [hn]
  have hn' := Lib.hid hn; clear hn
  go_enter Try.func22, Try.ntmps22
  go_wp2
  go_ret2
  exact ⟨rfl, rfl⟩

theorem wtick_goes {base b : Nat} {now : Int} {tv lv : Value} {ts : List Int} {ls : List Bool} (w : World) (h0 : 0 ≤ now) (hn : now < 18446744073709551615) (h : WS w base b now tv lv ts ls) :
    Calls Try.prog 22 #[.pointer (some ⟨b, 0, none⟩)] w fun e w' => e = .returned (.tuple #[.int .u64 (now + 1), .int .i64 0]) ∧ WS w' base b (now + 1) tv lv ts ls ∧ Turn (· = b) w w' := by
  obtain ⟨c0, c1, c2, f0, f1, f2⟩ := h.cells
  have hh := Lib.hid h; clear h
  have ht : (now == 18446744073709551615) = false := by simp; omega
  have hw : IntKind.u64.wrap (now + 1) = now + 1 := by simp [IntKind.wrap, IntKind.bits, IntKind.signed]; omega
  have hH := Lib.hid hn; clear hn
  go_enter Try.func22, Try.ntmps22
  go_wp2
  go_ret2
  have hT : Turn (· = b) w (w.setCell ⟨b, 0, none⟩ (.int .u64 (now + 1))) := (Turn.refl (· = b) w).setCell (p := ⟨b, 0, none⟩) rfl _
  refine ⟨rfl, ⟨Joins.block_setCell hh.out.cell _, row_turn hh.out.ht hT (row_ne hh.out.ht hh.out.cell (by decide)), row_turn hh.out.hl hT (row_ne hh.out.hl hh.out.cell (by decide)), hh.out.len⟩, hT⟩

/-- Does a number live? -/
def alive (ls : List Bool) (id : Int) : Bool := decide (1 ≤ id) && (ls[(id - 1).toNat]?).getD false

theorem alive_iff {ls : List Bool} {id : Int} : alive ls id = true ↔ 1 ≤ id ∧ ls[(id - 1).toNat]? = some true := by
  unfold alive
  cases h : ls[(id - 1).toNat]? with
  | none => simp
  | some b => cases b <;> simp

/-- Its time. -/
def timeOf (ts : List Int) (ls : List Bool) (id : Int) : Int := if alive ls id then (ts[(id - 1).toNat]?).getD 0 else 0

set_option maxRecDepth 100000 in
set_option maxHeartbeats 400000 in
theorem wtime_any {base b : Nat} {now : Int} {tv lv : Value} {ts : List Int} {ls : List Bool} (w : World) (h : WS w base b now tv lv ts ls) (id : Int) (hid : (id64 id).wf = true) :
    Calls Try.prog 24 #[.pointer (some ⟨b, 0, none⟩), .int .i64 id] w fun e w' => e = .returned (.tuple #[.int .u64 (timeOf ts ls id), .bool (alive ls id)]) ∧ w = w' := by
  obtain ⟨c0, c1, c2, f0, f1, f2⟩ := h.cells
  have hb := Go.bounds_i64 hid
  by_cases h1 : id < 1
  · have ha : alive ls id = false := by
      cases he : alive ls id with
      | false => rfl
      | true => have := (alive_iff.1 he).1; omega
    have hT : timeOf ts ls id = 0 := by simp [timeOf, ha]
    have HA := Lib.hid ha; clear ha
    have HT := Lib.hid hT; clear hT
    have hh := Lib.hid h; clear h
    go_enter Try.func24, Try.ntmps24
    go_wp2
    go_ret2
    refine ⟨?_, rfl⟩
    rw [HA.out, HT.out]
    rfl
  · by_cases h2 : (ls.length : Int) < id
    · have ha : alive ls id = false := by
        cases he : alive ls id with
        | false => rfl
        | true =>
          have h3 := (alive_iff.1 he).2
          have := (List.getElem?_eq_some_iff.1 h3).1
          omega
      have hT : timeOf ts ls id = 0 := by simp [timeOf, ha]
      have HA := Lib.hid ha; clear ha
      have HT := Lib.hid hT; clear hT
      have hlv : ∃ r c, lv = .slice r ls.length c := by
        rcases h.hl.2 with ⟨e, h0⟩ | ⟨g, cap, cur, e, _⟩
        · exact ⟨none, 0, by rw [h0]; exact e⟩
        · exact ⟨_, _, e⟩
      obtain ⟨r, c, rfl⟩ := hlv
      have hh := Lib.hid h; clear h
      go_enter Try.func24, Try.ntmps24
      go_wp2
      go_ret2
      refine ⟨?_, rfl⟩
      rw [HA.out, HT.out]
      rfl
    · have hkl : (id - 1).toNat < ls.length := by omega
      obtain ⟨gl, cl, rfl, hgl, hcl, hfl, hll, hml⟩ := row_form h.hl (by omega)
      have hlen := h.len
      obtain ⟨gt, ct, rfl, hgt, hct, hft, htl, hmt⟩ := row_form h.ht (by omega)
      have hkt : (id - 1).toNat < ts.length := by omega
      obtain ⟨x, ex⟩ : ∃ x, ls[(id - 1).toNat]? = some x := ⟨_, List.getElem?_eq_getElem hkl⟩
      obtain ⟨y, ey⟩ : ∃ y, ts[(id - 1).toNat]? = some y := ⟨_, List.getElem?_eq_getElem hkt⟩
      have hx : w.cell? ⟨gl, (id - 1).toNat, none⟩ = some (.bool x) := by rw [hcl _ hkl]; unfold bls; rw [List.getElem?_map, ex]; rfl
      have hy : w.cell? ⟨gt, (id - 1).toNat, none⟩ = some (.int .u64 y) := by rw [hct _ hkt]; unfold u64s; rw [List.getElem?_map, ey]; rfl
      have ha : alive ls id = x := by unfold alive; rw [ex]; simp; omega
      have hT : timeOf ts ls id = if x then y else 0 := by unfold timeOf; rw [ha, ey]; rfl
      rw [show (id - 1).toNat = id.toNat - 1 by omega] at hx hy
      clear ex ey
      have b1 : 1 ≤ id := by omega
      have b2 : 0 ≤ id - 1 := by omega
      have b3 : id - 1 < (ls.length : Int) := by omega
      have b4 : id - 1 < (ts.length : Int) := by omega
      have b5 : id ≤ (ls.length : Int) := by omega
      clear h1 h2 hkl hkt
      have HA := Lib.hid ha; clear ha
      have HT := Lib.hid hT; clear hT
      have hh := Lib.hid h; clear h
      have HL := Lib.hid hlen; clear hlen
      clear hcl hct hfl hft
      cases x with
      | true =>
        go_enter Try.func24, Try.ntmps24
        go_wp2
        go_ret2
        refine ⟨?_, rfl⟩
        rw [HA.out, HT.out]
        rfl
      | false =>
        go_enter Try.func24, Try.ntmps24
        go_wp2
        go_ret2
        refine ⟨?_, rfl⟩
        rw [HA.out, HT.out]
        rfl

end Go.Proofs.Ytcdcdnochlapgaa
