/-
  How a document's value (type 25) is read, and Go's ContainsFunc over a list of such values; no condition.
-/
import Derived.Test.YtehdnjegipcpfaaDoorPFilterHoldsx0
import Derived.Lib.Hide
namespace Go.Proofs.YtehdnjegipcpfaaDoor
open Go.RowKit Go.Proofs.YtehdnjegipcpfaaDoorW.PrintWords Go.Proofs.YtehdnjegipcpfaaDoorW.PrintLast Go.Proofs.YtehdnjegipcpfaaDoorW.PrintMore
open PFilterHolds

/-- A value, its names and its items read in a world. -/
structure Rd (w : World) (A3 : Option Addr) (c3 : Nat) (A4 : Option Addr) (c4 : Nat) (x : S25) : Prop where
  l3 : x.f3.length ≤ c3
  g3 : Kd.string.C w A3 x.f3.length x.f3
  l4 : x.f4.length ≤ c4
  g4 : k25.C w A4 x.f4.length x.f4

abbrev av (x : S25) (A3 : Option Addr) (c3 : Nat) (A4 : Option Addr) (c4 : Nat) : Value := .agg #[.int .i64 x.f0, .int .i64 x.f1, .string x.f2, .slice A3 x.f3.length c3, .slice A4 x.f4.length c4]

theorem Rd.below {w w' : World} {A3 : Option Addr} {c3 : Nat} {A4 : Option Addr} {c4 : Nat} {x : S25} (h : Rd w A3 c3 A4 c4 x) (hb : Below w.heap.size w w') : Rd w' A3 c3 A4 c4 x :=
  ⟨h.l3, Kd.C_below h.g3 hb, h.l4, Kd.C_below h.g4 hb⟩

theorem rd_getD (xs : List S25) (i : Nat) (h : i < xs.length) : rd_T25 xs (i : Int) = xs[i] := by
  unfold rd_T25
  simp [h]

/-- An item of a list of values. -/
theorem item_of {w : World} {A : Option Addr} {n : Nat} {xs : List S25} (h : Kd.C k25 w A n xs) (hn : n = xs.length) (i : Nat) (x : S25) (hx : xs[i]? = some x) :
    ∃ b o A3 c3 A4 c4, A = some ⟨b, o, none⟩ ∧ b < w.heap.size ∧ w.cell? ⟨b, o + i * 5, none⟩ = some (.int .i64 x.f0) ∧ w.cell? ⟨b, o + i * 5 + 1, none⟩ = some (.int .i64 x.f1) ∧ w.cell? ⟨b, o + i * 5 + 2, none⟩ = some (.string x.f2) ∧ w.cell? ⟨b, o + i * 5 + 3, none⟩ = some (.slice A3 x.f3.length c3) ∧ w.cell? ⟨b, o + i * 5 + 4, none⟩ = some (.slice A4 x.f4.length c4) ∧ Rd w A3 c3 A4 c4 x := by
  obtain ⟨hi, rfl⟩ := List.getElem?_eq_some_iff.1 hx
  obtain ⟨ad0, _, _, _, _, e0, k0, _⟩ := at_T25 h (0 : Int) (by omega) (by omega)
  obtain ⟨ad, A3, c3, A4, c4, e, h0, h1, h2, h3, h4, l3, g3, l4, g4⟩ := at_T25 h (i : Int) (by omega) (by omega)
  obtain rfl : ad0 = ad := by rw [e0] at e; injection e
  rw [rd_getD xs i hi] at h0 h1 h2 h3 h4 l3 g3 l4 g4
  obtain ⟨b, o, s⟩ := ad0
  have hs : s = none := by simpa [Addr.add] using World.cell?_spot k0
  subst hs
  rw [Int.toNat_natCast, Addr.add_lit] at h0 h1 h2 h3 h4
  exact ⟨b, o, A3, c3, A4, c4, e, World.block_lt_of_cell? w _ h1, h0, h1, h2, h3, h4, ⟨l3, g3, l4, g4⟩⟩

/-- A function that tells something of each value of a list. -/
def PredOn (g : Nat) (lb : Array Value) (p : S25 → Bool) (xs : List S25) (w : World) : Prop :=
  ∀ x ∈ xs, ∀ (W : World) (A3 : Option Addr) (c3 : Nat) (A4 : Option Addr) (c4 : Nat), Below w.heap.size w W → Rd W A3 c3 A4 c4 x →
    Calls Tryd.prog g (#[av x A3 c3 A4 c4] ++ lb) W fun e w' => e = .returned (.bool (p x)) ∧ Below W.heap.size W w'

/-- The first place at which it holds; -1: none. -/
def idxJ (p : S25 → Bool) : List S25 → Nat → Int
  | [], _ => -1
  | x :: xs, i => if p x then i else idxJ p xs (i + 1)

theorem idxJ_any (p : S25 → Bool) : ∀ (xs : List S25) (i : Nat), decide (0 ≤ idxJ p xs i) = xs.any p
  | [], _ => by simp [idxJ]
  | x :: xs, i => by
    unfold idxJ
    cases h : p x with
    | true => simp [h]
    | false => simpa [h] using idxJ_any p xs (i + 1)

set_option maxHeartbeats 2000000 in
theorem index_any (g : Nat) (lb : Array Value) (p : S25 → Bool) (eg : ∀ args w, (callFunc g args).run Tryd.prog w = .ok (.enter g args) w) (A : Option Addr) (c : Nat) (xs : List S25) (w : World) (h : Kd.C k25 w A xs.length xs) (hp : PredOn g lb p xs w) (hbig : xs.length ≤ 1000000) :
    Calls Tryd.prog 86 #[.slice A xs.length c, .func (.func g) #[] lb] w fun e w' => e = .returned (.int .i64 (idxJ p xs 0)) ∧ Below w.heap.size w w' := by
  have HC := Lib.hid h; clear h
  have HP := Lib.hid hp; clear hp
  go_enter Tryd.func86, Tryd.ntmps86
  go_wp2
  go_loopw [5, 8] (fun v5 v8 wr => ∃ k : Nat, k ≤ xs.length ∧ v8 = .int .i64 k ∧ idxJ p xs 0 = idxJ p (xs.drop k) k ∧ Below w.heap.size w wr) (fun _ v8 _ => xs.length - (intOf v8).toNat)
  case atStart => exact ⟨0, Nat.zero_le _, rfl, rfl, Below.refl _ _⟩
  case round =>
    obtain ⟨k, hk, rfl, hI, hB⟩ := hrel
    have HI := Lib.hid hI; clear hI
    have HB := Lib.hid hB; clear hB
    by_cases hlt : k < xs.length
    · have hki : (k : Int) < (xs.length : Int) := by omega
      obtain ⟨x, hx⟩ : ∃ x, xs[k]? = some x := ⟨_, List.getElem?_eq_getElem hlt⟩
      obtain ⟨b, o, A3, c3, A4, c4, rfl, hb, e0, e1, e2, e3, e4, hR⟩ := item_of HC.out rfl k x hx
      have hcall := HP.out x (List.mem_of_getElem? hx) wr A3 c3 A4 c4 HB.out (hR.below HB.out)
      replace e0 := (HB.out.cell (World.block_lt_of_cell? w _ e0)).trans e0
      replace e1 := (HB.out.cell (World.block_lt_of_cell? w _ e1)).trans e1
      replace e2 := (HB.out.cell (World.block_lt_of_cell? w _ e2)).trans e2
      replace e3 := (HB.out.cell (World.block_lt_of_cell? w _ e3)).trans e3
      replace e4 := (HB.out.cell (World.block_lt_of_cell? w _ e4)).trans e4
      have hd : xs.drop k = x :: xs.drop (k + 1) := by
        obtain ⟨hi, rfl⟩ := List.getElem?_eq_some_iff.1 hx
        exact List.drop_eq_getElem_cons hi
      have HD := Lib.hid hd; clear hd
      clear hx hR
      obtain ⟨x0, x1, x2, x3, x4⟩ := x
      cases hq : p ⟨x0, x1, x2, x3, x4⟩ with
      | true =>
        rw [hq] at hcall
        have HQ := Lib.hid hq; clear hq
        go_wp2
        refine hcall.mono ?_; rintro e w' ⟨rfl, hb'⟩
        have HB' := Lib.hid hb'; clear hb'
        go_wp2
        go_ret
        refine ⟨?_, HB.out.trans (HB'.out.mono HB.out.size)⟩
        rw [HI.out, HD.out]
        unfold idxJ
        rw [HQ.out, if_pos rfl]
        rfl
      | false =>
        rw [hq] at hcall
        have HQ := Lib.hid hq; clear hq
        go_wp2
        refine hcall.mono ?_; rintro e w' ⟨rfl, hb'⟩
        have HB' := Lib.hid hb'; clear hb'
        go_wp2
        go_roundw
        case rel =>
          refine ⟨k + 1, by omega, by go_num, ?_, HB.out.trans (HB'.out.mono HB.out.size)⟩
          rw [HI.out, HD.out]
          conv => lhs; unfold idxJ
          rw [HQ.out]
          rfl
        case measure => simp [intOf]; omega
    · obtain rfl : k = xs.length := by omega
      go_wp2
      go_ret
      refine ⟨?_, HB.out⟩
      rw [HI.out, List.drop_length]
      rfl

theorem contains_any (g : Nat) (lb : Array Value) (p : S25 → Bool) (eg : ∀ args w, (callFunc g args).run Tryd.prog w = .ok (.enter g args) w) (A : Option Addr) (c : Nat) (xs : List S25) (w : World) (h : Kd.C k25 w A xs.length xs) (hp : PredOn g lb p xs w) (hbig : xs.length ≤ 1000000) :
    Calls Tryd.prog 57 #[.slice A xs.length c, .func (.func g) #[] lb] w fun e w' => e = .returned (.bool (xs.any p)) ∧ Below w.heap.size w w' := by
  have hI := index_any g lb p eg A c xs w h hp hbig
  rw [← idxJ_any p xs 0]
  generalize idxJ p xs 0 = i at hI
  clear h hp
  go_enter Tryd.func57, Tryd.ntmps57
  go_wp2_with fail
  refine hI.mono ?_; rintro e w' ⟨rfl, hb⟩
  go_wp2
  go_ret
  exact ⟨by simp, hb⟩

end Go.Proofs.YtehdnjegipcpfaaDoor
