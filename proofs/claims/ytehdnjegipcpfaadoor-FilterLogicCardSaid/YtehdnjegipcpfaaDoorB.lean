/-
  Go's ContainsFunc over texts; which names begin with a sign, and whether a value is a list of tests; no condition.
-/
import Derived.Test.YtehdnjegipcpfaaDoorA
import Derived.Test.YtehdnjegipcpfaaDoorPFilterHoldsx1
import Derived.Shelf.Abstract
namespace Go.Proofs.YtehdnjegipcpfaaDoor
open Go.RowKit Go.Proofs.YtehdnjegipcpfaaDoorW.PrintWords Go.Proofs.YtehdnjegipcpfaaDoorW.PrintLast Go.Proofs.YtehdnjegipcpfaaDoorW.PrintMore
open PFilterHolds Go.Shelf

theorem rdOf_getD (xs : List ByteArray) (i : Nat) (h : i < xs.length) : rdOf ByteArray.empty xs (i : Int) = xs[i] := by
  unfold rdOf
  simp [h]

/-- A text of a list of texts. -/
theorem name_of {w : World} {A : Option Addr} {n : Nat} {xs : List ByteArray} (h : Kd.string.C w A n xs) (hn : n = xs.length) (i : Nat) (x : ByteArray) (hx : xs[i]? = some x) :
    ∃ b o, A = some ⟨b, o, none⟩ ∧ b < w.heap.size ∧ w.cell? ⟨b, o + i, none⟩ = some (.string x) := by
  obtain ⟨hi, rfl⟩ := List.getElem?_eq_some_iff.1 hx
  obtain ⟨ad0, e0, k0⟩ := Kd.at_string h (0 : Int) (by omega) (by omega)
  obtain ⟨ad, e, h0⟩ := Kd.at_string h (i : Int) (by omega) (by omega)
  obtain rfl : ad0 = ad := by rw [e0] at e; injection e
  rw [rdOf_getD xs i hi] at h0
  obtain ⟨b, o, s⟩ := ad0
  have hs : s = none := by simpa [Addr.add] using World.cell?_spot k0
  subst hs
  rw [Int.toNat_natCast, Addr.add_lit] at h0
  exact ⟨b, o, e, World.block_lt_of_cell? w _ h0, h0⟩

def PredS (g : Nat) (lb : Array Value) (p : ByteArray → Bool) (w : World) : Prop :=
  ∀ (x : ByteArray) (W : World), Below w.heap.size w W → Calls Tryd.prog g (#[.string x] ++ lb) W fun e w' => e = .returned (.bool (p x)) ∧ Below W.heap.size W w'

def idxS (p : ByteArray → Bool) : List ByteArray → Nat → Int
  | [], _ => -1
  | x :: xs, i => if p x then i else idxS p xs (i + 1)

theorem idxS_any (p : ByteArray → Bool) : ∀ (xs : List ByteArray) (i : Nat), decide (0 ≤ idxS p xs i) = xs.any p
  | [], _ => by simp [idxS]
  | x :: xs, i => by
    unfold idxS
    cases h : p x with
    | true => simp [h]
    | false => simpa [h] using idxS_any p xs (i + 1)

set_option maxHeartbeats 2000000 in
theorem index_str (g : Nat) (lb : Array Value) (p : ByteArray → Bool) (eg : ∀ args w, (callFunc g args).run Tryd.prog w = .ok (.enter g args) w) (A : Option Addr) (c : Nat) (xs : List ByteArray) (w : World) (h : Kd.string.C w A xs.length xs) (hp : PredS g lb p w) (hbig : xs.length ≤ 1000000) :
    Calls Tryd.prog 104 #[.slice A xs.length c, .func (.func g) #[] lb] w fun e w' => e = .returned (.int .i64 (idxS p xs 0)) ∧ Below w.heap.size w w' := by
  have HC := Lib.hid h; clear h
  have HP := Lib.hid hp; clear hp
  go_enter Tryd.func104, Tryd.ntmps104
  go_wp2
  go_loopw [5, 8] (fun v5 v8 wr => ∃ k : Nat, k ≤ xs.length ∧ v8 = .int .i64 k ∧ idxS p xs 0 = idxS p (xs.drop k) k ∧ Below w.heap.size w wr) (fun _ v8 _ => xs.length - (intOf v8).toNat)
  case atStart => exact ⟨0, Nat.zero_le _, rfl, rfl, Below.refl _ _⟩
  case round =>
    obtain ⟨k, hk, rfl, hI, hB⟩ := hrel
    have HI := Lib.hid hI; clear hI
    have HB := Lib.hid hB; clear hB
    by_cases hlt : k < xs.length
    · have hki : (k : Int) < (xs.length : Int) := by omega
      obtain ⟨x, hx⟩ : ∃ x, xs[k]? = some x := ⟨_, List.getElem?_eq_getElem hlt⟩
      obtain ⟨b, o, rfl, hb, e0⟩ := name_of HC.out rfl k x hx
      have hcall := HP.out x wr HB.out
      replace e0 := (HB.out.cell (World.block_lt_of_cell? w _ e0)).trans e0
      have hd : xs.drop k = x :: xs.drop (k + 1) := by
        obtain ⟨hi, rfl⟩ := List.getElem?_eq_some_iff.1 hx
        exact List.drop_eq_getElem_cons hi
      have HD := Lib.hid hd; clear hd
      clear hx
      cases hq : p x with
      | true =>
        rw [hq] at hcall
        have HQ := Lib.hid hq; clear hq
        go_wp2
        refine hcall.mono ?_; rintro e w' ⟨rfl, hb'⟩
        have HB' := Lib.hid hb'; clear hb'
        go_wp2
        go_ret
        refine ⟨?_, HB.out.trans (HB'.out.mono HB.out.size)⟩
        rw [HI.out, HD.out]
        unfold idxS
        rw [HQ.out, if_pos rfl]
        rfl
      | false =>
        rw [hq] at hcall
        have HQ := Lib.hid hq; clear hq
        go_wp2
        refine hcall.mono ?_; rintro e w' ⟨rfl, hb'⟩
        have HB' := Lib.hid hb'; clear hb'
        go_wp2
        go_roundw
        case rel =>
          refine ⟨k + 1, by omega, by go_num, ?_, HB.out.trans (HB'.out.mono HB.out.size)⟩
          rw [HI.out, HD.out]
          conv => lhs; unfold idxS
          rw [HQ.out]
          rfl
        case measure => simp [intOf]; omega
    · obtain rfl : k = xs.length := by omega
      go_wp2
      go_ret
      refine ⟨?_, HB.out⟩
      rw [HI.out, List.drop_length]
      rfl

theorem contains_str (g : Nat) (lb : Array Value) (p : ByteArray → Bool) (eg : ∀ args w, (callFunc g args).run Tryd.prog w = .ok (.enter g args) w) (A : Option Addr) (c : Nat) (xs : List ByteArray) (w : World) (h : Kd.string.C w A xs.length xs) (hp : PredS g lb p w) (hbig : xs.length ≤ 1000000) :
    Calls Tryd.prog 67 #[.slice A xs.length c, .func (.func g) #[] lb] w fun e w' => e = .returned (.bool (xs.any p)) ∧ Below w.heap.size w w' := by
  have hI := index_str g lb p eg A c xs w h hp hbig
  rw [← idxS_any p xs 0]
  generalize idxS p xs 0 = i at hI
  clear h hp
  go_enter Tryd.func67, Tryd.ntmps67
  go_wp2_with fail
  refine hI.mono ?_; rintro e w' ⟨rfl, hb⟩
  go_wp2
  go_ret
  exact ⟨by simp, hb⟩

/-- Does a name begin with the sign? -/
def sgn (s : ByteArray) : Bool := decide (1 ≤ s.size) && (s.extract 0 1).toList == (⟨#[36]⟩ : ByteArray).toList

theorem prefix_sgn (s : ByteArray) : strings_HasPrefix.f s ⟨#[36]⟩ = some (sgn s) := by
  unfold strings_HasPrefix.f stringslite_HasPrefix.f sgn
  by_cases h : 1 ≤ s.size
  · have h1 : (s.size : Int) ≥ ((⟨#[36]⟩ : ByteArray).size : Int) := by show (s.size : Int) ≥ 1; omega
    rw [if_pos h1, if_pos (by decide), if_pos (by show (1 : Int) ≤ s.size; omega)]
    simp only [Option.bind_some, decide_eq_true h, Bool.true_and]
    rfl
  · have h1 : ¬ (s.size : Int) ≥ ((⟨#[36]⟩ : ByteArray).size : Int) := by show ¬ (s.size : Int) ≥ 1; omega
    rw [if_neg h1]
    simp [h]

theorem drawn_below {w w' : World} (h : Drawn0 w w') : Below w.heap.size w w' := by
  obtain ⟨n, rfl⟩ := h
  exact pw_below_drewN (Below.refl _ _) n

theorem prefix_any (s : ByteArray) (w : World) : Calls Tryd.prog 87 #[.string s, .string ⟨#[36]⟩] w fun e w' => e = .returned (.bool (sgn s)) ∧ Below w.heap.size w w' :=
  (strings_HasPrefix.calls s ⟨#[36]⟩ (sgn s) w (prefix_sgn s)).mono fun _ _ ⟨he, hd⟩ => ⟨he, drawn_below hd⟩

theorem tests1_any (s : ByteArray) (w : World) : Calls Tryd.prog 123 #[.string s] w fun e w' => e = .returned (.bool (sgn s)) ∧ Below w.heap.size w w' := by
  have hX := prefix_any s w
  generalize sgn s = r at hX
  go_enter Tryd.func123, Tryd.ntmps123
  go_wp2_with fail
  refine hX.mono ?_; rintro e w' ⟨rfl, hb⟩
  go_wp2
  go_ret
  exact ⟨rfl, hb⟩

/-- Is a value a list of tests? -/
def testsJ (x : S25) : Bool := x.f0 == 6 && x.f3.any sgn

theorem tests_any (x : S25) (A3 : Option Addr) (c3 : Nat) (A4 : Option Addr) (c4 : Nat) (w : World) (h : Rd w A3 c3 A4 c4 x) (hbig : x.f3.length ≤ 1000000) :
    Calls Tryd.prog 78 #[av x A3 c3 A4 c4] w fun e w' => e = .returned (.bool (testsJ x)) ∧ Below w.heap.size w w' := by
  obtain ⟨x0, x1, x2, x3, x4⟩ := x
  unfold testsJ
  have hb0 : Below w.heap.size w (w.alloc (.cells #[.int .i64 x0, .int .i64 x1, .string x2, .slice A3 x3.length c3, .slice A4 x4.length c4] 25)) := (Below.refl _ w).alloc (Nat.le_refl _) _
  have hX := fun w' (hb : Below w.heap.size w w') => contains_str 123 #[] sgn (enters_of Tryd.func123 (by kernel_rfl) rfl) A3 c3 x3 w' (Kd.C_below h.g3 hb) (fun s W _ => by simpa using tests1_any s W) hbig
  generalize x3.any sgn = r at hX
  cases hk : x0 == 6 with
  | false =>
    go_enter Tryd.func78, Tryd.ntmps78
    go_wp2
    go_ret
    exact ⟨by simp, hb0⟩
  | true =>
    have hY := hX _ hb0
    go_enter Tryd.func78, Tryd.ntmps78
    go_wp2_with (fail)
    refine hY.mono ?_; rintro e w' ⟨rfl, hb⟩
    have HB := Lib.hid hb; clear hb
    go_wp2
    go_ret
    exact ⟨by simp, hb0.trans (HB.out.mono hb0.size)⟩

end Go.Proofs.YtehdnjegipcpfaaDoor
