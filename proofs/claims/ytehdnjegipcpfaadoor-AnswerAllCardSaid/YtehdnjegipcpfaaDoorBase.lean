/-
  How a document's value (type 25) is read, and Go's ContainsFunc over a list of such values; no condition. Go's ContainsFunc over texts; which names begin with a sign, and whether a value is a list of tests; no condition. Which texts and which values are formed: the contracts of json.text and json.formed, under utf8's tables. The contract of json.formed and of json.Formed, under utf8's tables. The contract of json.Same at a formed value; no other condition.
-/
import Derived.Test.YtehdnjegipcpfaaDoorPFilterHoldsx0
import Derived.Test.YtehdnjegipcpfaaDoorPFilterHoldsx1
import Derived.Test.YtehdnjegipcpfaaDoorShelf
import Derived.Lib.Hide
import Derived.Shelf.Abstract
import Derived.Deep.RegionHeld3
import Derived.Deep.RegionWith
import Derived.Lib.SmallJoins
import Derived.WalkSpells
import Derived.Deep.DeepCutAuto
import Derived.Laws.Cover1
namespace Go.Proofs.YtehdnjegipcpfaaDoor
open Go.RowKit Go.Proofs.YtehdnjegipcpfaaDoorW.PrintWords Go.Proofs.YtehdnjegipcpfaaDoorW.PrintLast Go.Proofs.YtehdnjegipcpfaaDoorW.PrintMore
open PFilterHolds
structure Rd (w : World) (A3 : Option Addr) (c3 : Nat) (A4 : Option Addr) (c4 : Nat) (x : S25) : Prop where
  l3 : x.f3.length ≤ c3
  g3 : Kd.string.C w A3 x.f3.length x.f3
  l4 : x.f4.length ≤ c4
  g4 : k25.C w A4 x.f4.length x.f4
abbrev av (x : S25) (A3 : Option Addr) (c3 : Nat) (A4 : Option Addr) (c4 : Nat) : Value := .agg #[.int .i64 x.f0, .int .i64 x.f1, .string x.f2, .slice A3 x.f3.length c3, .slice A4 x.f4.length c4]
theorem Rd.below {w w' : World} {A3 : Option Addr} {c3 : Nat} {A4 : Option Addr} {c4 : Nat} {x : S25} (h : Rd w A3 c3 A4 c4 x) (hb : Below w.heap.size w w') : Rd w' A3 c3 A4 c4 x :=
  ⟨h.l3, Kd.C_below h.g3 hb, h.l4, Kd.C_below h.g4 hb⟩
theorem rd_getD (xs : List S25) (i : Nat) (h : i < xs.length) : rd_T25 xs (i : Int) = xs[i] := by
  unfold rd_T25
  simp [h]
theorem item_of {w : World} {A : Option Addr} {n : Nat} {xs : List S25} (h : Kd.C k25 w A n xs) (hn : n = xs.length) (i : Nat) (x : S25) (hx : xs[i]? = some x) :
    ∃ b o A3 c3 A4 c4, A = some ⟨b, o, none⟩ ∧ b < w.heap.size ∧ w.cell? ⟨b, o + i * 5, none⟩ = some (.int .i64 x.f0) ∧ w.cell? ⟨b, o + i * 5 + 1, none⟩ = some (.int .i64 x.f1) ∧ w.cell? ⟨b, o + i * 5 + 2, none⟩ = some (.string x.f2) ∧ w.cell? ⟨b, o + i * 5 + 3, none⟩ = some (.slice A3 x.f3.length c3) ∧ w.cell? ⟨b, o + i * 5 + 4, none⟩ = some (.slice A4 x.f4.length c4) ∧ Rd w A3 c3 A4 c4 x := by
  obtain ⟨hi, rfl⟩ := List.getElem?_eq_some_iff.1 hx
  obtain ⟨ad0, _, _, _, _, e0, k0, _⟩ := at_T25 h (0 : Int) (by omega) (by omega)
  obtain ⟨ad, A3, c3, A4, c4, e, h0, h1, h2, h3, h4, l3, g3, l4, g4⟩ := at_T25 h (i : Int) (by omega) (by omega)
  obtain rfl : ad0 = ad := by rw [e0] at e; injection e
  rw [rd_getD xs i hi] at h0 h1 h2 h3 h4 l3 g3 l4 g4
  obtain ⟨b, o, s⟩ := ad0
  have hs : s = none := by simpa [Addr.add] using World.cell?_spot k0
  subst hs
  rw [Int.toNat_natCast, Addr.add_lit] at h0 h1 h2 h3 h4
  exact ⟨b, o, A3, c3, A4, c4, e, World.block_lt_of_cell? w _ h1, h0, h1, h2, h3, h4, ⟨l3, g3, l4, g4⟩⟩
def PredOn (g : Nat) (lb : Array Value) (p : S25 → Bool) (xs : List S25) (w : World) : Prop :=
  ∀ x ∈ xs, ∀ (W : World) (A3 : Option Addr) (c3 : Nat) (A4 : Option Addr) (c4 : Nat), Below w.heap.size w W → Rd W A3 c3 A4 c4 x →
    Calls Tryd.prog g (#[av x A3 c3 A4 c4] ++ lb) W fun e w' => e = .returned (.bool (p x)) ∧ Below W.heap.size W w'
def idxJ (p : S25 → Bool) : List S25 → Nat → Int
  | [], _ => -1
  | x :: xs, i => if p x then i else idxJ p xs (i + 1)
theorem idxJ_any (p : S25 → Bool) : ∀ (xs : List S25) (i : Nat), decide (0 ≤ idxJ p xs i) = xs.any p
  | [], _ => by simp [idxJ]
  | x :: xs, i => by
    unfold idxJ
    cases h : p x with
    | true => simp [h]
    | false => simpa [h] using idxJ_any p xs (i + 1)
set_option maxHeartbeats 2000000 in
theorem index_any (g : Nat) (lb : Array Value) (p : S25 → Bool) (eg : ∀ args w, (callFunc g args).run Tryd.prog w = .ok (.enter g args) w) (A : Option Addr) (c : Nat) (xs : List S25) (w : World) (h : Kd.C k25 w A xs.length xs) (hp : PredOn g lb p xs w) (hbig : xs.length ≤ 1000000) :
    Calls Tryd.prog 86 #[.slice A xs.length c, .func (.func g) #[] lb] w fun e w' => e = .returned (.int .i64 (idxJ p xs 0)) ∧ Below w.heap.size w w' := by
  have HC := Lib.hid h; clear h
  have HP := Lib.hid hp; clear hp
  go_enter Tryd.func86, Tryd.ntmps86
  go_wp2
  go_loopw [5, 8] (fun v5 v8 wr => ∃ k : Nat, k ≤ xs.length ∧ v8 = .int .i64 k ∧ idxJ p xs 0 = idxJ p (xs.drop k) k ∧ Below w.heap.size w wr) (fun _ v8 _ => xs.length - (intOf v8).toNat)
  case atStart => exact ⟨0, Nat.zero_le _, rfl, rfl, Below.refl _ _⟩
  case round =>
    obtain ⟨k, hk, rfl, hI, hB⟩ := hrel
    have HI := Lib.hid hI; clear hI
    have HB := Lib.hid hB; clear hB
    by_cases hlt : k < xs.length
    · have hki : (k : Int) < (xs.length : Int) := by omega
      obtain ⟨x, hx⟩ : ∃ x, xs[k]? = some x := ⟨_, List.getElem?_eq_getElem hlt⟩
      obtain ⟨b, o, A3, c3, A4, c4, rfl, hb, e0, e1, e2, e3, e4, hR⟩ := item_of HC.out rfl k x hx
      have hcall := HP.out x (List.mem_of_getElem? hx) wr A3 c3 A4 c4 HB.out (hR.below HB.out)
      replace e0 := (HB.out.cell (World.block_lt_of_cell? w _ e0)).trans e0
      replace e1 := (HB.out.cell (World.block_lt_of_cell? w _ e1)).trans e1
      replace e2 := (HB.out.cell (World.block_lt_of_cell? w _ e2)).trans e2
      replace e3 := (HB.out.cell (World.block_lt_of_cell? w _ e3)).trans e3
      replace e4 := (HB.out.cell (World.block_lt_of_cell? w _ e4)).trans e4
      have hd : xs.drop k = x :: xs.drop (k + 1) := by
        obtain ⟨hi, rfl⟩ := List.getElem?_eq_some_iff.1 hx
        exact List.drop_eq_getElem_cons hi
      have HD := Lib.hid hd; clear hd
      clear hx hR
      obtain ⟨x0, x1, x2, x3, x4⟩ := x
      cases hq : p ⟨x0, x1, x2, x3, x4⟩ with
      | true =>
        rw [hq] at hcall
        have HQ := Lib.hid hq; clear hq
        go_wp2
        refine hcall.mono ?_; rintro e w' ⟨rfl, hb'⟩
        have HB' := Lib.hid hb'; clear hb'
        go_wp2
        go_ret
        refine ⟨?_, HB.out.trans (HB'.out.mono HB.out.size)⟩
        rw [HI.out, HD.out]
        unfold idxJ
        rw [HQ.out, if_pos rfl]
        rfl
      | false =>
        rw [hq] at hcall
        have HQ := Lib.hid hq; clear hq
        go_wp2
        refine hcall.mono ?_; rintro e w' ⟨rfl, hb'⟩
        have HB' := Lib.hid hb'; clear hb'
        go_wp2
        go_roundw
        case rel =>
          refine ⟨k + 1, by omega, by go_num, ?_, HB.out.trans (HB'.out.mono HB.out.size)⟩
          rw [HI.out, HD.out]
          conv => lhs; unfold idxJ
          rw [HQ.out]
          rfl
        case measure => simp [intOf]; omega
    · obtain rfl : k = xs.length := by omega
      go_wp2
      go_ret
      refine ⟨?_, HB.out⟩
      rw [HI.out, List.drop_length]
      rfl
theorem contains_any (g : Nat) (lb : Array Value) (p : S25 → Bool) (eg : ∀ args w, (callFunc g args).run Tryd.prog w = .ok (.enter g args) w) (A : Option Addr) (c : Nat) (xs : List S25) (w : World) (h : Kd.C k25 w A xs.length xs) (hp : PredOn g lb p xs w) (hbig : xs.length ≤ 1000000) :
    Calls Tryd.prog 57 #[.slice A xs.length c, .func (.func g) #[] lb] w fun e w' => e = .returned (.bool (xs.any p)) ∧ Below w.heap.size w w' := by
  have hI := index_any g lb p eg A c xs w h hp hbig
  rw [← idxJ_any p xs 0]
  generalize idxJ p xs 0 = i at hI
  clear h hp
  go_enter Tryd.func57, Tryd.ntmps57
  go_wp2_with fail
  refine hI.mono ?_; rintro e w' ⟨rfl, hb⟩
  go_wp2
  go_ret
  exact ⟨by simp, hb⟩
end Go.Proofs.YtehdnjegipcpfaaDoor
namespace Go.Proofs.YtehdnjegipcpfaaDoor
open Go.RowKit Go.Proofs.YtehdnjegipcpfaaDoorW.PrintWords Go.Proofs.YtehdnjegipcpfaaDoorW.PrintLast Go.Proofs.YtehdnjegipcpfaaDoorW.PrintMore
open PFilterHolds Go.Shelf
theorem rdOf_getD (xs : List ByteArray) (i : Nat) (h : i < xs.length) : rdOf ByteArray.empty xs (i : Int) = xs[i] := by
  unfold rdOf
  simp [h]
theorem name_of {w : World} {A : Option Addr} {n : Nat} {xs : List ByteArray} (h : Kd.string.C w A n xs) (hn : n = xs.length) (i : Nat) (x : ByteArray) (hx : xs[i]? = some x) :
    ∃ b o, A = some ⟨b, o, none⟩ ∧ b < w.heap.size ∧ w.cell? ⟨b, o + i, none⟩ = some (.string x) := by
  obtain ⟨hi, rfl⟩ := List.getElem?_eq_some_iff.1 hx
  obtain ⟨ad0, e0, k0⟩ := Kd.at_string h (0 : Int) (by omega) (by omega)
  obtain ⟨ad, e, h0⟩ := Kd.at_string h (i : Int) (by omega) (by omega)
  obtain rfl : ad0 = ad := by rw [e0] at e; injection e
  rw [rdOf_getD xs i hi] at h0
  obtain ⟨b, o, s⟩ := ad0
  have hs : s = none := by simpa [Addr.add] using World.cell?_spot k0
  subst hs
  rw [Int.toNat_natCast, Addr.add_lit] at h0
  exact ⟨b, o, e, World.block_lt_of_cell? w _ h0, h0⟩
def PredS (g : Nat) (lb : Array Value) (p : ByteArray → Bool) (w : World) : Prop :=
  ∀ (x : ByteArray) (W : World), Below w.heap.size w W → Calls Tryd.prog g (#[.string x] ++ lb) W fun e w' => e = .returned (.bool (p x)) ∧ Below W.heap.size W w'
def idxS (p : ByteArray → Bool) : List ByteArray → Nat → Int
  | [], _ => -1
  | x :: xs, i => if p x then i else idxS p xs (i + 1)
theorem idxS_any (p : ByteArray → Bool) : ∀ (xs : List ByteArray) (i : Nat), decide (0 ≤ idxS p xs i) = xs.any p
  | [], _ => by simp [idxS]
  | x :: xs, i => by
    unfold idxS
    cases h : p x with
    | true => simp [h]
    | false => simpa [h] using idxS_any p xs (i + 1)
set_option maxHeartbeats 2000000 in
theorem index_str (g : Nat) (lb : Array Value) (p : ByteArray → Bool) (eg : ∀ args w, (callFunc g args).run Tryd.prog w = .ok (.enter g args) w) (A : Option Addr) (c : Nat) (xs : List ByteArray) (w : World) (h : Kd.string.C w A xs.length xs) (hp : PredS g lb p w) (hbig : xs.length ≤ 1000000) :
    Calls Tryd.prog 104 #[.slice A xs.length c, .func (.func g) #[] lb] w fun e w' => e = .returned (.int .i64 (idxS p xs 0)) ∧ Below w.heap.size w w' := by
  have HC := Lib.hid h; clear h
  have HP := Lib.hid hp; clear hp
  go_enter Tryd.func104, Tryd.ntmps104
  go_wp2
  go_loopw [5, 8] (fun v5 v8 wr => ∃ k : Nat, k ≤ xs.length ∧ v8 = .int .i64 k ∧ idxS p xs 0 = idxS p (xs.drop k) k ∧ Below w.heap.size w wr) (fun _ v8 _ => xs.length - (intOf v8).toNat)
  case atStart => exact ⟨0, Nat.zero_le _, rfl, rfl, Below.refl _ _⟩
  case round =>
    obtain ⟨k, hk, rfl, hI, hB⟩ := hrel
    have HI := Lib.hid hI; clear hI
    have HB := Lib.hid hB; clear hB
    by_cases hlt : k < xs.length
    · have hki : (k : Int) < (xs.length : Int) := by omega
      obtain ⟨x, hx⟩ : ∃ x, xs[k]? = some x := ⟨_, List.getElem?_eq_getElem hlt⟩
      obtain ⟨b, o, rfl, hb, e0⟩ := name_of HC.out rfl k x hx
      have hcall := HP.out x wr HB.out
      replace e0 := (HB.out.cell (World.block_lt_of_cell? w _ e0)).trans e0
      have hd : xs.drop k = x :: xs.drop (k + 1) := by
        obtain ⟨hi, rfl⟩ := List.getElem?_eq_some_iff.1 hx
        exact List.drop_eq_getElem_cons hi
      have HD := Lib.hid hd; clear hd
      clear hx
      cases hq : p x with
      | true =>
        rw [hq] at hcall
        have HQ := Lib.hid hq; clear hq
        go_wp2
        refine hcall.mono ?_; rintro e w' ⟨rfl, hb'⟩
        have HB' := Lib.hid hb'; clear hb'
        go_wp2
        go_ret
        refine ⟨?_, HB.out.trans (HB'.out.mono HB.out.size)⟩
        rw [HI.out, HD.out]
        unfold idxS
        rw [HQ.out, if_pos rfl]
        rfl
      | false =>
        rw [hq] at hcall
        have HQ := Lib.hid hq; clear hq
        go_wp2
        refine hcall.mono ?_; rintro e w' ⟨rfl, hb'⟩
        have HB' := Lib.hid hb'; clear hb'
        go_wp2
        go_roundw
        case rel =>
          refine ⟨k + 1, by omega, by go_num, ?_, HB.out.trans (HB'.out.mono HB.out.size)⟩
          rw [HI.out, HD.out]
          conv => lhs; unfold idxS
          rw [HQ.out]
          rfl
        case measure => simp [intOf]; omega
    · obtain rfl : k = xs.length := by omega
      go_wp2
      go_ret
      refine ⟨?_, HB.out⟩
      rw [HI.out, List.drop_length]
      rfl
theorem contains_str (g : Nat) (lb : Array Value) (p : ByteArray → Bool) (eg : ∀ args w, (callFunc g args).run Tryd.prog w = .ok (.enter g args) w) (A : Option Addr) (c : Nat) (xs : List ByteArray) (w : World) (h : Kd.string.C w A xs.length xs) (hp : PredS g lb p w) (hbig : xs.length ≤ 1000000) :
    Calls Tryd.prog 67 #[.slice A xs.length c, .func (.func g) #[] lb] w fun e w' => e = .returned (.bool (xs.any p)) ∧ Below w.heap.size w w' := by
  have hI := index_str g lb p eg A c xs w h hp hbig
  rw [← idxS_any p xs 0]
  generalize idxS p xs 0 = i at hI
  clear h hp
  go_enter Tryd.func67, Tryd.ntmps67
  go_wp2_with fail
  refine hI.mono ?_; rintro e w' ⟨rfl, hb⟩
  go_wp2
  go_ret
  exact ⟨by simp, hb⟩
def sgn (s : ByteArray) : Bool := decide (1 ≤ s.size) && (s.extract 0 1).toList == (⟨#[36]⟩ : ByteArray).toList
theorem prefix_sgn (s : ByteArray) : strings_HasPrefix.f s ⟨#[36]⟩ = some (sgn s) := by
  unfold strings_HasPrefix.f stringslite_HasPrefix.f sgn
  by_cases h : 1 ≤ s.size
  · have h1 : (s.size : Int) ≥ ((⟨#[36]⟩ : ByteArray).size : Int) := by show (s.size : Int) ≥ 1; omega
    rw [if_pos h1, if_pos (by decide), if_pos (by show (1 : Int) ≤ s.size; omega)]
    simp only [Option.bind_some, decide_eq_true h, Bool.true_and]
    rfl
  · have h1 : ¬ (s.size : Int) ≥ ((⟨#[36]⟩ : ByteArray).size : Int) := by show ¬ (s.size : Int) ≥ 1; omega
    rw [if_neg h1]
    simp [h]
theorem drawn_below {w w' : World} (h : Drawn0 w w') : Below w.heap.size w w' := by
  obtain ⟨n, rfl⟩ := h
  exact pw_below_drewN (Below.refl _ _) n
theorem prefix_any (s : ByteArray) (w : World) : Calls Tryd.prog 87 #[.string s, .string ⟨#[36]⟩] w fun e w' => e = .returned (.bool (sgn s)) ∧ Below w.heap.size w w' :=
  (strings_HasPrefix.calls s ⟨#[36]⟩ (sgn s) w (prefix_sgn s)).mono fun _ _ ⟨he, hd⟩ => ⟨he, drawn_below hd⟩
theorem tests1_any (s : ByteArray) (w : World) : Calls Tryd.prog 123 #[.string s] w fun e w' => e = .returned (.bool (sgn s)) ∧ Below w.heap.size w w' := by
  have hX := prefix_any s w
  generalize sgn s = r at hX
  go_enter Tryd.func123, Tryd.ntmps123
  go_wp2_with fail
  refine hX.mono ?_; rintro e w' ⟨rfl, hb⟩
  go_wp2
  go_ret
  exact ⟨rfl, hb⟩
def testsJ (x : S25) : Bool := x.f0 == 6 && x.f3.any sgn
theorem tests_any (x : S25) (A3 : Option Addr) (c3 : Nat) (A4 : Option Addr) (c4 : Nat) (w : World) (h : Rd w A3 c3 A4 c4 x) (hbig : x.f3.length ≤ 1000000) :
    Calls Tryd.prog 78 #[av x A3 c3 A4 c4] w fun e w' => e = .returned (.bool (testsJ x)) ∧ Below w.heap.size w w' := by
  obtain ⟨x0, x1, x2, x3, x4⟩ := x
  unfold testsJ
  have hb0 : Below w.heap.size w (w.alloc (.cells #[.int .i64 x0, .int .i64 x1, .string x2, .slice A3 x3.length c3, .slice A4 x4.length c4] 25)) := (Below.refl _ w).alloc (Nat.le_refl _) _
  have hX := fun w' (hb : Below w.heap.size w w') => contains_str 123 #[] sgn (enters_of Tryd.func123 (by kernel_rfl) rfl) A3 c3 x3 w' (Kd.C_below h.g3 hb) (fun s W _ => by simpa using tests1_any s W) hbig
  generalize x3.any sgn = r at hX
  cases hk : x0 == 6 with
  | false =>
    go_enter Tryd.func78, Tryd.ntmps78
    go_wp2
    go_ret
    exact ⟨by simp, hb0⟩
  | true =>
    have hY := hX _ hb0
    go_enter Tryd.func78, Tryd.ntmps78
    go_wp2_with (fail)
    refine hY.mono ?_; rintro e w' ⟨rfl, hb⟩
    have HB := Lib.hid hb; clear hb
    go_wp2
    go_ret
    exact ⟨by simp, hb0.trans (HB.out.mono hb0.size)⟩
end Go.Proofs.YtehdnjegipcpfaaDoor
namespace Go.Proofs.YtehdnjegipcpfaaDoor
open Go.RowKit Go.Proofs.YtehdnjegipcpfaaDoorW.PrintWords Go.Proofs.YtehdnjegipcpfaaDoorW.PrintLast Go.Proofs.YtehdnjegipcpfaaDoorW.PrintMore
open PFilterHolds Go.Shelf
def Tabs (w : World) : Prop := Lib.Utf8Tabs 0 1 w
theorem Tabs.below {w w' : World} (h : Tabs w) (hb : Below w.heap.size w w') : Tabs w' := Go.Proofs.Utf8Tabs_below h hb
def vstr (s : ByteArray) : Bool := Lib.validD s.data.toList
theorem valid_any (s : ByteArray) (w : World) (hs : s.size ≤ 9223372036854775807) (hT : Tabs w) :
    Calls Tryd.prog 68 #[.string s] w fun e w' => e = .returned (.bool (vstr s)) ∧ Below w.heap.size w w' :=
  Any.utf8_ValidString Tryd.laysValid s w hs hT
def textJ (s : ByteArray) : Bool := decide (s.size ≤ 60) && vstr s
theorem text_any (s : ByteArray) (w : World) (hT : Tabs w) :
    Calls Tryd.prog 56 #[.string s] w fun e w' => e = .returned (.bool (textJ s)) ∧ Below w.heap.size w w' := by
  unfold textJ
  by_cases h : s.size ≤ 60
  · have hX := valid_any s w (by omega) hT
    generalize vstr s = r at hX ⊢
    have hi : (s.size : Int) ≤ 60 := by omega
    go_enter Tryd.func56, Tryd.ntmps56
    go_wp2_with fail
    refine hX.mono ?_; rintro e w' ⟨rfl, hb⟩
    go_wp2
    go_ret
    exact ⟨by simp [h], hb⟩
  · have hi : ¬ (s.size : Int) ≤ 60 := by omega
    go_enter Tryd.func56, Tryd.ntmps56
    go_wp2
    go_ret
    exact ⟨by simp, Below.refl _ _⟩
def okAt (l : List ByteArray) (j : Nat) : Bool := textJ (l.getD j ByteArray.empty) && (j == 0 || Op.bytesLess (l.getD (j - 1) ByteArray.empty).toList (l.getD j ByteArray.empty).toList)
def namesJ (l : List ByteArray) : Bool := (List.range l.length).all (okAt l)
def headJ (x : S25) : Bool := decide (0 ≤ x.f0) && decide (x.f0 ≤ 6) && (x.f0 == 3 || x.f1 == 0) && (x.f0 == 4 || x.f2.toList.isEmpty) && textJ x.f2
def formedJ : Nat → S25 → Bool
  | 0, _ => false
  | k + 1, x => headJ x && if x.f0 < 5 then x.f4.length == 0 && x.f3.length == 0
    else decide (x.f4.length ≤ 24) && x.f3.length == (if x.f0 = 6 then x.f4.length else 0) && namesJ x.f3 && x.f4.all (formedJ k)
theorem two_boxes (w : World) (o o' : Obj) : Below w.heap.size w ((w.alloc o).alloc o') := ((Below.refl _ w).alloc (Nat.le_refl _) _).alloc (by simp) _
theorem new_blk (w : World) (o : Obj) : (w.alloc o).heap[w.heap.size]? = some o := (MapKept.heap_alloc w o).1
theorem two_boxes_0 (w : World) (o o' : Obj) : ((w.alloc o).alloc o').heap[w.heap.size]? = some o := blk_alloc (new_blk w o) o'
theorem two_boxes_1 (w : World) (o o' : Obj) : ((w.alloc o).alloc o').heap[w.heap.size + 1]? = some o' := by have := new_blk (w.alloc o) o'; simpa using this
set_option maxRecDepth 100000 in
set_option maxHeartbeats 4000000 in
theorem formed_bad (x : S25) (A3 : Option Addr) (c3 : Nat) (A4 : Option Addr) (c4 : Nat) (w : World) (k : Nat) (hh : k = 0 ∨ headJ x = false) (hT : Tabs w) :
    Calls Tryd.prog 34 #[av x A3 c3 A4 c4, .int .i64 k] w fun e w' => e = .returned (.bool false) ∧ Below w.heap.size w w' := by
  obtain ⟨x0, x1, x2, x3, x4⟩ := x
  have hb0 := two_boxes w (.cells #[.int .i64 x0, .int .i64 x1, .string x2, .slice A3 x3.length c3, .slice A4 x4.length c4] 25) (.cells #[.int .i64 (k : Int)] 3)
  have hX := text_any x2 _ (hT.below hb0)
  have HB0 := Lib.hid hb0; clear hb0
  by_cases h1 : k = 0
  · subst h1
    go_enter Tryd.func34, Tryd.ntmps34
    go_wp2
    go_ret
    exact ⟨rfl, HB0.out⟩
  have b1 : ((k : Int) == 0) = false := by simp; omega
  have hd : headJ ⟨x0, x1, x2, x3, x4⟩ = false := hh.resolve_left h1
  unfold headJ at hd
  clear hh
  by_cases h2 : x0 < 0
  · have b2 : decide (x0 < 0) = true := decide_eq_true h2
    clear hd
    go_enter Tryd.func34, Tryd.ntmps34
    go_wp2
    go_ret
    exact ⟨rfl, HB0.out⟩
  have b2 : decide (x0 < 0) = false := decide_eq_false h2
  by_cases h3 : 6 < x0
  · have b3 : decide (6 < x0) = true := decide_eq_true h3
    clear hd
    go_enter Tryd.func34, Tryd.ntmps34
    go_wp2
    go_ret
    exact ⟨rfl, HB0.out⟩
  have b3 : decide (6 < x0) = false := decide_eq_false h3
  rw [decide_eq_true (by omega : 0 ≤ x0), decide_eq_true (by omega : x0 ≤ 6), Bool.true_and, Bool.true_and] at hd
  clear h2 h3
  by_cases h4 : (x0 != 3) = true ∧ (x1 != 0) = true
  · obtain ⟨b4, b5⟩ := h4
    clear hd
    go_enter Tryd.func34, Tryd.ntmps34
    go_wp2_with fail
    go_ret
    exact ⟨rfl, HB0.out⟩
  rw [show (x0 == 3 || x1 == 0) = true by revert h4; simp only [bne]; cases (x0 == 3) <;> cases (x1 == 0) <;> simp, Bool.true_and] at hd
  have c4 : (x0 != 3) = false ∨ ((x0 != 3) = true ∧ (x1 != 0) = false) := by
    revert h4; cases (x0 != 3) <;> cases (x1 != 0) <;> simp
  clear h4
  by_cases h6 : (x0 != 4) = true ∧ x2.toList.isEmpty = false
  · obtain ⟨b6, b7⟩ := h6
    clear hd
    rcases c4 with b4 | ⟨b4, b5⟩
    · go_enter Tryd.func34, Tryd.ntmps34
      go_wp2_with fail
      go_ret
      exact ⟨rfl, HB0.out⟩
    · go_enter Tryd.func34, Tryd.ntmps34
      go_wp2_with fail
      go_ret
      exact ⟨rfl, HB0.out⟩
  rw [show (x0 == 4 || x2.toList.isEmpty) = true by revert h6; simp only [bne]; cases (x0 == 4) <;> cases x2.toList.isEmpty <;> simp, Bool.true_and] at hd
  have c6 : (x0 != 4) = false ∨ ((x0 != 4) = true ∧ x2.toList.isEmpty = true) := by
    revert h6; cases (x0 != 4) <;> cases x2.toList.isEmpty <;> simp
  clear h6
  rw [hd] at hX
  clear hd
  rcases c4 with b4 | ⟨b4, b5⟩
  · rcases c6 with b6 | ⟨b6, b7⟩
    · go_enter Tryd.func34, Tryd.ntmps34
      go_wp2_with fail
      refine hX.mono ?_; rintro e w' ⟨rfl, hb⟩
      go_wp2
      go_ret
      exact ⟨rfl, HB0.out.trans (hb.mono HB0.out.size)⟩
    · go_enter Tryd.func34, Tryd.ntmps34
      go_wp2_with fail
      refine hX.mono ?_; rintro e w' ⟨rfl, hb⟩
      go_wp2
      go_ret
      exact ⟨rfl, HB0.out.trans (hb.mono HB0.out.size)⟩
  · rcases c6 with b6 | ⟨b6, b7⟩
    · go_enter Tryd.func34, Tryd.ntmps34
      go_wp2_with fail
      refine hX.mono ?_; rintro e w' ⟨rfl, hb⟩
      go_wp2
      go_ret
      exact ⟨rfl, HB0.out.trans (hb.mono HB0.out.size)⟩
    · go_enter Tryd.func34, Tryd.ntmps34
      go_wp2_with fail
      refine hX.mono ?_; rintro e w' ⟨rfl, hb⟩
      go_wp2
      go_ret
      exact ⟨rfl, HB0.out.trans (hb.mono HB0.out.size)⟩
end Go.Proofs.YtehdnjegipcpfaaDoor
namespace Go.Proofs.YtehdnjegipcpfaaDoor
open Go.RowKit Go.Proofs.YtehdnjegipcpfaaDoorW.PrintWords Go.Proofs.YtehdnjegipcpfaaDoorW.PrintLast Go.Proofs.YtehdnjegipcpfaaDoorW.PrintMore
open PFilterHolds Go.Shelf
def FormedAt (k : Nat) : Prop := ∀ (x : S25) (A3 : Option Addr) (c3 : Nat) (A4 : Option Addr) (c4 : Nat) (w : World), Rd w A3 c3 A4 c4 x → Tabs w →
    Calls Tryd.prog 34 #[av x A3 c3 A4 c4, .int .i64 k] w fun e w' => e = .returned (.bool (formedJ k x)) ∧ Below w.heap.size w w'
theorem any_not (f : S25 → Bool) : ∀ l : List S25, l.any (fun y => !f y) = !l.all f
  | [] => rfl
  | x :: l => by simp only [List.any_cons, List.all_cons, any_not f l, Bool.not_and]
set_option maxHeartbeats 1000000 in
theorem formed1_any (k : Nat) (hk : k ≤ 100) (ih : FormedAt k) (x : S25) (A3 : Option Addr) (c3 : Nat) (A4 : Option Addr) (c4 : Nat) (g : Nat) (w : World) (h : Rd w A3 c3 A4 c4 x) (hT : Tabs w) (hc : w.cell? ⟨g, 0, none⟩ = some (.int .i64 ((k : Int) + 1))) :
    Calls Tryd.prog 58 #[av x A3 c3 A4 c4, .pointer (some ⟨g, 0, none⟩)] w fun e w' => e = .returned (.bool (!formedJ k x)) ∧ Below w.heap.size w w' := by
  have hb0 : Below w.heap.size w (w.alloc (.cells #[.int .i64 x.f0, .int .i64 x.f1, .string x.f2, .slice A3 x.f3.length c3, .slice A4 x.f4.length c4] 25)) := (Below.refl _ w).alloc (Nat.le_refl _) _
  have hX := ih x A3 c3 A4 c4 _ (h.below hb0) (hT.below hb0)
  have hg := World.block_lt_of_cell? w _ hc
  have hc1 := (hb0.cell hg).trans hc
  obtain ⟨x0, x1, x2, x3, x4⟩ := x
  generalize formedJ k ⟨x0, x1, x2, x3, x4⟩ = r at hX
  have HB0 := Lib.hid hb0; clear hb0
  clear h hT hc ih
  go_enter Tryd.func58, Tryd.ntmps58
  go_wp2_with fail
  refine hX.mono ?_; rintro e w' ⟨rfl, hb⟩
  go_wp2
  go_ret
  exact ⟨rfl, HB0.out.trans (hb.mono HB0.out.size)⟩
set_option maxRecDepth 100000 in
set_option maxHeartbeats 4000000 in
theorem formed_good (k : Nat) (hk : k ≤ 100) (ih : FormedAt k) (x : S25) (A3 : Option Addr) (c3 : Nat) (A4 : Option Addr) (c4 : Nat) (w : World) (h : Rd w A3 c3 A4 c4 x) (hT : Tabs w) (hd : headJ x = true) :
    Calls Tryd.prog 34 #[av x A3 c3 A4 c4, .int .i64 ((k : Int) + 1)] w fun e w' => e = .returned (.bool (formedJ (k + 1) x)) ∧ Below w.heap.size w w' := by
  obtain ⟨x0, x1, x2, x3, x4⟩ := x
  unfold formedJ
  rw [hd, Bool.true_and]
  obtain ⟨ANS, hANS⟩ : ∃ ANS, (if x0 < 5 then x4.length == 0 && x3.length == 0 else decide (x4.length ≤ 24) && x3.length == (if x0 = 6 then x4.length else 0) && namesJ x3 && x4.all (formedJ k)) = ANS := ⟨_, rfl⟩
  rw [hANS]
  have HA := Lib.hid hANS; clear hANS
  unfold headJ at hd
  simp only [Bool.and_eq_true, decide_eq_true_eq] at hd
  obtain ⟨⟨⟨⟨d1, d2⟩, d3⟩, d4⟩, d5⟩ := hd
  have hb0 := two_boxes w (.cells #[.int .i64 x0, .int .i64 x1, .string x2, .slice A3 x3.length c3, .slice A4 x4.length c4] 25) (.cells #[.int .i64 ((k : Int) + 1)] 3)
  have hX := text_any x2 _ (hT.below hb0)
  rw [d5] at hX
  have HB0 := Lib.hid hb0; clear hb0
  have b1 : ((k : Int) + 1 == 0) = false := by simp; omega
  have b2 : decide (x0 < 0) = false := decide_eq_false (by omega)
  have b3 : decide (6 < x0) = false := decide_eq_false (by omega)
  have c4' : (x0 != 3) = false ∨ ((x0 != 3) = true ∧ (x1 != 0) = false) := by
    revert d3; simp only [bne]; cases (x0 == 3) <;> cases (x1 == 0) <;> simp
  have c6' : (x0 != 4) = false ∨ ((x0 != 4) = true ∧ x2.toList.isEmpty = true) := by
    revert d4; simp only [bne]; cases (x0 == 4) <;> cases x2.toList.isEmpty <;> simp
  clear d3 d4 d5
  go_enter Tryd.func34, Tryd.ntmps34
  go_upto_region 1 with fail
  go_cut [45] from 8 to 45 (fun c wx => c = .bool false ∧ Below w.heap.size w wx ∧ wx.heap[w.heap.size]? = some (.cells #[.int .i64 x0, .int .i64 x1, .string x2, .slice A3 x3.length c3, .slice A4 x4.length c4] 25 (0, 0)) ∧ wx.heap[w.heap.size + 1]? = some (.cells #[.int .i64 ((k : Int) + 1)] 3 (0, 0)))
  case first =>
    have fin : ∀ (w' : World), Below ((w.alloc (.cells #[.int .i64 x0, .int .i64 x1, .string x2, .slice A3 x3.length c3, .slice A4 x4.length c4] 25)).alloc (.cells #[.int .i64 ((k : Int) + 1)] 3)).heap.size ((w.alloc (.cells #[.int .i64 x0, .int .i64 x1, .string x2, .slice A3 x3.length c3, .slice A4 x4.length c4] 25)).alloc (.cells #[.int .i64 ((k : Int) + 1)] 3)) w' →
        (Value.bool false = Value.bool false ∧ Below w.heap.size w w' ∧ w'.heap[w.heap.size]? = some (.cells #[.int .i64 x0, .int .i64 x1, .string x2, .slice A3 x3.length c3, .slice A4 x4.length c4] 25 (0, 0)) ∧ w'.heap[w.heap.size + 1]? = some (.cells #[.int .i64 ((k : Int) + 1)] 3 (0, 0))) := fun w' hb =>
      ⟨rfl, HB0.out.trans (hb.mono HB0.out.size), (hb.block _ (by simp; omega)).trans (two_boxes_0 _ _ _), (hb.block _ (by simp)).trans (two_boxes_1 _ _ _)⟩
    have FIN := Lib.hid fin; clear fin
    rcases c4' with b4 | ⟨b4, b5⟩
    · rcases c6' with b6 | ⟨b6, b7⟩
      · go_wp2_with fail
        refine hX.mono ?_; rintro e w' ⟨rfl, hb⟩
        go_wp2
        go_meet
        exact ⟨rfl, (FIN.out _ hb).2⟩
      · go_wp2_with fail
        refine hX.mono ?_; rintro e w' ⟨rfl, hb⟩
        go_wp2
        go_meet
        exact ⟨rfl, (FIN.out _ hb).2⟩
    · rcases c6' with b6 | ⟨b6, b7⟩
      · go_wp2_with fail
        refine hX.mono ?_; rintro e w' ⟨rfl, hb⟩
        go_wp2
        go_meet
        exact ⟨rfl, (FIN.out _ hb).2⟩
      · go_wp2_with fail
        refine hX.mono ?_; rintro e w' ⟨rfl, hb⟩
        go_wp2
        go_meet
        exact ⟨rfl, (FIN.out _ hb).2⟩
  case rest =>
    obtain ⟨rfl, hB, k0, k1⟩ := hcut
    clear hX HB0 c4' c6'
    have f0 : wc.cell? ⟨w.heap.size, 0, none⟩ = some (.int .i64 x0) := (blk_cell k0 0).trans rfl
    have f3 : wc.cell? ⟨w.heap.size, 3, none⟩ = some (.slice A3 x3.length c3) := (blk_cell k0 3).trans rfl
    have f4 : wc.cell? ⟨w.heap.size, 4, none⟩ = some (.slice A4 x4.length c4) := (blk_cell k0 4).trans rfl
    have fl : wc.cell? ⟨w.heap.size + 1, 0, none⟩ = some (.int .i64 ((k : Int) + 1)) := (blk_cell k1 0).trans rfl
    have HK0 := Lib.hid k0; clear k0
    have HK1 := Lib.hid k1; clear k1
    have HB := Lib.hid hB; clear hB
    by_cases h5 : x0 < 5
    · have b5 : decide (x0 < 5) = true := decide_eq_true h5
      have hA := HA.out
      rw [if_pos h5] at hA
      cases e4 : ((x4.length : Int) == 0) with
      | false =>
        have hz : (x4.length == 0) = false := by simpa using e4
        rw [hz, Bool.false_and] at hA
        subst hA
        clear HA hz h5
        go_wp2
        go_ret
        exact ⟨rfl, HB.out⟩
      | true =>
        have hz : (x4.length == 0) = true := by simpa using e4
        rw [hz, Bool.true_and] at hA
        clear HA hz h5
        go_wp2
        go_ret
        exact ⟨by rw [← hA]; cases x3 <;> simp <;> omega, HB.out⟩
    · have b5 : decide (x0 < 5) = false := decide_eq_false h5
      have hA := HA.out
      rw [if_neg h5] at hA
      clear HA
      have HA := Lib.hid hA; clear hA
      go_upto_if 61 with fail
      go_cut [5] from 61 to 64 (fun v wx => v = .int .i64 ((if x0 = 6 then x4.length else 0 : Nat) : Int) ∧ wx = wc)
      case first =>
        cases b6 : (x0 == 6) with
        | false =>
          go_wp2_with fail
          go_meet
          rw [if_neg (by simpa using b6)]
          exact ⟨rfl, rfl⟩
        | true =>
          go_wp2_with fail
          go_meet
          rw [if_pos (by simpa using b6)]
          exact ⟨rfl, rfl⟩
      case rest =>
        obtain ⟨rfl, rfl⟩ := hcut
        generalize hwant : (if x0 = 6 then x4.length else 0) = want at HA
        have HWANT := Lib.hid hwant; clear hwant
        by_cases h8 : 24 < x4.length
        · have b8 : decide (24 < (x4.length : Int)) = true := decide_eq_true (by omega)
          have hA := HA.out
          rw [decide_eq_false (by omega : ¬ x4.length ≤ 24)] at hA
          simp only [Bool.false_and] at hA
          subst hA
          clear HA
          go_wp2
          go_ret
          exact ⟨rfl, HB.out⟩
        · have b8 : decide (24 < (x4.length : Int)) = false := decide_eq_false (by omega)
          by_cases h9 : x3.length = want
          · have b9 : ((x3.length : Int) != (want : Int)) = false := by simp [h9]
            have hA := HA.out
            rw [decide_eq_true (by omega : x4.length ≤ 24), show (x3.length == want) = true by simpa using h9] at hA
            simp only [Bool.true_and] at hA
            clear HA
            have HA := Lib.hid hA; clear hA
            have H := Lib.hid h; clear h
            have HT := Lib.hid hT; clear hT
            have HI := Lib.hid ih; clear ih
            have hw24 : x4.length ≤ 24 := by omega
            have hw3 : x3.length ≤ 24 := by rw [h9, ← HWANT.out]; split <;> omega
            clear h5 b5 b1 b2 b3 d1 d2 h8
            go_wp2_with fail
            go_loopw [6, 7, 79] (fun v6 v7 v79 wr => ∃ j : Nat, j ≤ x3.length ∧ v79 = .int .i64 j ∧ (∀ i, i < j → okAt x3 i = true) ∧ Below wc.heap.size wc wr) (fun _ _ v79 _ => x3.length - (intOf v79).toNat)
            case atStart => exact ⟨0, Nat.zero_le _, rfl, fun i hi => absurd hi (Nat.not_lt_zero _), Below.refl _ _⟩
            case round =>
              obtain ⟨j, hj, rfl, hok, hBr⟩ := hrel
              have HO := Lib.hid hok; clear hok
              have HR := Lib.hid hBr; clear hBr
              have l0 := blk_lt HK0.out
              have f0r := (HR.out.cell (p := ⟨w.heap.size, 0, none⟩) l0).trans f0
              have f3r := (HR.out.cell (p := ⟨w.heap.size, 3, none⟩) l0).trans f3
              have f4r := (HR.out.cell (p := ⟨w.heap.size, 4, none⟩) l0).trans f4
              have flr := (HR.out.cell (p := ⟨w.heap.size + 1, 0, none⟩) (blk_lt HK1.out)).trans fl
              clear l0 f0 f3 f4 fl
              have hBr2 : Below w.heap.size w wr := HB.out.trans (HR.out.mono HB.out.size)
              have HBR := Lib.hid hBr2; clear hBr2
              by_cases hlt : j < x3.length
              · have hji : (j : Int) < (x3.length : Int) := by omega
                obtain ⟨s, hs⟩ : ∃ s, x3[j]? = some s := ⟨_, List.getElem?_eq_getElem hlt⟩
                obtain ⟨b, o, rfl, hb, e0⟩ := name_of (H.out.below HB.out).g3 rfl j s hs
                replace e0 := (HR.out.cell (World.block_lt_of_cell? wc _ e0)).trans e0
                have hX := text_any s wr (HT.out.below HBR.out)
                have hget : x3.getD j ByteArray.empty = s := by rw [List.getD_eq_getElem?_getD, hs]; rfl
                have HS := Lib.hid hs; clear hs
                have HG := Lib.hid hget; clear hget
                have bad : okAt x3 j = false → false = ANS := fun hb => by
                  rw [← HA.out, show namesJ x3 = false from List.all_eq_false.2 ⟨j, by simpa using hlt, by simp [hb]⟩, Bool.false_and]
                have BAD := Lib.hid bad; clear bad
                cases ht : textJ s with
                | false =>
                  have hno := BAD.out (by unfold okAt; rw [HG.out, ht, Bool.false_and])
                  subst hno
                  rw [ht] at hX
                  clear HA BAD
                  go_wp2_with fail
                  refine hX.mono ?_; rintro e w' ⟨rfl, hb'⟩
                  have HB' := Lib.hid hb'; clear hb'
                  go_wp2
                  go_ret
                  exact ⟨rfl, HBR.out.trans (HB'.out.mono HBR.out.size)⟩
                | true =>
                  rw [ht] at hX
                  by_cases hj0 : j = 0
                  · subst hj0
                    have hgood : okAt x3 0 = true := by unfold okAt; rw [HG.out, ht]; rfl
                    have HGD := Lib.hid hgood; clear hgood
                    rw [Nat.add_zero] at e0
                    go_wp2_with fail
                    refine hX.mono ?_; rintro e w' ⟨rfl, hb'⟩
                    have HB' := Lib.hid hb'; clear hb'
                    go_wp2
                    go_roundw
                    case rel =>
                      refine ⟨1, by omega, by go_num, fun i hi => ?_, HR.out.trans (HB'.out.mono HR.out.size)⟩
                      obtain rfl : i = 0 := by omega
                      exact HGD.out
                    case measure => simp [intOf]; omega
                  · obtain ⟨i, rfl⟩ : ∃ i, j = i + 1 := ⟨j - 1, by omega⟩
                    obtain ⟨s', hs'⟩ : ∃ s', x3[i]? = some s' := ⟨_, List.getElem?_eq_getElem (by omega)⟩
                    obtain ⟨b', o', he, hb', e1⟩ := name_of (H.out.below HB.out).g3 rfl i s' hs'
                    obtain ⟨rfl, rfl⟩ : b = b' ∧ o = o' := by simpa using he
                    replace e1 := (HR.out.cell (World.block_lt_of_cell? wc _ e1)).trans e1
                    have hget' : x3.getD i ByteArray.empty = s' := by rw [List.getD_eq_getElem?_getD, hs']; rfl
                    clear he hs'
                    have hokj : okAt x3 (i + 1) = Op.bytesLess s'.toList s.toList := by
                      unfold okAt
                      rw [HG.out, ht, Nat.add_sub_cancel, hget']
                      simp
                    clear hget'
                    have HOK := Lib.hid hokj; clear hokj
                    cases hl : Op.bytesLess s'.toList s.toList with
                    | false =>
                      have hno := BAD.out (by rw [HOK.out, hl])
                      subst hno
                      clear HA BAD
                      go_wp2_with fail
                      refine hX.mono ?_; rintro e w' ⟨rfl, hb'⟩
                      have e1' := (hb'.cell (World.block_lt_of_cell? _ _ e1)).trans e1
                      have f3' := (hb'.cell (World.block_lt_of_cell? _ _ f3r)).trans f3r
                      have HB' := Lib.hid hb'; clear hb'
                      clear hX e1 e0 f0r f3r f4r flr
                      go_wp2
                      go_ret
                      exact ⟨rfl, HBR.out.trans (HB'.out.mono HBR.out.size)⟩
                    | true =>
                      go_wp2_with fail
                      refine hX.mono ?_; rintro e w' ⟨rfl, hb'⟩
                      have e1' := (hb'.cell (World.block_lt_of_cell? _ _ e1)).trans e1
                      have f3' := (hb'.cell (World.block_lt_of_cell? _ _ f3r)).trans f3r
                      have HB' := Lib.hid hb'; clear hb'
                      have HL := Lib.hid hl
                      clear hX e1 e0 f0r f3r f4r flr
                      go_wp2
                      go_roundw
                      case rel =>
                        refine ⟨i + 2, by omega, by go_num, fun i' hi => ?_, HR.out.trans (HB'.out.mono HR.out.size)⟩
                        by_cases hi' : i' < i + 1
                        · exact HO.out i' hi'
                        · obtain rfl : i' = i + 1 := by omega
                          rw [HOK.out, HL.out]
                      case measure => simp [intOf]; omega
              · obtain rfl : j = x3.length := by omega
                have hnm : namesJ x3 = true := List.all_eq_true.2 (fun i hi => HO.out i (by simpa using hi))
                have hA := HA.out
                rw [hnm, Bool.true_and] at hA
                clear HA hnm
                have hH := H.out.below (HB.out.trans (HR.out.mono HB.out.size))
                have hC := contains_any 58 #[.pointer (some ⟨w.heap.size + 1, 0, none⟩)] (fun y => !formedJ k y) (enters_of Tryd.func58 (by kernel_rfl) rfl) A4 c4 x4 wr hH.g4 (fun y hy W B3 d3 B4 d4 hbW hRy => by
                  have hc := (hbW.cell (World.block_lt_of_cell? _ _ flr)).trans flr
                  simpa using formed1_any k hk HI.out y B3 d3 B4 d4 (w.heap.size + 1) W hRy ((HT.out.below HBR.out).below hbW) hc) (by omega)
                have hany : x4.any (fun y => !formedJ k y) = !ANS := by rw [← hA]; exact any_not _ _
                rw [hany] at hC
                have HA := Lib.hid hA; clear hA hany hH
                go_wp2_with fail
                refine hC.mono ?_; rintro e w' ⟨rfl, hb'⟩
                have HB' := Lib.hid hb'; clear hb' hC
                clear f0r f3r f4r flr
                go_wp2
                go_ret
                exact ⟨by simp, HBR.out.trans (HB'.out.mono HBR.out.size)⟩
          · have b9 : ((x3.length : Int) != (want : Int)) = true := by simp; omega
            have hA := HA.out
            rw [show (x3.length == want) = false by simpa using h9] at hA
            simp only [Bool.and_false, Bool.false_and] at hA
            subst hA
            clear HA
            go_wp2
            go_ret
            exact ⟨rfl, HB.out⟩
theorem formed_any : ∀ (k : Nat), k ≤ 100 → FormedAt k
  | 0, _, x, A3, c3, A4, c4, w, h, hT => formed_bad x A3 c3 A4 c4 w 0 (.inl rfl) hT
  | k + 1, hk, x, A3, c3, A4, c4, w, h, hT => by
    cases hd : headJ x with
    | false =>
      have := formed_bad x A3 c3 A4 c4 w (k + 1) (.inr hd) hT
      have e : formedJ (k + 1) x = false := by unfold formedJ; rw [hd, Bool.false_and]
      rw [e]
      exact this
    | true => exact formed_good k (by omega) (formed_any k (by omega)) x A3 c3 A4 c4 w h hT hd
def fmJ (x : S25) : Bool := formedJ 6 x
theorem Formed_any (x : S25) (A3 : Option Addr) (c3 : Nat) (A4 : Option Addr) (c4 : Nat) (w : World) (h : Rd w A3 c3 A4 c4 x) (hT : Tabs w) :
    Calls Tryd.prog 15 #[av x A3 c3 A4 c4] w fun e w' => e = .returned (.bool (fmJ x)) ∧ Below w.heap.size w w' := by
  have hb0 : Below w.heap.size w (w.alloc (.cells #[.int .i64 x.f0, .int .i64 x.f1, .string x.f2, .slice A3 x.f3.length c3, .slice A4 x.f4.length c4] 25)) := (Below.refl _ w).alloc (Nat.le_refl _) _
  have hX := formed_any 6 (by omega) x A3 c3 A4 c4 _ (h.below hb0) (hT.below hb0)
  obtain ⟨x0, x1, x2, x3, x4⟩ := x
  unfold fmJ
  generalize formedJ 6 ⟨x0, x1, x2, x3, x4⟩ = r at hX
  have HB0 := Lib.hid hb0; clear hb0
  clear h hT
  go_enter Tryd.func15, Tryd.ntmps15
  go_wp2_with fail
  refine hX.mono ?_; rintro e w' ⟨rfl, hb⟩
  go_wp2
  go_ret
  exact ⟨rfl, HB0.out.trans (hb.mono HB0.out.size)⟩
end Go.Proofs.YtehdnjegipcpfaaDoor
namespace Go.Proofs.YtehdnjegipcpfaaDoor
open Go.RowKit Go.Proofs.YtehdnjegipcpfaaDoorW.PrintWords Go.Proofs.YtehdnjegipcpfaaDoorW.PrintLast Go.Proofs.YtehdnjegipcpfaaDoorW.PrintMore
open PFilterHolds Go.Shelf
def eqAt (l m : List ByteArray) (i : Nat) : Bool := (l.getD i ByteArray.empty).toList == (m.getD i ByteArray.empty).toList
def eqS (l m : List ByteArray) : Bool := decide (l.length = m.length) && (List.range' 0 l.length).all (eqAt l m)
theorem eq_tot (l m : List ByteArray) (hm : l.length = m.length) (hb : l.length ≤ 1000000) : ∀ d j, j + d = l.length →
    slices_Equal_string_string.l0 (d + 1) l m (l.length : Int) (j : Int) = some ((List.range' j d).all (eqAt l m))
  | 0, j, h => by
    unfold slices_Equal_string_string.l0
    rw [if_neg (by omega)]
    rfl
  | d + 1, j, h => by
    unfold slices_Equal_string_string.l0
    rw [if_pos (by omega), if_pos (by omega), if_pos (by omega), if_pos (by omega)]
    have e : wrap64 ((j : Int) + 1) = ((j + 1 : Nat) : Int) := by unfold wrap64; omega
    rw [e, eq_tot l m hm hb d (j + 1) (by omega), List.range'_succ, List.all_cons]
    have e2 : eqAt l m j = ((rdOf ByteArray.empty l (j : Int)).toList == (rdOf ByteArray.empty m (j : Int)).toList) := rfl
    rw [e2]
    by_cases h2 : (rdOf ByteArray.empty l (j : Int)).toList = (rdOf ByteArray.empty m (j : Int)).toList
    · rw [if_pos h2, h2]; simp
    · rw [if_neg h2, show ((rdOf ByteArray.empty l (j : Int)).toList == (rdOf ByteArray.empty m (j : Int)).toList) = false by simpa using h2]; simp
theorem names_eq (A0 : Option Addr) (c0 : Nat) (l : List ByteArray) (A1 : Option Addr) (c1 : Nat) (m : List ByteArray) (w : World) (h0 : Kd.string.C w A0 l.length l) (g0 : l.length ≤ c0) (h1 : Kd.string.C w A1 m.length m) (g1 : m.length ≤ c1) (hb : l.length ≤ 1000000) :
    Calls Tryd.prog 36 #[.slice A0 l.length c0, .slice A1 m.length c1] w fun e w' => e = .returned (.bool (eqS l m)) ∧ Below w.heap.size w w' := by
  have hf : slices_Equal_string_string.f (l.length + 1) l m = some (eqS l m) := by
    unfold slices_Equal_string_string.f eqS
    by_cases e : l.length = m.length
    · rw [if_pos (by omega), show (0 : Int) = ((0 : Nat) : Int) from rfl, eq_tot l m e hb l.length 0 (by omega), decide_eq_true e, Bool.true_and]
    · rw [if_neg (by omega), decide_eq_false e, Bool.false_and]
  refine (slices_Equal_string_string.calls (l.length + 1) A0 c0 l A1 c1 m (eqS l m) w h0 g0 h1 g1 hf).mono fun e w' ⟨he, hd⟩ => ⟨he, drawn_below hd⟩
def sameF : Nat → S25 → S25 → Bool
  | 0, _, _ => false
  | k + 1, x, y => x.f0 == y.f0 && (x.f1 == y.f1 && (x.f2.toList == y.f2.toList && (eqS x.f3 y.f3 && (decide (x.f4.length = y.f4.length) && (List.range' 0 x.f4.length).all (fun i => sameF k (x.f4.getD i z25) (y.f4.getD i z25))))))
def SameAt (k : Nat) (p : S25 → Prop) : Prop := ∀ (x y : S25) (A3 : Option Addr) (c3 : Nat) (A4 : Option Addr) (c4 : Nat) (B3 : Option Addr) (d3 : Nat) (B4 : Option Addr) (d4 : Nat) (w : World), p x → Rd w A3 c3 A4 c4 x → Rd w B3 d3 B4 d4 y →
    Calls Tryd.prog 18 #[av x A3 c3 A4 c4, av y B3 d3 B4 d4] w fun e w' => e = .returned (.bool (sameF k x y)) ∧ Below w.heap.size w w'
set_option maxRecDepth 100000 in
set_option maxHeartbeats 4000000 in
theorem equal_func (k : Nat) (p : S25 → Prop) (ih : SameAt k p) (A c) (xs : List S25) (B d) (ys : List S25) (w : World) (h : Kd.C k25 w A xs.length xs) (h' : Kd.C k25 w B ys.length ys) (hp : ∀ x ∈ xs, p x) (hbig : xs.length ≤ 1000000) :
    Calls Tryd.prog 37 #[.slice A xs.length c, .slice B ys.length d, .func (.func 18) #[] #[]] w fun e w' => e = .returned (.bool (decide (xs.length = ys.length) && (List.range' 0 xs.length).all (fun i => sameF k (xs.getD i z25) (ys.getD i z25)))) ∧ Below w.heap.size w w' := by
  by_cases hl : xs.length = ys.length
  · obtain ⟨ANS, hA⟩ : ∃ ANS, (List.range' 0 xs.length).all (fun i => sameF k (xs.getD i z25) (ys.getD i z25)) = ANS := ⟨_, rfl⟩
    rw [decide_eq_true hl, Bool.true_and, hA]
    have HA := Lib.hid hA; clear hA
    have H := Lib.hid h; clear h
    have H' := Lib.hid h'; clear h'
    have HP := Lib.hid hp; clear hp
    have HI := Lib.hid ih; clear ih
    have hl1 : (xs.length : Int) = ys.length := by omega
    have hbx : ((xs.length : Int) != (ys.length : Int)) = false := by simp [hl]
    go_enter Tryd.func37, Tryd.ntmps37
    go_wp2
    go_loopw [7, 8, 9, 17] (fun v7 v8 v9 v17 wr => ∃ j : Nat, j ≤ xs.length ∧ v17 = .int .i64 j ∧ ANS = (List.range' j (xs.length - j)).all (fun i => sameF k (xs.getD i z25) (ys.getD i z25)) ∧ Below w.heap.size w wr) (fun _ _ _ v17 _ => xs.length - (intOf v17).toNat)
    case atStart => exact ⟨0, Nat.zero_le _, rfl, HA.out.symm, Below.refl _ _⟩
    case round =>
      obtain ⟨j, hj, rfl, hI, hB⟩ := hrel
      have HN := Lib.hid hI; clear hI
      have HB := Lib.hid hB; clear hB
      by_cases hlt : j < xs.length
      · have hji : (j : Int) < (xs.length : Int) := by omega
        have hji' : (j : Int) < (ys.length : Int) := by omega
        obtain ⟨x, hx⟩ : ∃ x, xs[j]? = some x := ⟨_, List.getElem?_eq_getElem hlt⟩
        obtain ⟨y, hy⟩ : ∃ y, ys[j]? = some y := ⟨_, List.getElem?_eq_getElem (by omega)⟩
        obtain ⟨b, o, A3, c3, A4, c4, rfl, hb, e0, e1, e2, e3, e4, hR⟩ := item_of H.out rfl j x hx
        obtain ⟨b', o', B3, d3, B4, d4, rfl, hb', e0', e1', e2', e3', e4', hR'⟩ := item_of H'.out rfl j y hy
        replace e0 := (HB.out.cell (World.block_lt_of_cell? w _ e0)).trans e0
        replace e1 := (HB.out.cell (World.block_lt_of_cell? w _ e1)).trans e1
        replace e2 := (HB.out.cell (World.block_lt_of_cell? w _ e2)).trans e2
        replace e3 := (HB.out.cell (World.block_lt_of_cell? w _ e3)).trans e3
        replace e4 := (HB.out.cell (World.block_lt_of_cell? w _ e4)).trans e4
        replace e0' := (HB.out.cell (World.block_lt_of_cell? w _ e0')).trans e0'
        replace e1' := (HB.out.cell (World.block_lt_of_cell? w _ e1')).trans e1'
        replace e2' := (HB.out.cell (World.block_lt_of_cell? w _ e2')).trans e2'
        replace e3' := (HB.out.cell (World.block_lt_of_cell? w _ e3')).trans e3'
        replace e4' := (HB.out.cell (World.block_lt_of_cell? w _ e4')).trans e4'
        have hcall := fun W (hbW : Below w.heap.size w W) => HI.out x y A3 c3 A4 c4 B3 d3 B4 d4 W (HP.out x (List.mem_of_getElem? hx)) (hR.below hbW) (hR'.below hbW)
        have hw1 : b < wr.heap.size := Nat.lt_of_lt_of_le hb HB.out.size
        have hw2 : b' < wr.heap.size := Nat.lt_of_lt_of_le hb' HB.out.size
        clear hR hR' hl
        obtain ⟨x0, x1, x2, x3, x4⟩ := x
        obtain ⟨y0, y1, y2, y3, y4⟩ := y
        have hd : (List.range' j (xs.length - j)).all (fun i => sameF k (xs.getD i z25) (ys.getD i z25)) = (sameF k ⟨x0, x1, x2, x3, x4⟩ ⟨y0, y1, y2, y3, y4⟩ && (List.range' (j + 1) (xs.length - (j + 1))).all (fun i => sameF k (xs.getD i z25) (ys.getD i z25))) := by
          rw [show xs.length - j = (xs.length - (j + 1)) + 1 by omega, List.range'_succ, List.all_cons, List.getD_eq_getElem?_getD, hx, List.getD_eq_getElem?_getD, hy]
          rfl
        have HD := Lib.hid hd; clear hd hx hy
        generalize sameF k ⟨x0, x1, x2, x3, x4⟩ ⟨y0, y1, y2, y3, y4⟩ = r at hcall HD
        cases r with
        | false =>
          have HF := Lib.hid (hcall); clear hcall
          go_wp2_with fail
          refine (HF.out _ ((HB.out.alloc HB.out.size _).alloc (by simp; have := HB.out.size; omega) _)).mono ?_; rintro e w' ⟨rfl, hb⟩
          have HB' := Lib.hid hb; clear hb
          go_wp2
          go_ret
          refine ⟨by rw [HN.out, HD.out]; rfl, ?_⟩
          have hs := HB.out.size
          exact ((HB.out.alloc hs _).alloc (by simp; omega) _).trans (HB'.out.mono (by simp; omega))
        | true =>
          have HF := Lib.hid (hcall); clear hcall
          go_wp2_with fail
          refine (HF.out _ ((HB.out.alloc HB.out.size _).alloc (by simp; have := HB.out.size; omega) _)).mono ?_; rintro e w' ⟨rfl, hb⟩
          have HB' := Lib.hid hb; clear hb
          go_wp2
          go_roundw
          case rel =>
            refine ⟨j + 1, by omega, by go_num, by rw [HN.out, HD.out]; rfl, ?_⟩
            have hs := HB.out.size
            exact ((HB.out.alloc hs _).alloc (by simp; omega) _).trans (HB'.out.mono (by simp; omega))
          case measure => simp [intOf]; omega
      · obtain rfl : j = xs.length := by omega
        go_wp2
        go_ret
        exact ⟨by rw [HN.out, Nat.sub_self]; rfl, HB.out⟩
  · have hbx : ((xs.length : Int) != (ys.length : Int)) = true := by simp; omega
    go_enter Tryd.func37, Tryd.ntmps37
    go_wp2
    go_ret
    exact ⟨by simp [hl], Below.refl _ _⟩
set_option maxRecDepth 100000 in
set_option maxHeartbeats 4000000 in
theorem same_step (k : Nat) (p : S25 → Prop) (ih : SameAt k p) (x y : S25) (A3 : Option Addr) (c3 : Nat) (A4 : Option Addr) (c4 : Nat) (B3 : Option Addr) (d3 : Nat) (B4 : Option Addr) (d4 : Nat) (w : World) (hp : ∀ z ∈ x.f4, p z) (h3 : x.f3.length ≤ 1000000) (h4 : x.f4.length ≤ 1000000) (h : Rd w A3 c3 A4 c4 x) (h' : Rd w B3 d3 B4 d4 y) :
    Calls Tryd.prog 18 #[av x A3 c3 A4 c4, av y B3 d3 B4 d4] w fun e w' => e = .returned (.bool (sameF (k + 1) x y)) ∧ Below w.heap.size w w' := by
  have hb0 := two_boxes w (.cells #[.int .i64 x.f0, .int .i64 x.f1, .string x.f2, .slice A3 x.f3.length c3, .slice A4 x.f4.length c4] 25) (.cells #[.int .i64 y.f0, .int .i64 y.f1, .string y.f2, .slice B3 y.f3.length d3, .slice B4 y.f4.length d4] 25)
  have hN := names_eq A3 c3 x.f3 B3 d3 y.f3 _ (h.below hb0).g3 h.l3 (h'.below hb0).g3 h'.l3 h3
  have hE := fun W (hb : Below w.heap.size w W) => equal_func k p ih A4 c4 x.f4 B4 d4 y.f4 W (h.below hb).g4 (h'.below hb).g4 hp h4
  obtain ⟨x0, x1, x2, x3, x4⟩ := x
  obtain ⟨y0, y1, y2, y3, y4⟩ := y
  unfold sameF
  simp only at hN hE hb0 ⊢
  generalize (decide (x4.length = y4.length) && (List.range' 0 x4.length).all (fun i => sameF k (x4.getD i z25) (y4.getD i z25))) = r at hE ⊢
  generalize eqS x3 y3 = q at hN ⊢
  have HB0 := Lib.hid hb0; clear hb0
  have HE := Lib.hid hE; clear hE
  clear h h' ih hp
  cases b1 : x0 == y0 with
  | false =>
    go_enter Tryd.func18, Tryd.ntmps18
    go_wp2_with fail
    go_ret
    exact ⟨by simp, HB0.out⟩
  | true =>
  cases b2 : x1 == y1 with
  | false =>
    go_enter Tryd.func18, Tryd.ntmps18
    go_wp2_with fail
    go_ret
    exact ⟨by simp, HB0.out⟩
  | true =>
  cases b3 : x2.toList == y2.toList with
  | false =>
    go_enter Tryd.func18, Tryd.ntmps18
    go_wp2_with fail
    go_ret
    exact ⟨by simp, HB0.out⟩
  | true =>
  cases q with
  | false =>
    go_enter Tryd.func18, Tryd.ntmps18
    go_wp2_with fail
    refine hN.mono ?_; rintro e w' ⟨rfl, hb⟩
    have HB := Lib.hid hb; clear hb
    go_wp2_with fail
    go_ret
    exact ⟨by simp, HB0.out.trans (HB.out.mono HB0.out.size)⟩
  | true =>
    go_enter Tryd.func18, Tryd.ntmps18
    go_wp2_with fail
    refine hN.mono ?_; rintro e w' ⟨rfl, hb⟩
    have f4 := (hb.cell (p := ⟨w.heap.size, 4, none⟩) (by simp; omega)).trans (blk_cell (two_boxes_0 w _ _) 4)
    have g4 := (hb.cell (p := ⟨w.heap.size + 1, 4, none⟩) (by simp)).trans (blk_cell (two_boxes_1 w _ _) 4)
    have HB := Lib.hid hb; clear hb
    have hB2 := HB0.out.trans (HB.out.mono HB0.out.size)
    go_wp2_with fail
    refine (HE.out _ hB2).mono ?_; rintro e w'' ⟨rfl, hb⟩
    have HB' := Lib.hid hb; clear hb
    go_wp2_with fail
    go_ret
    exact ⟨by simp, hB2.trans (HB'.out.mono hB2.size)⟩
theorem formed_parts {k : Nat} {x : S25} (h : formedJ (k + 1) x = true) : x.f3.length ≤ 24 ∧ x.f4.length ≤ 24 ∧ (∀ z ∈ x.f4, formedJ k z = true) ∧ 0 ≤ x.f0 ∧ x.f0 ≤ 6 ∧ (x.f0 = 6 → x.f3.length = x.f4.length) ∧ (x.f0 ≠ 6 → x.f3 = []) ∧ (x.f0 < 5 → x.f4 = []) ∧ namesJ x.f3 = true := by
  unfold formedJ headJ at h
  simp only [Bool.and_eq_true, decide_eq_true_eq] at h
  obtain ⟨⟨⟨⟨⟨a1, a2⟩, _⟩, _⟩, _⟩, hr⟩ := h
  by_cases h5 : x.f0 < 5
  · rw [if_pos h5] at hr
    simp only [Bool.and_eq_true, beq_iff_eq, List.length_eq_zero_iff] at hr
    obtain ⟨r1, r2⟩ := hr
    rw [r1, r2]
    refine ⟨by simp, by simp, fun z hz => (List.not_mem_nil hz).elim, a1, a2, fun e => by omega, fun _ => rfl, fun _ => rfl, rfl⟩
  · rw [if_neg h5] at hr
    simp only [Bool.and_eq_true, beq_iff_eq, decide_eq_true_eq, List.all_eq_true] at hr
    obtain ⟨⟨⟨r1, r2⟩, r3⟩, r4⟩ := hr
    refine ⟨by rw [r2]; split <;> omega, r1, r4, a1, a2, fun e => by rw [r2, if_pos e], fun e => by rw [if_neg e] at r2; exact List.length_eq_zero_iff.1 r2, fun e => absurd e h5, r3⟩
theorem same_any : ∀ k, SameAt k (fun x => formedJ k x = true)
  | 0 => fun x y A3 c3 A4 c4 B3 d3 B4 d4 w hp _ _ => by unfold formedJ at hp; cases hp
  | k + 1 => fun x y A3 c3 A4 c4 B3 d3 B4 d4 w hp h h' => by
    obtain ⟨p1, p2, p3, _⟩ := formed_parts hp
    exact same_step k _ (same_any k) x y A3 c3 A4 c4 B3 d3 B4 d4 w p3 (by omega) (by omega) h h'
end Go.Proofs.YtehdnjegipcpfaaDoor
