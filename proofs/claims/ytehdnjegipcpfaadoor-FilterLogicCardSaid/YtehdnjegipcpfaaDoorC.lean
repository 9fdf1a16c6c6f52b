/-
  Which texts and which values are formed: the contracts of json.text and json.formed, under utf8's tables.
-/
import Derived.Test.YtehdnjegipcpfaaDoorB
import Derived.Test.YtehdnjegipcpfaaDoorShelf
import Derived.Deep.RegionHeld3
import Derived.Deep.RegionWith
import Derived.Lib.SmallJoins
import Derived.WalkSpells
namespace Go.Proofs.YtehdnjegipcpfaaDoor
open Go.RowKit Go.Proofs.YtehdnjegipcpfaaDoorW.PrintWords Go.Proofs.YtehdnjegipcpfaaDoorW.PrintLast Go.Proofs.YtehdnjegipcpfaaDoorW.PrintMore
open PFilterHolds Go.Shelf

def Tabs (w : World) : Prop := Lib.Utf8Tabs 0 1 w
theorem Tabs.below {w w' : World} (h : Tabs w) (hb : Below w.heap.size w w') : Tabs w' := Go.Proofs.Utf8Tabs_below h hb

/-- Is a text valid UTF-8? -/
def vstr (s : ByteArray) : Bool := Lib.validD s.data.toList

theorem valid_any (s : ByteArray) (w : World) (hs : s.size ≤ 9223372036854775807) (hT : Tabs w) :
    Calls Tryd.prog 68 #[.string s] w fun e w' => e = .returned (.bool (vstr s)) ∧ Below w.heap.size w w' :=
  Any.utf8_ValidString Tryd.laysValid s w hs hT

def textJ (s : ByteArray) : Bool := decide (s.size ≤ 60) && vstr s

theorem text_any (s : ByteArray) (w : World) (hT : Tabs w) :
    Calls Tryd.prog 56 #[.string s] w fun e w' => e = .returned (.bool (textJ s)) ∧ Below w.heap.size w w' := by
  unfold textJ
  by_cases h : s.size ≤ 60
  · have hX := valid_any s w (by omega) hT
    generalize vstr s = r at hX ⊢
    have hi : (s.size : Int) ≤ 60 := by omega
    go_enter Tryd.func56, Tryd.ntmps56
    go_wp2_with fail
    refine hX.mono ?_; rintro e w' ⟨rfl, hb⟩
    go_wp2
    go_ret
    exact ⟨by simp [h], hb⟩
  · have hi : ¬ (s.size : Int) ≤ 60 := by omega
    go_enter Tryd.func56, Tryd.ntmps56
    go_wp2
    go_ret
    exact ⟨by simp, Below.refl _ _⟩

/-- A name stands right: it is a text, and greater than the one ahead. -/
def okAt (l : List ByteArray) (j : Nat) : Bool := textJ (l.getD j ByteArray.empty) && (j == 0 || Op.bytesLess (l.getD (j - 1) ByteArray.empty).toList (l.getD j ByteArray.empty).toList)

/-- Names: each a text, rising. -/
def namesJ (l : List ByteArray) : Bool := (List.range l.length).all (okAt l)

def headJ (x : S25) : Bool := decide (0 ≤ x.f0) && decide (x.f0 ≤ 6) && (x.f0 == 3 || x.f1 == 0) && (x.f0 == 4 || x.f2.toList.isEmpty) && textJ x.f2

/-- Is a value formed, of at most so much depth? -/
def formedJ : Nat → S25 → Bool
  | 0, _ => false
  | k + 1, x => headJ x && if x.f0 < 5 then x.f4.length == 0 && x.f3.length == 0
    else decide (x.f4.length ≤ 24) && x.f3.length == (if x.f0 = 6 then x.f4.length else 0) && namesJ x.f3 && x.f4.all (formedJ k)

theorem two_boxes (w : World) (o o' : Obj) : Below w.heap.size w ((w.alloc o).alloc o') := ((Below.refl _ w).alloc (Nat.le_refl _) _).alloc (by simp) _

theorem new_blk (w : World) (o : Obj) : (w.alloc o).heap[w.heap.size]? = some o := (MapKept.heap_alloc w o).1
theorem two_boxes_0 (w : World) (o o' : Obj) : ((w.alloc o).alloc o').heap[w.heap.size]? = some o := blk_alloc (new_blk w o) o'
theorem two_boxes_1 (w : World) (o o' : Obj) : ((w.alloc o).alloc o').heap[w.heap.size + 1]? = some o' := by have := new_blk (w.alloc o) o'; simpa using this

set_option maxRecDepth 100000 in
set_option maxHeartbeats 4000000 in
theorem formed_bad (x : S25) (A3 : Option Addr) (c3 : Nat) (A4 : Option Addr) (c4 : Nat) (w : World) (k : Nat) (hh : k = 0 ∨ headJ x = false) (hT : Tabs w) :
    Calls Tryd.prog 34 #[av x A3 c3 A4 c4, .int .i64 k] w fun e w' => e = .returned (.bool false) ∧ Below w.heap.size w w' := by
  obtain ⟨x0, x1, x2, x3, x4⟩ := x
  have hb0 := two_boxes w (.cells #[.int .i64 x0, .int .i64 x1, .string x2, .slice A3 x3.length c3, .slice A4 x4.length c4] 25) (.cells #[.int .i64 (k : Int)] 3)
  have hX := text_any x2 _ (hT.below hb0)
  have HB0 := Lib.hid hb0; clear hb0
  by_cases h1 : k = 0
  · subst h1
    go_enter Tryd.func34, Tryd.ntmps34
    go_wp2
    go_ret
    exact ⟨rfl, HB0.out⟩
  have b1 : ((k : Int) == 0) = false := by simp; omega
  have hd : headJ ⟨x0, x1, x2, x3, x4⟩ = false := hh.resolve_left h1
  unfold headJ at hd
  clear hh
  by_cases h2 : x0 < 0
  · have b2 : decide (x0 < 0) = true := decide_eq_true h2
    clear hd
    go_enter Tryd.func34, Tryd.ntmps34
    go_wp2
    go_ret
    exact ⟨rfl, HB0.out⟩
  have b2 : decide (x0 < 0) = false := decide_eq_false h2
  by_cases h3 : 6 < x0
  · have b3 : decide (6 < x0) = true := decide_eq_true h3
    clear hd
    go_enter Tryd.func34, Tryd.ntmps34
    go_wp2
    go_ret
    exact ⟨rfl, HB0.out⟩
  have b3 : decide (6 < x0) = false := decide_eq_false h3
  rw [decide_eq_true (by omega : 0 ≤ x0), decide_eq_true (by omega : x0 ≤ 6), Bool.true_and, Bool.true_and] at hd
  clear h2 h3
  by_cases h4 : (x0 != 3) = true ∧ (x1 != 0) = true
  · obtain ⟨b4, b5⟩ := h4
    clear hd
    go_enter Tryd.func34, Tryd.ntmps34
    go_wp2_with fail
    go_ret
    exact ⟨rfl, HB0.out⟩
  rw [show (x0 == 3 || x1 == 0) = true by revert h4; simp only [bne]; cases (x0 == 3) <;> cases (x1 == 0) <;> simp, Bool.true_and] at hd
  have c4 : (x0 != 3) = false ∨ ((x0 != 3) = true ∧ (x1 != 0) = false) := by
    revert h4; cases (x0 != 3) <;> cases (x1 != 0) <;> simp
  clear h4
  by_cases h6 : (x0 != 4) = true ∧ x2.toList.isEmpty = false
  · obtain ⟨b6, b7⟩ := h6
    clear hd
    rcases c4 with b4 | ⟨b4, b5⟩
    · go_enter Tryd.func34, Tryd.ntmps34
      go_wp2_with fail
      go_ret
      exact ⟨rfl, HB0.out⟩
    · go_enter Tryd.func34, Tryd.ntmps34
      go_wp2_with fail
      go_ret
      exact ⟨rfl, HB0.out⟩
  rw [show (x0 == 4 || x2.toList.isEmpty) = true by revert h6; simp only [bne]; cases (x0 == 4) <;> cases x2.toList.isEmpty <;> simp, Bool.true_and] at hd
  have c6 : (x0 != 4) = false ∨ ((x0 != 4) = true ∧ x2.toList.isEmpty = true) := by
    revert h6; cases (x0 != 4) <;> cases x2.toList.isEmpty <;> simp
  clear h6
  rw [hd] at hX
  clear hd
  rcases c4 with b4 | ⟨b4, b5⟩
  · rcases c6 with b6 | ⟨b6, b7⟩
    · go_enter Tryd.func34, Tryd.ntmps34
      go_wp2_with fail
      refine hX.mono ?_; rintro e w' ⟨rfl, hb⟩
      go_wp2
      go_ret
      exact ⟨rfl, HB0.out.trans (hb.mono HB0.out.size)⟩
    · go_enter Tryd.func34, Tryd.ntmps34
      go_wp2_with fail
      refine hX.mono ?_; rintro e w' ⟨rfl, hb⟩
      go_wp2
      go_ret
      exact ⟨rfl, HB0.out.trans (hb.mono HB0.out.size)⟩
  · rcases c6 with b6 | ⟨b6, b7⟩
    · go_enter Tryd.func34, Tryd.ntmps34
      go_wp2_with fail
      refine hX.mono ?_; rintro e w' ⟨rfl, hb⟩
      go_wp2
      go_ret
      exact ⟨rfl, HB0.out.trans (hb.mono HB0.out.size)⟩
    · go_enter Tryd.func34, Tryd.ntmps34
      go_wp2_with fail
      refine hX.mono ?_; rintro e w' ⟨rfl, hb⟩
      go_wp2
      go_ret
      exact ⟨rfl, HB0.out.trans (hb.mono HB0.out.size)⟩

end Go.Proofs.YtehdnjegipcpfaaDoor
