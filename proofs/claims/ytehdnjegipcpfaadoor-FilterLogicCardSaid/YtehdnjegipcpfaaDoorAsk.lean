/-
  The contracts of filter.Holds, and of the laws' awake and ask, under utf8's tables.
-/
import Derived.Test.YtehdnjegipcpfaaDoorHolds
namespace Go.Proofs.YtehdnjegipcpfaaDoor
open Go.RowKit Go.Proofs.YtehdnjegipcpfaaDoorW.PrintWords Go.Proofs.YtehdnjegipcpfaaDoorW.PrintLast Go.Proofs.YtehdnjegipcpfaaDoorW.PrintMore
open PFilterHolds Go.Shelf

set_option maxRecDepth 100000 in
set_option maxHeartbeats 4000000 in
theorem Holds_any (x y : S25) (A3 : Option Addr) (c3 : Nat) (A4 : Option Addr) (c4 : Nat) (B3 : Option Addr) (d3 : Nat) (B4 : Option Addr) (d4 : Nat) (w : World) (h : Rd w A3 c3 A4 c4 x) (h' : Rd w B3 d3 B4 d4 y) (hT : Tabs w) :
    Calls Tryd.prog 13 #[av x A3 c3 A4 c4, av y B3 d3 B4 d4] w fun e w' => e = .returned (.bool (HoldsJ x y)) ∧ Below w.heap.size w w' := by
  have hb0 := two_boxes w (.cells (cs25 x A3 c3 A4 c4) 25) (.cells (cs25 y B3 d3 B4 d4) 25)
  have hk0 := two_boxes_0 w (.cells (cs25 x A3 c3 A4 c4) 25) (.cells (cs25 y B3 d3 B4 d4) 25)
  have hk1 := two_boxes_1 w (.cells (cs25 x A3 c3 A4 c4) 25) (.cells (cs25 y B3 d3 B4 d4) 25)
  have hC := check_any x A3 c3 A4 c4 _ (h.below hb0) (hT.below hb0)
  have hF := fun W (hb : Below w.heap.size w W) => Formed_any y B3 d3 B4 d4 W (h'.below hb) (hT.below hb)
  have hH := fun W (hb : Below w.heap.size w W) (hx : fmJ x = true) (hy : fmJ y = true) => holds_any 6 (by omega) x y A3 c3 A4 c4 B3 d3 B4 d4 W hx hy (h.below hb) (h'.below hb) (hT.below hb)
  have hz : (checkJ x == 0) = true → fmJ x = true := by
    intro e
    have e' : checkJ x = 0 := by simpa using e
    unfold checkJ at e'
    cases hf : fmJ x with
    | true => rfl
    | false => rw [hf, if_neg (by simp)] at e'; cases e'
  unfold HoldsJ
  generalize fmJ x = fx at hz hH
  generalize checkJ x = c at hC hz
  generalize fmJ y = fy at hF hH
  generalize holdsJ 6 x y = r at hH
  have HB0 := Lib.hid hb0; clear hb0
  have HK0 := Lib.hid hk0; clear hk0
  have HK1 := Lib.hid hk1; clear hk1
  have HF := Lib.hid hF; clear hF
  have HH := Lib.hid hH; clear hH
  have HZ := Lib.hid hz; clear hz
  clear h h' hT
  obtain ⟨x0, x1, x2, x3, x4⟩ := x
  obtain ⟨y0, y1, y2, y3, y4⟩ := y
  simp only at HH HF hC ⊢
  cases b1 : c == 0 with
  | false =>
    clear HF HH HZ
    go_enter Tryd.func13, Tryd.ntmps13
    go_wp2_with fail
    refine hC.mono ?_; rintro e w1 ⟨rfl, hb⟩
    have HB := Lib.hid hb; clear hb hC
    go_wp2_with fail
    go_ret
    exact ⟨by simp, HB0.out.trans (HB.out.mono HB0.out.size)⟩
  | true =>
  have hfx := HZ.out b1
  subst hfx
  clear HZ
  cases b2 : y0 == 6 with
  | false =>
    clear HF HH
    go_enter Tryd.func13, Tryd.ntmps13
    go_wp2_with fail
    refine hC.mono ?_; rintro e w1 ⟨rfl, hb⟩
    have k1 := blk_below HK1.out hb
    have g0 : w1.cell? ⟨w.heap.size + 1, 0, none⟩ = some (.int .i64 y0) := (blk_cell k1 0).trans rfl
    have HB := Lib.hid hb; clear hb hC k1
    go_wp2_with fail
    go_ret
    exact ⟨by simp, HB0.out.trans (HB.out.mono HB0.out.size)⟩
  | true =>
    go_enter Tryd.func13, Tryd.ntmps13
    go_wp2_with fail
    refine hC.mono ?_; rintro e w1 ⟨rfl, hb⟩
    have k1 := blk_below HK1.out hb
    have k0 := blk_below HK0.out hb
    have hB1 := HB0.out.trans (hb.mono HB0.out.size)
    have hF := HF.out w1 hB1
    have g0 : w1.cell? ⟨w.heap.size + 1, 0, none⟩ = some (.int .i64 y0) := (blk_cell k1 0).trans rfl
    have g1 : w1.cell? ⟨w.heap.size + 1, 1, none⟩ = some (.int .i64 y1) := (blk_cell k1 1).trans rfl
    have g2 : w1.cell? ⟨w.heap.size + 1, 2, none⟩ = some (.string y2) := (blk_cell k1 2).trans rfl
    have g3 : w1.cell? ⟨w.heap.size + 1, 3, none⟩ = some (.slice B3 y3.length d3) := (blk_cell k1 3).trans rfl
    have g4 : w1.cell? ⟨w.heap.size + 1, 4, none⟩ = some (.slice B4 y4.length d4) := (blk_cell k1 4).trans rfl
    have HB1 := Lib.hid hB1; clear hB1 hb hC HK0 HK1 HF HB0
    have HK0 := Lib.hid k0; clear k0
    have HK1 := Lib.hid k1; clear k1
    cases fy with
    | false =>
      clear HH
      go_wp2_with fail
      refine hF.mono ?_; rintro e w2 ⟨rfl, hb⟩
      have HB := Lib.hid hb; clear hb hF g0 g1 g2 g3 g4
      go_wp2_with fail
      go_ret
      exact ⟨by simp, HB1.out.trans (HB.out.mono HB1.out.size)⟩
    | true =>
      go_wp2_with fail
      refine hF.mono ?_; rintro e w2 ⟨rfl, hb⟩
      have k1 := blk_below HK1.out hb
      have k0 := blk_below HK0.out hb
      have hB2 := HB1.out.trans (hb.mono HB1.out.size)
      have hH := HH.out w2 hB2 (by trivial) (by trivial)
      clear hF g0 g1 g2 g3 g4 HH HB1 HK0 HK1 hb
      have HB2 := Lib.hid hB2; clear hB2
      have f0 : w2.cell? ⟨w.heap.size, 0, none⟩ = some (.int .i64 x0) := (blk_cell k0 0).trans rfl
      have f1 : w2.cell? ⟨w.heap.size, 1, none⟩ = some (.int .i64 x1) := (blk_cell k0 1).trans rfl
      have f2 : w2.cell? ⟨w.heap.size, 2, none⟩ = some (.string x2) := (blk_cell k0 2).trans rfl
      have f3 : w2.cell? ⟨w.heap.size, 3, none⟩ = some (.slice A3 x3.length c3) := (blk_cell k0 3).trans rfl
      have f4 : w2.cell? ⟨w.heap.size, 4, none⟩ = some (.slice A4 x4.length c4) := (blk_cell k0 4).trans rfl
      have g0 : w2.cell? ⟨w.heap.size + 1, 0, none⟩ = some (.int .i64 y0) := (blk_cell k1 0).trans rfl
      have g1 : w2.cell? ⟨w.heap.size + 1, 1, none⟩ = some (.int .i64 y1) := (blk_cell k1 1).trans rfl
      have g2 : w2.cell? ⟨w.heap.size + 1, 2, none⟩ = some (.string y2) := (blk_cell k1 2).trans rfl
      have g3 : w2.cell? ⟨w.heap.size + 1, 3, none⟩ = some (.slice B3 y3.length d3) := (blk_cell k1 3).trans rfl
      have g4 : w2.cell? ⟨w.heap.size + 1, 4, none⟩ = some (.slice B4 y4.length d4) := (blk_cell k1 4).trans rfl
      clear k0 k1
      go_wp2_with fail
      refine hH.mono ?_; rintro e w3 ⟨rfl, hb⟩
      have HB := Lib.hid hb; clear hb hH f0 f1 f2 f3 f4 g0 g1 g2 g3 g4
      go_wp2_with fail
      go_ret
      exact ⟨by simp, HB2.out.trans (HB.out.mono HB2.out.size)⟩

theorem awake_true : HoldsJ ⟨6, 0, ⟨#[]⟩, [], []⟩ ⟨6, 0, ⟨#[]⟩, [], []⟩ = true := by decide +kernel

theorem empty_any (w : World) : Calls Tryd.prog 29 #[] w fun e w' => e = .returned (.agg #[.int .i64 6, .int .i64 0, .string ⟨#[]⟩, .slice none 0 0, .slice none 0 0]) ∧ Below w.heap.size w w' := by
  go_enter Tryd.func29, Tryd.ntmps29
  go_wp2_with fail
  refine bodyPost_ret (v := .agg #[.int .i64 6, .int .i64 0, .string ⟨#[]⟩, .slice none 0 0, .slice none 0 0]) ?_ rfl ?_
  · simp [results, Tryd.results29, go_sem]
  exact ⟨rfl, below_alloc (Below.refl _ _) _⟩

theorem rd_nil (w : World) (k : Int) (n : Int) (s : ByteArray) : Rd w none 0 none 0 ⟨k, n, s, [], []⟩ :=
  ⟨Nat.le_refl _, (rd_z25 w).g3, Nat.le_refl _, (rd_z25 w).g4⟩

theorem awake_any (w : World) (hT : Tabs w) : Calls Tryd.prog 11 #[] w fun e w' => e = .returned (.bool true) ∧ Below w.heap.size w w' := by
  have hH := fun W (hb : Below w.heap.size w W) => Holds_any ⟨6, 0, ⟨#[]⟩, [], []⟩ ⟨6, 0, ⟨#[]⟩, [], []⟩ none 0 none 0 none 0 none 0 W (rd_nil W 6 0 ⟨#[]⟩) (rd_nil W 6 0 ⟨#[]⟩) (hT.below hb)
  rw [awake_true] at hH
  have HH := Lib.hid hH; clear hH
  clear hT
  go_enter Tryd.func11, Tryd.ntmps11
  go_wp2_with fail
  refine (empty_any _).mono ?_; rintro e w1 ⟨rfl, hb1⟩
  have HB1 := Lib.hid hb1; clear hb1
  go_wp2_with fail
  refine (empty_any _).mono ?_; rintro e w2 ⟨rfl, hb2⟩
  have hB2 := HB1.out.trans (hb2.mono HB1.out.size)
  have HB2 := Lib.hid hB2; clear hB2 hb2
  go_wp2_with fail
  refine (HH.out _ HB2.out).mono ?_; rintro e w3 ⟨rfl, hb3⟩
  have HB3 := Lib.hid hb3; clear hb3
  go_wp2_with fail
  go_ret
  exact ⟨rfl, HB2.out.trans (HB3.out.mono HB2.out.size)⟩

end Go.Proofs.YtehdnjegipcpfaaDoor
