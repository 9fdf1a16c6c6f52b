/-
  The contract of order.Compare at formed values, under utf8's tables.
-/
import Derived.Test.YtehdnjegipcpfaaDoorL
namespace Go.Proofs.YtehdnjegipcpfaaDoor
open Go.RowKit Go.Proofs.YtehdnjegipcpfaaDoorW.PrintWords Go.Proofs.YtehdnjegipcpfaaDoorW.PrintLast Go.Proofs.YtehdnjegipcpfaaDoorW.PrintMore
open PFilterHolds Go.Shelf

theorem compare_any (k : Nat) (x y : S25) (hx : formedJ k x = true) (hy : formedJ k y = true) (A3 : Option Addr) (c3 : Nat) (A4 : Option Addr) (c4 : Nat) (B3 : Option Addr) (d3 : Nat) (B4 : Option Addr) (d4 : Nat) (w : World) (h : Rd w A3 c3 A4 c4 x) (h' : Rd w B3 d3 B4 d4 y) :
    Calls Tryd.prog 138 #[av x A3 c3 A4 c4, av y B3 d3 B4 d4] w fun e w' => e = .returned (.int .i64 (cmpF k x y)) ∧ Below w.heap.size w w' := by
  obtain ⟨m, e⟩ := cmp_tot k x y hx hy
  exact order_compare.calls m x.f0 x.f1 x.f2 A3 c3 x.f3 A4 c4 x.f4 y.f0 y.f1 y.f2 B3 d3 y.f3 B4 d4 y.f4 (cmpF k x y) w h.g3 h.l3 h.g4 h.l4 h'.g3 h'.l3 h'.g4 h'.l4 e

set_option maxHeartbeats 2000000 in
theorem Compare_any (x y : S25) (hx : fmJ x = true) (hy : fmJ y = true) (A3 : Option Addr) (c3 : Nat) (A4 : Option Addr) (c4 : Nat) (B3 : Option Addr) (d3 : Nat) (B4 : Option Addr) (d4 : Nat) (w : World) (h : Rd w A3 c3 A4 c4 x) (h' : Rd w B3 d3 B4 d4 y) (hT : Tabs w) :
    Calls Tryd.prog 114 #[av x A3 c3 A4 c4, av y B3 d3 B4 d4] w fun e w' => e = .returned (.int .i64 (cmpF 6 x y)) ∧ Below w.heap.size w w' := by
  have hb0 := two_boxes w (.cells #[.int .i64 x.f0, .int .i64 x.f1, .string x.f2, .slice A3 x.f3.length c3, .slice A4 x.f4.length c4] 25) (.cells #[.int .i64 y.f0, .int .i64 y.f1, .string y.f2, .slice B3 y.f3.length d3, .slice B4 y.f4.length d4] 25)
  have hk0 := two_boxes_0 w (.cells #[.int .i64 x.f0, .int .i64 x.f1, .string x.f2, .slice A3 x.f3.length c3, .slice A4 x.f4.length c4] 25) (.cells #[.int .i64 y.f0, .int .i64 y.f1, .string y.f2, .slice B3 y.f3.length d3, .slice B4 y.f4.length d4] 25)
  have hk1 := two_boxes_1 w (.cells #[.int .i64 x.f0, .int .i64 x.f1, .string x.f2, .slice A3 x.f3.length c3, .slice A4 x.f4.length c4] 25) (.cells #[.int .i64 y.f0, .int .i64 y.f1, .string y.f2, .slice B3 y.f3.length d3, .slice B4 y.f4.length d4] 25)
  have hX := Formed_any x A3 c3 A4 c4 _ (h.below hb0) (hT.below hb0)
  have hY := fun W (hb : Below w.heap.size w W) => Formed_any y B3 d3 B4 d4 W (h'.below hb) (hT.below hb)
  have hC := fun W (hb : Below w.heap.size w W) => compare_any 6 x y hx hy A3 c3 A4 c4 B3 d3 B4 d4 W (h.below hb) (h'.below hb)
  rw [hx] at hX
  rw [hy] at hY
  generalize cmpF 6 x y = r at hC ⊢
  obtain ⟨x0, x1, x2, x3, x4⟩ := x
  obtain ⟨y0, y1, y2, y3, y4⟩ := y
  have HB0 := Lib.hid hb0; clear hb0
  have HK0 := Lib.hid hk0; clear hk0
  have HK1 := Lib.hid hk1; clear hk1
  have HY := Lib.hid hY; clear hY
  have HC := Lib.hid hC; clear hC
  clear h h' hT hx hy
  go_enter Tryd.func114, Tryd.ntmps114
  go_wp2_with fail
  refine hX.mono ?_; rintro e w1 ⟨rfl, hb⟩
  have k0 := blk_below HK0.out hb
  have k1 := blk_below HK1.out hb
  have hB1 := HB0.out.trans (hb.mono HB0.out.size)
  have hY := HY.out w1 hB1
  have HB1 := Lib.hid hB1
  clear hb hB1 hX HY HB0 HK0 HK1
  have f0 : w1.cell? ⟨w.heap.size + 1, 0, none⟩ = some (.int .i64 y0) := (blk_cell k1 0).trans rfl
  have f1 : w1.cell? ⟨w.heap.size + 1, 1, none⟩ = some (.int .i64 y1) := (blk_cell k1 1).trans rfl
  have f2 : w1.cell? ⟨w.heap.size + 1, 2, none⟩ = some (.string y2) := (blk_cell k1 2).trans rfl
  have f3 : w1.cell? ⟨w.heap.size + 1, 3, none⟩ = some (.slice B3 y3.length d3) := (blk_cell k1 3).trans rfl
  have f4 : w1.cell? ⟨w.heap.size + 1, 4, none⟩ = some (.slice B4 y4.length d4) := (blk_cell k1 4).trans rfl
  have HK0 := Lib.hid k0; clear k0
  have HK1 := Lib.hid k1; clear k1
  go_wp2_with fail
  refine hY.mono ?_; rintro e w2 ⟨rfl, hb⟩
  have k0 := blk_below HK0.out hb
  have k1 := blk_below HK1.out hb
  have hB2 := HB1.out.trans (hb.mono HB1.out.size)
  have hC := HC.out w2 hB2
  have HB2 := Lib.hid hB2
  clear hb hB2 hY HC HB1 HK0 HK1 f0 f1 f2 f3 f4
  have g0 : w2.cell? ⟨w.heap.size, 0, none⟩ = some (.int .i64 x0) := (blk_cell k0 0).trans rfl
  have g1 : w2.cell? ⟨w.heap.size, 1, none⟩ = some (.int .i64 x1) := (blk_cell k0 1).trans rfl
  have g2 : w2.cell? ⟨w.heap.size, 2, none⟩ = some (.string x2) := (blk_cell k0 2).trans rfl
  have g3 : w2.cell? ⟨w.heap.size, 3, none⟩ = some (.slice A3 x3.length c3) := (blk_cell k0 3).trans rfl
  have g4 : w2.cell? ⟨w.heap.size, 4, none⟩ = some (.slice A4 x4.length c4) := (blk_cell k0 4).trans rfl
  have f0 : w2.cell? ⟨w.heap.size + 1, 0, none⟩ = some (.int .i64 y0) := (blk_cell k1 0).trans rfl
  have f1 : w2.cell? ⟨w.heap.size + 1, 1, none⟩ = some (.int .i64 y1) := (blk_cell k1 1).trans rfl
  have f2 : w2.cell? ⟨w.heap.size + 1, 2, none⟩ = some (.string y2) := (blk_cell k1 2).trans rfl
  have f3 : w2.cell? ⟨w.heap.size + 1, 3, none⟩ = some (.slice B3 y3.length d3) := (blk_cell k1 3).trans rfl
  have f4 : w2.cell? ⟨w.heap.size + 1, 4, none⟩ = some (.slice B4 y4.length d4) := (blk_cell k1 4).trans rfl
  clear k0 k1
  go_wp2_with fail
  refine hC.mono ?_; rintro e w3 ⟨rfl, hb⟩
  have HB3 := Lib.hid hb; clear hb hC f0 f1 f2 f3 f4 g0 g1 g2 g3 g4
  go_wp2_with fail
  go_ret
  exact ⟨rfl, HB2.out.trans (HB3.out.mono HB2.out.size)⟩

end Go.Proofs.YtehdnjegipcpfaaDoor
