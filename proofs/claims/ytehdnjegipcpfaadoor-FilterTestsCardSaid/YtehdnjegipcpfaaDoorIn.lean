/-
  The law FilterIn is walked: it answers true; under utf8's tables.
-/
import Derived.Test.YtehdnjegipcpfaaDoorAskB
import Derived.Test.YtehdnjegipcpfaaDoorPlain
namespace Go.Proofs.YtehdnjegipcpfaaDoor
open Go.RowKit Go.Proofs.YtehdnjegipcpfaaDoorW.PrintWords Go.Proofs.YtehdnjegipcpfaaDoorW.PrintLast Go.Proofs.YtehdnjegipcpfaaDoorW.PrintMore
open PFilterHolds Go.Shelf

theorem chkb_a {t : ByteArray} {v : S25} (ht : Tst t v) : (checkJ (ob sA (ob t v)) == 0) = formedJ 4 v := by
  rw [chk_a ht]
  cases formedJ 4 v <;> simp
theorem chkb_b {t : ByteArray} {v : S25} (ht : Tst t v) : (checkJ (ob sB (ob t v)) == 0) = formedJ 4 v := by
  rw [chk_b ht]
  cases formedJ 4 v <;> simp

/-- What is known of the memory once the document is made. -/
structure Dk (w : World) (n : Nat) (x a b : S25) (X3 : Option Addr) (x3 : Nat) (X4 : Option Addr) (x4 : Nat) (A3 : Option Addr) (c3 : Nat) (A4 : Option Addr) (c4 : Nat) (B3 : Option Addr) (d3 : Nat) (B4 : Option Addr) (d4 : Nat) (W : World) : Prop where
  bl : Below w.heap.size w W
  k0 : W.heap[w.heap.size]? = some (.cells (cs25 x X3 x3 X4 x4) 25 (0, 0))
  k1 : W.heap[w.heap.size + 1]? = some (.cells (cs25 a A3 c3 A4 c4) 25 (0, 0))
  k2 : W.heap[w.heap.size + 1 + 1]? = some (.cells (cs25 b B3 d3 B4 d4) 25 (0, 0))
  kd : W.heap[n + 1 + 1]? = some (.cells (cs25 (ob sA x) (some ⟨n, 0, none⟩) 1 (some ⟨n + 1, 0, none⟩) 1) 25 (0, 0))
  rd : Rd W (some ⟨n, 0, none⟩) 1 (some ⟨n + 1, 0, none⟩) 1 (ob sA x)

theorem Dk.below {w : World} {n : Nat} {x a b : S25} {X3 : Option Addr} {x3 : Nat} {X4 : Option Addr} {x4 : Nat} {A3 : Option Addr} {c3 : Nat} {A4 : Option Addr} {c4 : Nat} {B3 : Option Addr} {d3 : Nat} {B4 : Option Addr} {d4 : Nat} {W W' : World} (h : Dk w n x a b X3 x3 X4 x4 A3 c3 A4 c4 B3 d3 B4 d4 W) (hb : Below W.heap.size W W') : Dk w n x a b X3 x3 X4 x4 A3 c3 A4 c4 B3 d3 B4 d4 W' :=
  ⟨h.bl.trans (hb.mono h.bl.size), blk_below h.k0 hb, blk_below h.k1 hb, blk_below h.k2 hb, blk_below h.kd hb, h.rd.below hb⟩

theorem dk_made (w w2 : World) (x a b : S25) (X3 : Option Addr) (x3 : Nat) (X4 : Option Addr) (x4 : Nat) (A3 : Option Addr) (c3 : Nat) (A4 : Option Addr) (c4 : Nat) (B3 : Option Addr) (d3 : Nat) (B4 : Option Addr) (d4 : Nat) (hb : Below w.heap.size w w2) (k0 : w2.heap[w.heap.size]? = some (.cells (cs25 x X3 x3 X4 x4) 25 (0, 0))) (k1 : w2.heap[w.heap.size + 1]? = some (.cells (cs25 a A3 c3 A4 c4) 25 (0, 0))) (k2 : w2.heap[w.heap.size + 1 + 1]? = some (.cells (cs25 b B3 d3 B4 d4) 25 (0, 0))) (hx : Rd w X3 x3 X4 x4 x) :
    Dk w w2.heap.size x a b X3 x3 X4 x4 A3 c3 A4 c4 B3 d3 B4 d4 (allocs w2 [.cells #[.string sA] 9, .cells (cs25 x X3 x3 X4 x4) 25, .cells (cs25 (ob sA x) (some ⟨w2.heap.size, 0, none⟩) 1 (some ⟨w2.heap.size + 1, 0, none⟩) 1) 25]) := by
  generalize hl : ([_, _, _] : List Obj) = l
  have hB := allocs_below l w2
  have hW := hb.trans (hB.mono hb.size)
  have g0 := allocs_get l w2 0 _ (by rw [← hl]; rfl)
  have g1 := allocs_get l w2 1 _ (by rw [← hl]; rfl)
  have g2 := allocs_get l w2 2 _ (by rw [← hl]; rfl)
  exact ⟨hW, blk_below k0 hB, blk_below k1 hB, blk_below k2 hB, g2, rd_ob g0 g1 (hx.below hW)⟩

set_option maxRecDepth 100000 in
set_option maxHeartbeats 4000000 in
theorem in_any (x a b : S25) (X3 : Option Addr) (x3 : Nat) (X4 : Option Addr) (x4 : Nat) (A3 : Option Addr) (c3 : Nat) (A4 : Option Addr) (c4 : Nat) (B3 : Option Addr) (d3 : Nat) (B4 : Option Addr) (d4 : Nat) (w : World) (hx : Rd w X3 x3 X4 x4 x) (ha : Rd w A3 c3 A4 c4 a) (hb : Rd w B3 d3 B4 d4 b) (hT : Tabs w) :
    Calls Tryd.prog 6 #[av x X3 x3 X4 x4, av a A3 c3 A4 c4, av b B3 d3 B4 d4] w fun e w' => e = .returned (.bool true) ∧ Below w.heap.size w w' := by
  have hb0 := three_boxes w (.cells (cs25 x X3 x3 X4 x4) 25) (.cells (cs25 a A3 c3 A4 c4) 25) (.cells (cs25 b B3 d3 B4 d4) 25)
  have hk0 := three_boxes_0 w (.cells (cs25 x X3 x3 X4 x4) 25) (.cells (cs25 a A3 c3 A4 c4) 25) (.cells (cs25 b B3 d3 B4 d4) 25)
  have hk1 := three_boxes_1 w (.cells (cs25 x X3 x3 X4 x4) 25) (.cells (cs25 a A3 c3 A4 c4) 25) (.cells (cs25 b B3 d3 B4 d4) 25)
  have hk2 := three_boxes_2 w (.cells (cs25 x X3 x3 X4 x4) 25) (.cells (cs25 a A3 c3 A4 c4) 25) (.cells (cs25 b B3 d3 B4 d4) 25)
  have hAw := fun W (hb : Below w.heap.size w W) => awake_any W (hT.below hb)
  obtain ⟨rf, hFew⟩ := fewL_any [x, a, b] (by simp)
  have hA0 := hAw _ hb0
  have HB0 := Lib.hid hb0; clear hb0
  have HK0 := Lib.hid hk0; clear hk0
  have HK1 := Lib.hid hk1; clear hk1
  have HK2 := Lib.hid hk2; clear hk2
  have HAW := Lib.hid hAw; clear hAw
  have HFEW := Lib.hid hFew; clear hFew
  have HX := Lib.hid hx; clear hx
  have HA := Lib.hid ha; clear ha
  have HB := Lib.hid hb; clear hb
  have HT := Lib.hid hT; clear hT
  obtain ⟨x0, x1, x2, xs3, xs4⟩ := x
  obtain ⟨a0, a1, a2, as3, as4⟩ := a
  obtain ⟨b0, b1, b2, bs3, bs4⟩ := b
  go_enter Tryd.func6, Tryd.ntmps6
  go_wp2_with fail
  refine hA0.mono ?_; rintro e w1 ⟨rfl, hb⟩
  have hB1 := HB0.out.trans (hb.mono HB0.out.size)
  have k0 := blk_below HK0.out hb
  have k1 := blk_below HK1.out hb
  have k2 := blk_below HK2.out hb
  have HB1 := Lib.hid hB1; clear hB1 hA0
  clear hb HK0 HK1 HK2 HB0
  have p0 : w1.cell? ⟨w.heap.size, 0, none⟩ = some (.int .i64 x0) := (blk_cell k0 0).trans rfl
  have p1 : w1.cell? ⟨w.heap.size, 1, none⟩ = some (.int .i64 x1) := (blk_cell k0 1).trans rfl
  have p2 : w1.cell? ⟨w.heap.size, 2, none⟩ = some (.string x2) := (blk_cell k0 2).trans rfl
  have p3 : w1.cell? ⟨w.heap.size, 3, none⟩ = some (.slice X3 xs3.length x3) := (blk_cell k0 3).trans rfl
  have p4 : w1.cell? ⟨w.heap.size, 4, none⟩ = some (.slice X4 xs4.length x4) := (blk_cell k0 4).trans rfl
  have q0 : w1.cell? ⟨w.heap.size + 1, 0, none⟩ = some (.int .i64 a0) := (blk_cell k1 0).trans rfl
  have q1 : w1.cell? ⟨w.heap.size + 1, 1, none⟩ = some (.int .i64 a1) := (blk_cell k1 1).trans rfl
  have q2 : w1.cell? ⟨w.heap.size + 1, 2, none⟩ = some (.string a2) := (blk_cell k1 2).trans rfl
  have q3 : w1.cell? ⟨w.heap.size + 1, 3, none⟩ = some (.slice A3 as3.length c3) := (blk_cell k1 3).trans rfl
  have q4 : w1.cell? ⟨w.heap.size + 1, 4, none⟩ = some (.slice A4 as4.length c4) := (blk_cell k1 4).trans rfl
  have r0 : w1.cell? ⟨w.heap.size + 1 + 1, 0, none⟩ = some (.int .i64 b0) := (blk_cell k2 0).trans rfl
  have r1 : w1.cell? ⟨w.heap.size + 1 + 1, 1, none⟩ = some (.int .i64 b1) := (blk_cell k2 1).trans rfl
  have r2 : w1.cell? ⟨w.heap.size + 1 + 1, 2, none⟩ = some (.string b2) := (blk_cell k2 2).trans rfl
  have r3 : w1.cell? ⟨w.heap.size + 1 + 1, 3, none⟩ = some (.slice B3 bs3.length d3) := (blk_cell k2 3).trans rfl
  have r4 : w1.cell? ⟨w.heap.size + 1 + 1, 4, none⟩ = some (.slice B4 bs4.length d4) := (blk_cell k2 4).trans rfl
  have hNew := new_blk w1 (.cells #[.int .i64 x0, .int .i64 x1, .string x2, .slice X3 xs3.length x3, .slice X4 xs4.length x4, .int .i64 a0, .int .i64 a1, .string a2, .slice A3 as3.length c3, .slice A4 as4.length c4, .int .i64 b0, .int .i64 b1, .string b2, .slice B3 bs3.length d3, .slice B4 bs4.length d4] 25)
  have hBn : Below w.heap.size w (w1.alloc (.cells #[.int .i64 x0, .int .i64 x1, .string x2, .slice X3 xs3.length x3, .slice X4 xs4.length x4, .int .i64 a0, .int .i64 a1, .string a2, .slice A3 as3.length c3, .slice A4 as4.length c4, .int .i64 b0, .int .i64 b1, .string b2, .slice B3 bs3.length d3, .slice B4 bs4.length d4] 25)) := below_alloc HB1.out _
  have hF1 := HFEW.out _ 3 _ (c_three hNew (HX.out.below hBn) (HA.out.below hBn) (HB.out.below hBn)) (by simp)
  have hsl : ([⟨x0, x1, x2, xs3, xs4⟩, ⟨a0, a1, a2, as3, as4⟩, ⟨b0, b1, b2, bs3, bs4⟩] : List S25).length = 3 := rfl
  rw [hsl] at hF1
  clear hsl hNew
  have K0 := Lib.hid (blk_alloc k0 (.cells #[.int .i64 x0, .int .i64 x1, .string x2, .slice X3 xs3.length x3, .slice X4 xs4.length x4, .int .i64 a0, .int .i64 a1, .string a2, .slice A3 as3.length c3, .slice A4 as4.length c4, .int .i64 b0, .int .i64 b1, .string b2, .slice B3 bs3.length d3, .slice B4 bs4.length d4] 25))
  have K1 := Lib.hid (blk_alloc k1 (.cells #[.int .i64 x0, .int .i64 x1, .string x2, .slice X3 xs3.length x3, .slice X4 xs4.length x4, .int .i64 a0, .int .i64 a1, .string a2, .slice A3 as3.length c3, .slice A4 as4.length c4, .int .i64 b0, .int .i64 b1, .string b2, .slice B3 bs3.length d3, .slice B4 bs4.length d4] 25))
  have K2 := Lib.hid (blk_alloc k2 (.cells #[.int .i64 x0, .int .i64 x1, .string x2, .slice X3 xs3.length x3, .slice X4 xs4.length x4, .int .i64 a0, .int .i64 a1, .string a2, .slice A3 as3.length c3, .slice A4 as4.length c4, .int .i64 b0, .int .i64 b1, .string b2, .slice B3 bs3.length d3, .slice B4 bs4.length d4] 25))
  have HBN := Lib.hid hBn; clear hBn k0 k1 k2
  go_wp2_with fail
  refine hF1.mono ?_; rintro e w2 ⟨rfl, hb⟩
  have hB2 := HBN.out.trans (hb.mono HBN.out.size)
  have k0 := blk_below K0.out hb
  have k1 := blk_below K1.out hb
  have k2 := blk_below K2.out hb
  have HB2 := Lib.hid hB2; clear hB2 hF1 hb
  clear p0 p1 p2 p3 p4 q0 q1 q2 q3 q4 r0 r1 r2 r3 r4 K0 K1 K2 HBN HB1
  cases rf with
  | false =>
    have hA := HAW.out w2 HB2.out
    go_wp2_with fail
    refine hA.mono ?_; rintro e w3 ⟨rfl, hb⟩
    have HB3 := Lib.hid hb; clear hb hA
    go_wp2_with fail
    go_ret
    exact ⟨rfl, HB2.out.trans (HB3.out.mono HB2.out.size)⟩
  | true =>
    have hlt2 : w.heap.size + 1 + 1 < w2.heap.size := blk_lt k2
    have n0_0 : w.heap.size < w2.heap.size := by omega
    have n1_0 : w.heap.size + 1 < w2.heap.size := by omega
    have n2_0 : w.heap.size + 1 + 1 < w2.heap.size := by omega
    have n0_1 : w.heap.size < w2.heap.size + 1 := by omega
    have n1_1 : w.heap.size + 1 < w2.heap.size + 1 := by omega
    have n2_1 : w.heap.size + 1 + 1 < w2.heap.size + 1 := by omega
    have n0_2 : w.heap.size < w2.heap.size + 1 + 1 := by omega
    have n1_2 : w.heap.size + 1 < w2.heap.size + 1 + 1 := by omega
    have n2_2 : w.heap.size + 1 + 1 < w2.heap.size + 1 + 1 := by omega
    have n0_3 : w.heap.size < w2.heap.size + 1 + 1 + 1 := by omega
    have n1_3 : w.heap.size + 1 < w2.heap.size + 1 + 1 + 1 := by omega
    have n2_3 : w.heap.size + 1 + 1 < w2.heap.size + 1 + 1 + 1 := by omega
    have n0_4 : w.heap.size < w2.heap.size + 1 + 1 + 1 + 1 := by omega
    have n1_4 : w.heap.size + 1 < w2.heap.size + 1 + 1 + 1 + 1 := by omega
    have n2_4 : w.heap.size + 1 + 1 < w2.heap.size + 1 + 1 + 1 + 1 := by omega
    have n0_5 : w.heap.size < w2.heap.size + 1 + 1 + 1 + 1 + 1 := by omega
    have n1_5 : w.heap.size + 1 < w2.heap.size + 1 + 1 + 1 + 1 + 1 := by omega
    have n2_5 : w.heap.size + 1 + 1 < w2.heap.size + 1 + 1 + 1 + 1 + 1 := by omega
    have n0_6 : w.heap.size < w2.heap.size + 1 + 1 + 1 + 1 + 1 + 1 := by omega
    have n1_6 : w.heap.size + 1 < w2.heap.size + 1 + 1 + 1 + 1 + 1 + 1 := by omega
    have n2_6 : w.heap.size + 1 + 1 < w2.heap.size + 1 + 1 + 1 + 1 + 1 + 1 := by omega
    have n0_7 : w.heap.size < w2.heap.size + 1 + 1 + 1 + 1 + 1 + 1 + 1 := by omega
    have n1_7 : w.heap.size + 1 < w2.heap.size + 1 + 1 + 1 + 1 + 1 + 1 + 1 := by omega
    have n2_7 : w.heap.size + 1 + 1 < w2.heap.size + 1 + 1 + 1 + 1 + 1 + 1 + 1 := by omega
    have p0 : w2.cell? ⟨w.heap.size, 0, none⟩ = some (.int .i64 x0) := (blk_cell k0 0).trans rfl
    have p1 : w2.cell? ⟨w.heap.size, 1, none⟩ = some (.int .i64 x1) := (blk_cell k0 1).trans rfl
    have p2 : w2.cell? ⟨w.heap.size, 2, none⟩ = some (.string x2) := (blk_cell k0 2).trans rfl
    have p3 : w2.cell? ⟨w.heap.size, 3, none⟩ = some (.slice X3 xs3.length x3) := (blk_cell k0 3).trans rfl
    have p4 : w2.cell? ⟨w.heap.size, 4, none⟩ = some (.slice X4 xs4.length x4) := (blk_cell k0 4).trans rfl
    have hD := dk_made w w2 ⟨x0, x1, x2, xs3, xs4⟩ ⟨a0, a1, a2, as3, as4⟩ ⟨b0, b1, b2, bs3, bs4⟩ X3 x3 X4 x4 A3 c3 A4 c4 B3 d3 B4 d4 HB2.out k0 k1 k2 HX.out
    have HD := Lib.hid hD; clear hD
    clear k0 k1 k2 HAW HFEW
    go_upto_region 4 with fail
    refine any_world (fun W => Dk w w2.heap.size ⟨x0, x1, x2, xs3, xs4⟩ ⟨a0, a1, a2, as3, as4⟩ ⟨b0, b1, b2, bs3, bs4⟩ X3 x3 X4 x4 A3 c3 A4 c4 B3 d3 B4 d4 W) HD.out ?_
    intro W hD
    have HDW := Lib.hid hD
    clear p0 p1 p2 p3 p4 HD HB2
    have m0 : W.cell? ⟨w2.heap.size + 1 + 1, 0, none⟩ = some (.int .i64 6) := (blk_cell hD.kd 0).trans rfl
    have m1 : W.cell? ⟨w2.heap.size + 1 + 1, 1, none⟩ = some (.int .i64 0) := (blk_cell hD.kd 1).trans rfl
    have m2 : W.cell? ⟨w2.heap.size + 1 + 1, 2, none⟩ = some (.string ⟨#[]⟩) := (blk_cell hD.kd 2).trans rfl
    have m3 : W.cell? ⟨w2.heap.size + 1 + 1, 3, none⟩ = some (.slice (some ⟨w2.heap.size, 0, none⟩) 1 1) := (blk_cell hD.kd 3).trans rfl
    have m4 : W.cell? ⟨w2.heap.size + 1 + 1, 4, none⟩ = some (.slice (some ⟨w2.heap.size + 1, 0, none⟩) 1 1) := (blk_cell hD.kd 4).trans rfl
    have hF := Formed_any (ob sA ⟨x0, x1, x2, xs3, xs4⟩) (some ⟨w2.heap.size, 0, none⟩) 1 (some ⟨w2.heap.size + 1, 0, none⟩) 1 W hD.rd (HT.out.below hD.bl)
    clear hD
    obtain ⟨fd, hfd⟩ : ∃ z, fmJ (ob sA ⟨x0, x1, x2, xs3, xs4⟩) = z := ⟨_, rfl⟩
    rw [hfd] at hF
    have HFD := Lib.hid hfd; clear hfd
    go_wp2_with fail
    refine hF.mono ?_; rintro e w4 ⟨rfl, hb⟩
    have hD := HDW.out.below hb
    have HD4 := Lib.hid hD; clear hD hb hF m0 m1 m2 m3 m4 HDW
    cases fd with
    | false =>
      go_wp2_with fail
      go_ret
      exact ⟨rfl, HD4.out.bl⟩
    | true =>
      have hlt4 : w2.heap.size + 1 + 1 < w4.heap.size := blk_lt HD4.out.kd
      have hlt5 : w.heap.size + 1 + 1 < w4.heap.size := blk_lt HD4.out.k2
      have m0 : w4.cell? ⟨w2.heap.size + 1 + 1, 0, none⟩ = some (.int .i64 6) := (blk_cell HD4.out.kd 0).trans rfl
      have m1 : w4.cell? ⟨w2.heap.size + 1 + 1, 1, none⟩ = some (.int .i64 0) := (blk_cell HD4.out.kd 1).trans rfl
      have m2 : w4.cell? ⟨w2.heap.size + 1 + 1, 2, none⟩ = some (.string ⟨#[]⟩) := (blk_cell HD4.out.kd 2).trans rfl
      have m3 : w4.cell? ⟨w2.heap.size + 1 + 1, 3, none⟩ = some (.slice (some ⟨w2.heap.size, 0, none⟩) 1 1) := (blk_cell HD4.out.kd 3).trans rfl
      have m4 : w4.cell? ⟨w2.heap.size + 1 + 1, 4, none⟩ = some (.slice (some ⟨w2.heap.size + 1, 0, none⟩) 1 1) := (blk_cell HD4.out.kd 4).trans rfl
      have q0 : w4.cell? ⟨w.heap.size + 1, 0, none⟩ = some (.int .i64 a0) := (blk_cell HD4.out.k1 0).trans rfl
      have q1 : w4.cell? ⟨w.heap.size + 1, 1, none⟩ = some (.int .i64 a1) := (blk_cell HD4.out.k1 1).trans rfl
      have q2 : w4.cell? ⟨w.heap.size + 1, 2, none⟩ = some (.string a2) := (blk_cell HD4.out.k1 2).trans rfl
      have q3 : w4.cell? ⟨w.heap.size + 1, 3, none⟩ = some (.slice A3 as3.length c3) := (blk_cell HD4.out.k1 3).trans rfl
      have q4 : w4.cell? ⟨w.heap.size + 1, 4, none⟩ = some (.slice A4 as4.length c4) := (blk_cell HD4.out.k1 4).trans rfl
      have r0 : w4.cell? ⟨w.heap.size + 1 + 1, 0, none⟩ = some (.int .i64 b0) := (blk_cell HD4.out.k2 0).trans rfl
      have r1 : w4.cell? ⟨w.heap.size + 1 + 1, 1, none⟩ = some (.int .i64 b1) := (blk_cell HD4.out.k2 1).trans rfl
      have r2 : w4.cell? ⟨w.heap.size + 1 + 1, 2, none⟩ = some (.string b2) := (blk_cell HD4.out.k2 2).trans rfl
      have r3 : w4.cell? ⟨w.heap.size + 1 + 1, 3, none⟩ = some (.slice B3 bs3.length d3) := (blk_cell HD4.out.k2 3).trans rfl
      have r4 : w4.cell? ⟨w.heap.size + 1 + 1, 4, none⟩ = some (.slice B4 bs4.length d4) := (blk_cell HD4.out.k2 4).trans rfl
      have hbn : Below w4.heap.size w4 (w4.alloc (.cells #[.int .i64 a0, .int .i64 a1, .string a2, .slice A3 as3.length c3, .slice A4 as4.length c4, .int .i64 b0, .int .i64 b1, .string b2, .slice B3 bs3.length d3, .slice B4 bs4.length d4] 25)) := below_alloc (Below.refl _ w4) _
      have hDn := HD4.out.below hbn
      have hC := ask_any sA sIn (ob sA ⟨x0, x1, x2, xs3, xs4⟩) (both ⟨a0, a1, a2, as3, as4⟩ ⟨b0, b1, b2, bs3, bs4⟩) (some ⟨w2.heap.size, 0, none⟩) 1 (some ⟨w2.heap.size + 1, 0, none⟩) 1 _ _ _ _ _ hDn.rd (rd_both (new_blk w4 (.cells #[.int .i64 a0, .int .i64 a1, .string a2, .slice A3 as3.length c3, .slice A4 as4.length c4, .int .i64 b0, .int .i64 b1, .string b2, .slice B3 bs3.length d3, .slice B4 bs4.length d4] 25)) (HA.out.below hDn.bl) (HB.out.below hDn.bl)) (HT.out.below hDn.bl)
      rw [chkb_a (tst_in _ rfl)] at hC
      have hIf := fun h4 => in_law (x := ⟨x0, x1, x2, xs3, xs4⟩) (a := ⟨a0, a1, a2, as3, as4⟩) (b := ⟨b0, b1, b2, bs3, bs4⟩) HFD.out h4
      have hEa := fun h4 => eq_law (x := ⟨x0, x1, x2, xs3, xs4⟩) (a := ⟨a0, a1, a2, as3, as4⟩) HFD.out h4
      have hEb := fun h4 => eq_law (x := ⟨x0, x1, x2, xs3, xs4⟩) (a := ⟨b0, b1, b2, bs3, bs4⟩) HFD.out h4
      generalize HoldsJ (ob sA (ob sIn (both ⟨a0, a1, a2, as3, as4⟩ ⟨b0, b1, b2, bs3, bs4⟩))) (ob sA ⟨x0, x1, x2, xs3, xs4⟩) = I at hC hIf
      generalize formedJ 4 (both ⟨a0, a1, a2, as3, as4⟩ ⟨b0, b1, b2, bs3, bs4⟩) = fI at hC hIf
      have HDN := Lib.hid hDn
      have HIF := Lib.hid hIf
      have HEA := Lib.hid hEa
      have HEB := Lib.hid hEb
      clear hDn hbn HD4 hIf hEa hEb
      go_wp2_with fail
      refine hC.mono ?_; rintro e w5 ⟨rfl, hb⟩
      have hD := HDN.out.below hb
      have HD5 := Lib.hid hD; clear hD hb hC HDN m0 m1 m2 m3 m4 q0 q1 q2 q3 q4 r0 r1 r2 r3 r4
      have m0 : w5.cell? ⟨w2.heap.size + 1 + 1, 0, none⟩ = some (.int .i64 6) := (blk_cell HD5.out.kd 0).trans rfl
      have m1 : w5.cell? ⟨w2.heap.size + 1 + 1, 1, none⟩ = some (.int .i64 0) := (blk_cell HD5.out.kd 1).trans rfl
      have m2 : w5.cell? ⟨w2.heap.size + 1 + 1, 2, none⟩ = some (.string ⟨#[]⟩) := (blk_cell HD5.out.kd 2).trans rfl
      have m3 : w5.cell? ⟨w2.heap.size + 1 + 1, 3, none⟩ = some (.slice (some ⟨w2.heap.size, 0, none⟩) 1 1) := (blk_cell HD5.out.kd 3).trans rfl
      have m4 : w5.cell? ⟨w2.heap.size + 1 + 1, 4, none⟩ = some (.slice (some ⟨w2.heap.size + 1, 0, none⟩) 1 1) := (blk_cell HD5.out.kd 4).trans rfl
      have q0 : w5.cell? ⟨w.heap.size + 1, 0, none⟩ = some (.int .i64 a0) := (blk_cell HD5.out.k1 0).trans rfl
      have q1 : w5.cell? ⟨w.heap.size + 1, 1, none⟩ = some (.int .i64 a1) := (blk_cell HD5.out.k1 1).trans rfl
      have q2 : w5.cell? ⟨w.heap.size + 1, 2, none⟩ = some (.string a2) := (blk_cell HD5.out.k1 2).trans rfl
      have q3 : w5.cell? ⟨w.heap.size + 1, 3, none⟩ = some (.slice A3 as3.length c3) := (blk_cell HD5.out.k1 3).trans rfl
      have q4 : w5.cell? ⟨w.heap.size + 1, 4, none⟩ = some (.slice A4 as4.length c4) := (blk_cell HD5.out.k1 4).trans rfl
      have hC := ask_any sA sEq (ob sA ⟨x0, x1, x2, xs3, xs4⟩) ⟨a0, a1, a2, as3, as4⟩ (some ⟨w2.heap.size, 0, none⟩) 1 (some ⟨w2.heap.size + 1, 0, none⟩) 1 A3 c3 A4 c4 w5 HD5.out.rd (HA.out.below HD5.out.bl) (HT.out.below HD5.out.bl)
      rw [chkb_a (tst_eq _)] at hC
      have hEa := HEA.out
      generalize HoldsJ (ob sA (ob sEq ⟨a0, a1, a2, as3, as4⟩)) (ob sA ⟨x0, x1, x2, xs3, xs4⟩) = E1 at hC hEa
      generalize formedJ 4 ⟨a0, a1, a2, as3, as4⟩ = fA at hC hEa
      have HEA2 := Lib.hid hEa
      clear hEa HEA
      go_wp2_with fail
      refine hC.mono ?_; rintro e w6 ⟨rfl, hb⟩
      have hD := HD5.out.below hb
      have HD6 := Lib.hid hD; clear hD hb hC HD5 m0 m1 m2 m3 m4 q0 q1 q2 q3 q4
      have m0 : w6.cell? ⟨w2.heap.size + 1 + 1, 0, none⟩ = some (.int .i64 6) := (blk_cell HD6.out.kd 0).trans rfl
      have m1 : w6.cell? ⟨w2.heap.size + 1 + 1, 1, none⟩ = some (.int .i64 0) := (blk_cell HD6.out.kd 1).trans rfl
      have m2 : w6.cell? ⟨w2.heap.size + 1 + 1, 2, none⟩ = some (.string ⟨#[]⟩) := (blk_cell HD6.out.kd 2).trans rfl
      have m3 : w6.cell? ⟨w2.heap.size + 1 + 1, 3, none⟩ = some (.slice (some ⟨w2.heap.size, 0, none⟩) 1 1) := (blk_cell HD6.out.kd 3).trans rfl
      have m4 : w6.cell? ⟨w2.heap.size + 1 + 1, 4, none⟩ = some (.slice (some ⟨w2.heap.size + 1, 0, none⟩) 1 1) := (blk_cell HD6.out.kd 4).trans rfl
      have r0 : w6.cell? ⟨w.heap.size + 1 + 1, 0, none⟩ = some (.int .i64 b0) := (blk_cell HD6.out.k2 0).trans rfl
      have r1 : w6.cell? ⟨w.heap.size + 1 + 1, 1, none⟩ = some (.int .i64 b1) := (blk_cell HD6.out.k2 1).trans rfl
      have r2 : w6.cell? ⟨w.heap.size + 1 + 1, 2, none⟩ = some (.string b2) := (blk_cell HD6.out.k2 2).trans rfl
      have r3 : w6.cell? ⟨w.heap.size + 1 + 1, 3, none⟩ = some (.slice B3 bs3.length d3) := (blk_cell HD6.out.k2 3).trans rfl
      have r4 : w6.cell? ⟨w.heap.size + 1 + 1, 4, none⟩ = some (.slice B4 bs4.length d4) := (blk_cell HD6.out.k2 4).trans rfl
      have hC := ask_any sA sEq (ob sA ⟨x0, x1, x2, xs3, xs4⟩) ⟨b0, b1, b2, bs3, bs4⟩ (some ⟨w2.heap.size, 0, none⟩) 1 (some ⟨w2.heap.size + 1, 0, none⟩) 1 B3 d3 B4 d4 w6 HD6.out.rd (HB.out.below HD6.out.bl) (HT.out.below HD6.out.bl)
      rw [chkb_a (tst_eq _)] at hC
      have hEb := HEB.out
      generalize HoldsJ (ob sA (ob sEq ⟨b0, b1, b2, bs3, bs4⟩)) (ob sA ⟨x0, x1, x2, xs3, xs4⟩) = E2 at hC hEb
      generalize formedJ 4 ⟨b0, b1, b2, bs3, bs4⟩ = fB at hC hEb
      have HEB2 := Lib.hid hEb
      clear hEb HEB
      go_wp2_with fail
      refine hC.mono ?_; rintro e w7 ⟨rfl, hb⟩
      have hD := HD6.out.below hb
      have HD7 := Lib.hid hD; clear hD hb hC HD6 m0 m1 m2 m3 m4 r0 r1 r2 r3 r4
      cases fI with
      | false =>
        go_wp2_with fail
        go_ret
        exact ⟨rfl, HD7.out.bl⟩
      | true =>
      cases fA with
      | false =>
        go_wp2_with fail
        go_ret
        exact ⟨rfl, HD7.out.bl⟩
      | true =>
      cases fB with
      | false =>
        go_wp2_with fail
        go_ret
        exact ⟨rfl, HD7.out.bl⟩
      | true =>
        have i1 := HIF.out rfl
        rw [← HEA2.out rfl, ← HEB2.out rfl] at i1
        subst i1
        cases E1 with
        | false =>
          cases E2 with
          | false =>
            go_wp2_with fail
            go_ret
            exact ⟨rfl, HD7.out.bl⟩
          | true =>
            go_wp2_with fail
            go_ret
            exact ⟨rfl, HD7.out.bl⟩
        | true =>
          cases E2 with
          | false =>
            go_wp2_with fail
            go_ret
            exact ⟨rfl, HD7.out.bl⟩
          | true =>
            go_wp2_with fail
            go_ret
            exact ⟨rfl, HD7.out.bl⟩

end Go.Proofs.YtehdnjegipcpfaaDoor
