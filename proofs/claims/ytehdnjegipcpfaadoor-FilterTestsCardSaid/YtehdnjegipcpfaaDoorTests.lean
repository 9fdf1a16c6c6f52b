/-
  The law FilterTests is walked: it answers true; under utf8's tables.
-/
import Derived.Test.YtehdnjegipcpfaaDoorIn
namespace Go.Proofs.YtehdnjegipcpfaaDoor
open Go.RowKit Go.Proofs.YtehdnjegipcpfaaDoorW.PrintWords Go.Proofs.YtehdnjegipcpfaaDoorW.PrintLast Go.Proofs.YtehdnjegipcpfaaDoorW.PrintMore
open PFilterHolds Go.Shelf

structure Ek (w : World) (n : Nat) (x a : S25) (X3 : Option Addr) (x3 : Nat) (X4 : Option Addr) (x4 : Nat) (A3 : Option Addr) (c3 : Nat) (A4 : Option Addr) (c4 : Nat) (W : World) : Prop where
  bl : Below w.heap.size w W
  k0 : W.heap[w.heap.size]? = some (.cells (cs25 x X3 x3 X4 x4) 25 (0, 0))
  k1 : W.heap[w.heap.size + 1]? = some (.cells (cs25 a A3 c3 A4 c4) 25 (0, 0))
  kd : W.heap[n + 1 + 1]? = some (.cells (cs25 (ob sA x) (some ⟨n, 0, none⟩) 1 (some ⟨n + 1, 0, none⟩) 1) 25 (0, 0))
  rd : Rd W (some ⟨n, 0, none⟩) 1 (some ⟨n + 1, 0, none⟩) 1 (ob sA x)

theorem Ek.below {w : World} {n : Nat} {x a : S25} {X3 : Option Addr} {x3 : Nat} {X4 : Option Addr} {x4 : Nat} {A3 : Option Addr} {c3 : Nat} {A4 : Option Addr} {c4 : Nat} {W W' : World} (h : Ek w n x a X3 x3 X4 x4 A3 c3 A4 c4 W) (hb : Below W.heap.size W W') : Ek w n x a X3 x3 X4 x4 A3 c3 A4 c4 W' :=
  ⟨h.bl.trans (hb.mono h.bl.size), blk_below h.k0 hb, blk_below h.k1 hb, blk_below h.kd hb, h.rd.below hb⟩

theorem ek_made (w w2 : World) (x a : S25) (X3 : Option Addr) (x3 : Nat) (X4 : Option Addr) (x4 : Nat) (A3 : Option Addr) (c3 : Nat) (A4 : Option Addr) (c4 : Nat) (hb : Below w.heap.size w w2) (k0 : w2.heap[w.heap.size]? = some (.cells (cs25 x X3 x3 X4 x4) 25 (0, 0))) (k1 : w2.heap[w.heap.size + 1]? = some (.cells (cs25 a A3 c3 A4 c4) 25 (0, 0))) (hx : Rd w X3 x3 X4 x4 x) :
    Ek w w2.heap.size x a X3 x3 X4 x4 A3 c3 A4 c4 (allocs w2 [.cells #[.string sA] 9, .cells (cs25 x X3 x3 X4 x4) 25, .cells (cs25 (ob sA x) (some ⟨w2.heap.size, 0, none⟩) 1 (some ⟨w2.heap.size + 1, 0, none⟩) 1) 25]) := by
  generalize hl : ([_, _, _] : List Obj) = l
  have hB := allocs_below l w2
  have hW := hb.trans (hB.mono hb.size)
  have g0 := allocs_get l w2 0 _ (by rw [← hl]; rfl)
  have g1 := allocs_get l w2 1 _ (by rw [← hl]; rfl)
  have g2 := allocs_get l w2 2 _ (by rw [← hl]; rfl)
  exact ⟨hW, blk_below k0 hB, blk_below k1 hB, g2, rd_ob g0 g1 (hx.below hW)⟩

/-- The six tests of a member that is there go together. -/
theorem six (c : Int) : (decide (c < 0) = true ∧ (c == 0) = false ∧ decide (c > 0) = false ∧ decide (c ≤ 0) = true ∧ decide (c ≥ 0) = false ∧ (c != 0) = true) ∨ (decide (c < 0) = false ∧ (c == 0) = true ∧ decide (c > 0) = false ∧ decide (c ≤ 0) = true ∧ decide (c ≥ 0) = true ∧ (c != 0) = false) ∨ (decide (c < 0) = false ∧ (c == 0) = false ∧ decide (c > 0) = true ∧ decide (c ≤ 0) = false ∧ decide (c ≥ 0) = true ∧ (c != 0) = true) := by
  rcases Int.lt_trichotomy c 0 with h | h | h
  · left; simp only [bne, decide_eq_true_eq, decide_eq_false_iff_not, beq_eq_false_iff_ne, Bool.not_eq_true', ne_eq]; omega
  · right; left; subst h; decide
  · right; right; simp only [bne, decide_eq_true_eq, decide_eq_false_iff_not, beq_eq_false_iff_ne, Bool.not_eq_true', ne_eq]; omega

theorem false_formed : formedJ 4 ⟨1, 0, ⟨#[]⟩, [], []⟩ = true := by decide +kernel

set_option maxRecDepth 100000 in
set_option maxHeartbeats 8000000 in
theorem tests_law (x a : S25) (X3 : Option Addr) (x3 : Nat) (X4 : Option Addr) (x4 : Nat) (A3 : Option Addr) (c3 : Nat) (A4 : Option Addr) (c4 : Nat) (w : World) (hx : Rd w X3 x3 X4 x4 x) (ha : Rd w A3 c3 A4 c4 a) (hT : Tabs w) :
    Calls Tryd.prog 5 #[av x X3 x3 X4 x4, av a A3 c3 A4 c4] w fun e w' => e = .returned (.bool true) ∧ Below w.heap.size w w' := by
  have hb0 := two_boxes w (.cells (cs25 x X3 x3 X4 x4) 25) (.cells (cs25 a A3 c3 A4 c4) 25)
  have hk0 := two_boxes_0 w (.cells (cs25 x X3 x3 X4 x4) 25) (.cells (cs25 a A3 c3 A4 c4) 25)
  have hk1 := two_boxes_1 w (.cells (cs25 x X3 x3 X4 x4) 25) (.cells (cs25 a A3 c3 A4 c4) 25)
  have hAw := fun W (hb : Below w.heap.size w W) => awake_any W (hT.below hb)
  obtain ⟨rf, hFew⟩ := fewL_any [x, a] (by simp)
  have hFx := fun W (hb : Below w.heap.size w W) => Formed_any x X3 x3 X4 x4 W (hx.below hb) (hT.below hb)
  have hFa := fun W (hb : Below w.heap.size w W) => Formed_any a A3 c3 A4 c4 W (ha.below hb) (hT.below hb)
  have hA0 := hAw _ hb0
  have HB0 := Lib.hid hb0; clear hb0
  have HK0 := Lib.hid hk0; clear hk0
  have HK1 := Lib.hid hk1; clear hk1
  have HAW := Lib.hid hAw; clear hAw
  have HFEW := Lib.hid hFew; clear hFew
  have HFX := Lib.hid hFx; clear hFx
  have HFA := Lib.hid hFa; clear hFa
  have HX := Lib.hid hx; clear hx
  have HA := Lib.hid ha; clear ha
  have HT := Lib.hid hT; clear hT
  obtain ⟨x0, x1, x2, xs3, xs4⟩ := x
  obtain ⟨a0, a1, a2, as3, as4⟩ := a
  go_enter Tryd.func5, Tryd.ntmps5
  go_wp2_with fail
  refine hA0.mono ?_; rintro e w1 ⟨rfl, hb⟩
  have hB1 := HB0.out.trans (hb.mono HB0.out.size)
  have k0 := blk_below HK0.out hb
  have k1 := blk_below HK1.out hb
  have HB1 := Lib.hid hB1; clear hB1 hA0
  clear hb HK0 HK1 HB0
  have p0 : w1.cell? ⟨w.heap.size, 0, none⟩ = some (.int .i64 x0) := (blk_cell k0 0).trans rfl
  have p1 : w1.cell? ⟨w.heap.size, 1, none⟩ = some (.int .i64 x1) := (blk_cell k0 1).trans rfl
  have p2 : w1.cell? ⟨w.heap.size, 2, none⟩ = some (.string x2) := (blk_cell k0 2).trans rfl
  have p3 : w1.cell? ⟨w.heap.size, 3, none⟩ = some (.slice X3 xs3.length x3) := (blk_cell k0 3).trans rfl
  have p4 : w1.cell? ⟨w.heap.size, 4, none⟩ = some (.slice X4 xs4.length x4) := (blk_cell k0 4).trans rfl
  have q0 : w1.cell? ⟨w.heap.size + 1, 0, none⟩ = some (.int .i64 a0) := (blk_cell k1 0).trans rfl
  have q1 : w1.cell? ⟨w.heap.size + 1, 1, none⟩ = some (.int .i64 a1) := (blk_cell k1 1).trans rfl
  have q2 : w1.cell? ⟨w.heap.size + 1, 2, none⟩ = some (.string a2) := (blk_cell k1 2).trans rfl
  have q3 : w1.cell? ⟨w.heap.size + 1, 3, none⟩ = some (.slice A3 as3.length c3) := (blk_cell k1 3).trans rfl
  have q4 : w1.cell? ⟨w.heap.size + 1, 4, none⟩ = some (.slice A4 as4.length c4) := (blk_cell k1 4).trans rfl
  have hNew := new_blk w1 (.cells #[.int .i64 x0, .int .i64 x1, .string x2, .slice X3 xs3.length x3, .slice X4 xs4.length x4, .int .i64 a0, .int .i64 a1, .string a2, .slice A3 as3.length c3, .slice A4 as4.length c4] 25)
  have hBn : Below w.heap.size w (w1.alloc (.cells #[.int .i64 x0, .int .i64 x1, .string x2, .slice X3 xs3.length x3, .slice X4 xs4.length x4, .int .i64 a0, .int .i64 a1, .string a2, .slice A3 as3.length c3, .slice A4 as4.length c4] 25)) := below_alloc HB1.out _
  have hF1 := HFEW.out _ 2 _ (c_two hNew (HX.out.below hBn) (HA.out.below hBn)) (by simp)
  have hsl : ([⟨x0, x1, x2, xs3, xs4⟩, ⟨a0, a1, a2, as3, as4⟩] : List S25).length = 2 := rfl
  rw [hsl] at hF1
  clear hsl hNew
  have K0 := Lib.hid (blk_alloc k0 (.cells #[.int .i64 x0, .int .i64 x1, .string x2, .slice X3 xs3.length x3, .slice X4 xs4.length x4, .int .i64 a0, .int .i64 a1, .string a2, .slice A3 as3.length c3, .slice A4 as4.length c4] 25))
  have K1 := Lib.hid (blk_alloc k1 (.cells #[.int .i64 x0, .int .i64 x1, .string x2, .slice X3 xs3.length x3, .slice X4 xs4.length x4, .int .i64 a0, .int .i64 a1, .string a2, .slice A3 as3.length c3, .slice A4 as4.length c4] 25))
  have HBN := Lib.hid hBn; clear hBn k0 k1
  go_wp2_with fail
  refine hF1.mono ?_; rintro e w2 ⟨rfl, hb⟩
  have hB2 := HBN.out.trans (hb.mono HBN.out.size)
  have k0 := blk_below K0.out hb
  have k1 := blk_below K1.out hb
  have HB2 := Lib.hid hB2; clear hB2 hF1 hb
  clear p0 p1 p2 p3 p4 q0 q1 q2 q3 q4 K0 K1 HBN HB1
  cases rf with
  | false =>
    have hA := HAW.out w2 HB2.out
    go_wp2_with fail
    refine hA.mono ?_; rintro e w9 ⟨rfl, hb⟩
    have HB3 := Lib.hid hb; clear hb hA
    go_wp2_with fail
    go_ret
    exact ⟨rfl, HB2.out.trans (HB3.out.mono HB2.out.size)⟩
  | true =>
  have p0 : w2.cell? ⟨w.heap.size, 0, none⟩ = some (.int .i64 x0) := (blk_cell k0 0).trans rfl
  have p1 : w2.cell? ⟨w.heap.size, 1, none⟩ = some (.int .i64 x1) := (blk_cell k0 1).trans rfl
  have p2 : w2.cell? ⟨w.heap.size, 2, none⟩ = some (.string x2) := (blk_cell k0 2).trans rfl
  have p3 : w2.cell? ⟨w.heap.size, 3, none⟩ = some (.slice X3 xs3.length x3) := (blk_cell k0 3).trans rfl
  have p4 : w2.cell? ⟨w.heap.size, 4, none⟩ = some (.slice X4 xs4.length x4) := (blk_cell k0 4).trans rfl
  have hF := HFX.out w2 HB2.out
  obtain ⟨fx, hfx⟩ : ∃ z, fmJ ⟨x0, x1, x2, xs3, xs4⟩ = z := ⟨_, rfl⟩
  rw [hfx] at hF
  have HFX1 := Lib.hid hfx; clear hfx HFX
  have K0 := Lib.hid k0; clear k0
  have K1 := Lib.hid k1; clear k1
  go_wp2_with fail
  refine hF.mono ?_; rintro e w3 ⟨rfl, hb⟩
  have hB2 := HB2.out.trans (hb.mono HB2.out.size)
  have k0 := blk_below K0.out hb
  have k1 := blk_below K1.out hb
  clear HB2 K0 K1
  have HB2 := Lib.hid hB2; clear hB2 hF hb
  clear p0 p1 p2 p3 p4
  cases fx with
  | false =>
    have hA := HAW.out w3 HB2.out
    go_wp2_with fail
    refine hA.mono ?_; rintro e w9 ⟨rfl, hb⟩
    have HB3 := Lib.hid hb; clear hb hA
    go_wp2_with fail
    go_ret
    exact ⟨rfl, HB2.out.trans (HB3.out.mono HB2.out.size)⟩
  | true =>
  have q0 : w3.cell? ⟨w.heap.size + 1, 0, none⟩ = some (.int .i64 a0) := (blk_cell k1 0).trans rfl
  have q1 : w3.cell? ⟨w.heap.size + 1, 1, none⟩ = some (.int .i64 a1) := (blk_cell k1 1).trans rfl
  have q2 : w3.cell? ⟨w.heap.size + 1, 2, none⟩ = some (.string a2) := (blk_cell k1 2).trans rfl
  have q3 : w3.cell? ⟨w.heap.size + 1, 3, none⟩ = some (.slice A3 as3.length c3) := (blk_cell k1 3).trans rfl
  have q4 : w3.cell? ⟨w.heap.size + 1, 4, none⟩ = some (.slice A4 as4.length c4) := (blk_cell k1 4).trans rfl
  have hF := HFA.out w3 HB2.out
  obtain ⟨fa, hfa⟩ : ∃ z, fmJ ⟨a0, a1, a2, as3, as4⟩ = z := ⟨_, rfl⟩
  rw [hfa] at hF
  have HFA1 := Lib.hid hfa; clear hfa HFA
  have K0 := Lib.hid k0; clear k0
  have K1 := Lib.hid k1; clear k1
  go_wp2_with fail
  refine hF.mono ?_; rintro e w4 ⟨rfl, hb⟩
  have hB2 := HB2.out.trans (hb.mono HB2.out.size)
  have k0 := blk_below K0.out hb
  have k1 := blk_below K1.out hb
  clear HB2 K0 K1
  have HB2 := Lib.hid hB2; clear hB2 hF hb
  clear q0 q1 q2 q3 q4
  cases fa with
  | false =>
    have hA := HAW.out w4 HB2.out
    go_wp2_with fail
    refine hA.mono ?_; rintro e w9 ⟨rfl, hb⟩
    have HB3 := Lib.hid hb; clear hb hA
    go_wp2_with fail
    go_ret
    exact ⟨rfl, HB2.out.trans (HB3.out.mono HB2.out.size)⟩
  | true =>
    have hlt2 : w.heap.size + 1 < w4.heap.size := blk_lt k1
    have n0_0 : w.heap.size < w4.heap.size := by omega
    have n1_0 : w.heap.size + 1 < w4.heap.size := by omega
    have n0_1 : w.heap.size < w4.heap.size + 1 := by omega
    have n1_1 : w.heap.size + 1 < w4.heap.size + 1 := by omega
    have n0_2 : w.heap.size < w4.heap.size + 1 + 1 := by omega
    have n1_2 : w.heap.size + 1 < w4.heap.size + 1 + 1 := by omega
    have n0_3 : w.heap.size < w4.heap.size + 1 + 1 + 1 := by omega
    have n1_3 : w.heap.size + 1 < w4.heap.size + 1 + 1 + 1 := by omega
    have n0_4 : w.heap.size < w4.heap.size + 1 + 1 + 1 + 1 := by omega
    have n1_4 : w.heap.size + 1 < w4.heap.size + 1 + 1 + 1 + 1 := by omega
    have n0_5 : w.heap.size < w4.heap.size + 1 + 1 + 1 + 1 + 1 := by omega
    have n1_5 : w.heap.size + 1 < w4.heap.size + 1 + 1 + 1 + 1 + 1 := by omega
    have p0 : w4.cell? ⟨w.heap.size, 0, none⟩ = some (.int .i64 x0) := (blk_cell k0 0).trans rfl
    have p1 : w4.cell? ⟨w.heap.size, 1, none⟩ = some (.int .i64 x1) := (blk_cell k0 1).trans rfl
    have p2 : w4.cell? ⟨w.heap.size, 2, none⟩ = some (.string x2) := (blk_cell k0 2).trans rfl
    have p3 : w4.cell? ⟨w.heap.size, 3, none⟩ = some (.slice X3 xs3.length x3) := (blk_cell k0 3).trans rfl
    have p4 : w4.cell? ⟨w.heap.size, 4, none⟩ = some (.slice X4 xs4.length x4) := (blk_cell k0 4).trans rfl
    have hD := ek_made w w4 ⟨x0, x1, x2, xs3, xs4⟩ ⟨a0, a1, a2, as3, as4⟩ X3 x3 X4 x4 A3 c3 A4 c4 HB2.out k0 k1 HX.out
    have HD := Lib.hid hD; clear hD
    clear k0 k1 HAW HFEW
    go_upto_region 4 with fail
    refine any_world (fun W => Ek w w4.heap.size ⟨x0, x1, x2, xs3, xs4⟩ ⟨a0, a1, a2, as3, as4⟩ X3 x3 X4 x4 A3 c3 A4 c4 W) HD.out ?_
    intro W hD
    have HDW := Lib.hid hD
    clear p0 p1 p2 p3 p4 HD HB2
    have m0 : W.cell? ⟨w4.heap.size + 1 + 1, 0, none⟩ = some (.int .i64 6) := (blk_cell hD.kd 0).trans rfl
    have m1 : W.cell? ⟨w4.heap.size + 1 + 1, 1, none⟩ = some (.int .i64 0) := (blk_cell hD.kd 1).trans rfl
    have m2 : W.cell? ⟨w4.heap.size + 1 + 1, 2, none⟩ = some (.string ⟨#[]⟩) := (blk_cell hD.kd 2).trans rfl
    have m3 : W.cell? ⟨w4.heap.size + 1 + 1, 3, none⟩ = some (.slice (some ⟨w4.heap.size, 0, none⟩) 1 1) := (blk_cell hD.kd 3).trans rfl
    have m4 : W.cell? ⟨w4.heap.size + 1 + 1, 4, none⟩ = some (.slice (some ⟨w4.heap.size + 1, 0, none⟩) 1 1) := (blk_cell hD.kd 4).trans rfl
    have hF := Formed_any (ob sA ⟨x0, x1, x2, xs3, xs4⟩) (some ⟨w4.heap.size, 0, none⟩) 1 (some ⟨w4.heap.size + 1, 0, none⟩) 1 W hD.rd (HT.out.below hD.bl)
    clear hD
    obtain ⟨fd, hfd⟩ : ∃ z, fmJ (ob sA ⟨x0, x1, x2, xs3, xs4⟩) = z := ⟨_, rfl⟩
    rw [hfd] at hF
    have HFD := Lib.hid hfd; clear hfd
    go_wp2_with fail
    refine hF.mono ?_; rintro e w5 ⟨rfl, hb⟩
    have hD := HDW.out.below hb
    have HD5 := Lib.hid hD; clear hD hb hF m0 m1 m2 m3 m4 HDW
    cases fd with
    | false =>
      go_wp2_with fail
      go_ret
      exact ⟨rfl, HD5.out.bl⟩
    | true =>
      have hSame := fun W (hW : Below w.heap.size w W) => same_any 6 ⟨x0, x1, x2, xs3, xs4⟩ ⟨a0, a1, a2, as3, as4⟩ X3 x3 X4 x4 A3 c3 A4 c4 W HFX1.out (HX.out.below hW) (HA.out.below hW)
      have hIn := fun h4 => in_law (x := ⟨x0, x1, x2, xs3, xs4⟩) (a := ⟨2, 0, ⟨#[]⟩, [], []⟩) (b := ⟨a0, a1, a2, as3, as4⟩) HFD.out h4
      rw [same_sym_true HFX1.out] at hIn
      have hcs := cmp_same 6 ⟨x0, x1, x2, xs3, xs4⟩ ⟨a0, a1, a2, as3, as4⟩ HFX1.out HFA1.out
      obtain ⟨c, hc⟩ : ∃ c, cmpF 6 ⟨x0, x1, x2, xs3, xs4⟩ ⟨a0, a1, a2, as3, as4⟩ = c := ⟨_, rfl⟩
      rw [hc] at hcs
      have hsb : sameF 6 ⟨x0, x1, x2, xs3, xs4⟩ ⟨a0, a1, a2, as3, as4⟩ = (c == 0) := by
        rw [Bool.eq_iff_iff, beq_iff_eq]
        exact hcs.symm
      rw [hsb] at hSame hIn
      have h6 := six c
      clear hcs hsb
      have HIN := Lib.hid hIn; clear hIn
      have HSAME := Lib.hid hSame; clear hSame
      have HC6 := Lib.hid hc; clear hc
      obtain ⟨L, hL⟩ : ∃ z, decide (c < 0) = z := ⟨_, rfl⟩
      obtain ⟨E, hE⟩ : ∃ z, (c == 0) = z := ⟨_, rfl⟩
      obtain ⟨G, hG⟩ : ∃ z, decide (c > 0) = z := ⟨_, rfl⟩
      obtain ⟨LE, hLE⟩ : ∃ z, decide (c ≤ 0) = z := ⟨_, rfl⟩
      obtain ⟨GE, hGE⟩ : ∃ z, decide (c ≥ 0) = z := ⟨_, rfl⟩
      obtain ⟨NE, hNE⟩ : ∃ z, (c != 0) = z := ⟨_, rfl⟩
      rw [hL, hE, hG, hLE, hGE, hNE] at h6
      have H6 := Lib.hid h6; clear h6
      have PL : passJ sLt ⟨a0, a1, a2, as3, as4⟩ ⟨x0, x1, x2, xs3, xs4⟩ true = L := by rw [pass_lt, HC6.out]; exact hL
      have PE : passJ sEq ⟨a0, a1, a2, as3, as4⟩ ⟨x0, x1, x2, xs3, xs4⟩ true = E := by rw [pass_eq, HC6.out]; exact hE
      have PG : passJ sGt ⟨a0, a1, a2, as3, as4⟩ ⟨x0, x1, x2, xs3, xs4⟩ true = G := by rw [pass_gt, HC6.out]; exact hG
      have PLE : passJ sLe ⟨a0, a1, a2, as3, as4⟩ ⟨x0, x1, x2, xs3, xs4⟩ true = LE := by rw [pass_le, HC6.out]; exact hLE
      have PGE : passJ sGe ⟨a0, a1, a2, as3, as4⟩ ⟨x0, x1, x2, xs3, xs4⟩ true = GE := by rw [pass_ge, HC6.out]; exact hGE
      have PNE : passJ sNe ⟨a0, a1, a2, as3, as4⟩ ⟨x0, x1, x2, xs3, xs4⟩ true = NE := by rw [pass_ne, HC6.out]; exact hNE
      have HE := Lib.hid hE
      have HPL := Lib.hid PL
      have HPE := Lib.hid PE
      have HPG := Lib.hid PG
      have HPLE := Lib.hid PLE
      have HPGE := Lib.hid PGE
      have HPNE := Lib.hid PNE
      clear hL hE hG hLE hGE hNE PL PE PG PLE PGE PNE
      obtain ⟨v4, hv4⟩ : ∃ z, formedJ 4 ⟨a0, a1, a2, as3, as4⟩ = z := ⟨_, rfl⟩
      have HV4 := Lib.hid hv4; clear hv4
      have m0 : w5.cell? ⟨w4.heap.size + 1 + 1, 0, none⟩ = some (.int .i64 6) := (blk_cell HD5.out.kd 0).trans rfl
      have m1 : w5.cell? ⟨w4.heap.size + 1 + 1, 1, none⟩ = some (.int .i64 0) := (blk_cell HD5.out.kd 1).trans rfl
      have m2 : w5.cell? ⟨w4.heap.size + 1 + 1, 2, none⟩ = some (.string ⟨#[]⟩) := (blk_cell HD5.out.kd 2).trans rfl
      have m3 : w5.cell? ⟨w4.heap.size + 1 + 1, 3, none⟩ = some (.slice (some ⟨w4.heap.size, 0, none⟩) 1 1) := (blk_cell HD5.out.kd 3).trans rfl
      have m4 : w5.cell? ⟨w4.heap.size + 1 + 1, 4, none⟩ = some (.slice (some ⟨w4.heap.size + 1, 0, none⟩) 1 1) := (blk_cell HD5.out.kd 4).trans rfl
      have q0 : w5.cell? ⟨w.heap.size + 1, 0, none⟩ = some (.int .i64 a0) := (blk_cell HD5.out.k1 0).trans rfl
      have q1 : w5.cell? ⟨w.heap.size + 1, 1, none⟩ = some (.int .i64 a1) := (blk_cell HD5.out.k1 1).trans rfl
      have q2 : w5.cell? ⟨w.heap.size + 1, 2, none⟩ = some (.string a2) := (blk_cell HD5.out.k1 2).trans rfl
      have q3 : w5.cell? ⟨w.heap.size + 1, 3, none⟩ = some (.slice A3 as3.length c3) := (blk_cell HD5.out.k1 3).trans rfl
      have q4 : w5.cell? ⟨w.heap.size + 1, 4, none⟩ = some (.slice A4 as4.length c4) := (blk_cell HD5.out.k1 4).trans rfl
      have hC := ask_any sA sLt (ob sA ⟨x0, x1, x2, xs3, xs4⟩) ⟨a0, a1, a2, as3, as4⟩ (some ⟨w4.heap.size, 0, none⟩) 1 (some ⟨w4.heap.size + 1, 0, none⟩) 1 A3 c3 A4 c4 w5 HD5.out.rd (HA.out.below HD5.out.bl) (HT.out.below HD5.out.bl)
      rw [chkb_a (tst_lt _), ask_a (tst_lt _) HFD.out, HV4.out, HPL.out] at hC
      go_wp2_with fail
      refine hC.mono ?_; rintro e w6 ⟨rfl, hb⟩
      have hD := HD5.out.below hb
      have HD6 := Lib.hid hD; clear hD hb hC HD5 m0 m1 m2 m3 m4 q0 q1 q2 q3 q4
      cases v4 with
      | false =>
        go_wp2_with fail
        go_ret
        exact ⟨rfl, HD6.out.bl⟩
      | true =>
        have m0 : w6.cell? ⟨w4.heap.size + 1 + 1, 0, none⟩ = some (.int .i64 6) := (blk_cell HD6.out.kd 0).trans rfl
        have m1 : w6.cell? ⟨w4.heap.size + 1 + 1, 1, none⟩ = some (.int .i64 0) := (blk_cell HD6.out.kd 1).trans rfl
        have m2 : w6.cell? ⟨w4.heap.size + 1 + 1, 2, none⟩ = some (.string ⟨#[]⟩) := (blk_cell HD6.out.kd 2).trans rfl
        have m3 : w6.cell? ⟨w4.heap.size + 1 + 1, 3, none⟩ = some (.slice (some ⟨w4.heap.size, 0, none⟩) 1 1) := (blk_cell HD6.out.kd 3).trans rfl
        have m4 : w6.cell? ⟨w4.heap.size + 1 + 1, 4, none⟩ = some (.slice (some ⟨w4.heap.size + 1, 0, none⟩) 1 1) := (blk_cell HD6.out.kd 4).trans rfl
        have q0 : w6.cell? ⟨w.heap.size + 1, 0, none⟩ = some (.int .i64 a0) := (blk_cell HD6.out.k1 0).trans rfl
        have q1 : w6.cell? ⟨w.heap.size + 1, 1, none⟩ = some (.int .i64 a1) := (blk_cell HD6.out.k1 1).trans rfl
        have q2 : w6.cell? ⟨w.heap.size + 1, 2, none⟩ = some (.string a2) := (blk_cell HD6.out.k1 2).trans rfl
        have q3 : w6.cell? ⟨w.heap.size + 1, 3, none⟩ = some (.slice A3 as3.length c3) := (blk_cell HD6.out.k1 3).trans rfl
        have q4 : w6.cell? ⟨w.heap.size + 1, 4, none⟩ = some (.slice A4 as4.length c4) := (blk_cell HD6.out.k1 4).trans rfl
        have hC := ask_any sA sEq (ob sA ⟨x0, x1, x2, xs3, xs4⟩) ⟨a0, a1, a2, as3, as4⟩ (some ⟨w4.heap.size, 0, none⟩) 1 (some ⟨w4.heap.size + 1, 0, none⟩) 1 A3 c3 A4 c4 w6 HD6.out.rd (HA.out.below HD6.out.bl) (HT.out.below HD6.out.bl)
        rw [chkb_a (tst_eq _), ask_a (tst_eq _) HFD.out, HV4.out, HPE.out] at hC
        go_wp2_with fail
        refine hC.mono ?_; rintro e w7 ⟨rfl, hb⟩
        have hD := HD6.out.below hb
        have HD7 := Lib.hid hD; clear hD hb hC HD6 m0 m1 m2 m3 m4 q0 q1 q2 q3 q4
        have m0 : w7.cell? ⟨w4.heap.size + 1 + 1, 0, none⟩ = some (.int .i64 6) := (blk_cell HD7.out.kd 0).trans rfl
        have m1 : w7.cell? ⟨w4.heap.size + 1 + 1, 1, none⟩ = some (.int .i64 0) := (blk_cell HD7.out.kd 1).trans rfl
        have m2 : w7.cell? ⟨w4.heap.size + 1 + 1, 2, none⟩ = some (.string ⟨#[]⟩) := (blk_cell HD7.out.kd 2).trans rfl
        have m3 : w7.cell? ⟨w4.heap.size + 1 + 1, 3, none⟩ = some (.slice (some ⟨w4.heap.size, 0, none⟩) 1 1) := (blk_cell HD7.out.kd 3).trans rfl
        have m4 : w7.cell? ⟨w4.heap.size + 1 + 1, 4, none⟩ = some (.slice (some ⟨w4.heap.size + 1, 0, none⟩) 1 1) := (blk_cell HD7.out.kd 4).trans rfl
        have q0 : w7.cell? ⟨w.heap.size + 1, 0, none⟩ = some (.int .i64 a0) := (blk_cell HD7.out.k1 0).trans rfl
        have q1 : w7.cell? ⟨w.heap.size + 1, 1, none⟩ = some (.int .i64 a1) := (blk_cell HD7.out.k1 1).trans rfl
        have q2 : w7.cell? ⟨w.heap.size + 1, 2, none⟩ = some (.string a2) := (blk_cell HD7.out.k1 2).trans rfl
        have q3 : w7.cell? ⟨w.heap.size + 1, 3, none⟩ = some (.slice A3 as3.length c3) := (blk_cell HD7.out.k1 3).trans rfl
        have q4 : w7.cell? ⟨w.heap.size + 1, 4, none⟩ = some (.slice A4 as4.length c4) := (blk_cell HD7.out.k1 4).trans rfl
        have hC := ask_any sA sGt (ob sA ⟨x0, x1, x2, xs3, xs4⟩) ⟨a0, a1, a2, as3, as4⟩ (some ⟨w4.heap.size, 0, none⟩) 1 (some ⟨w4.heap.size + 1, 0, none⟩) 1 A3 c3 A4 c4 w7 HD7.out.rd (HA.out.below HD7.out.bl) (HT.out.below HD7.out.bl)
        rw [chkb_a (tst_gt _), ask_a (tst_gt _) HFD.out, HV4.out, HPG.out] at hC
        go_wp2_with fail
        refine hC.mono ?_; rintro e w8 ⟨rfl, hb⟩
        have hD := HD7.out.below hb
        have HD8 := Lib.hid hD; clear hD hb hC HD7 m0 m1 m2 m3 m4 q0 q1 q2 q3 q4
        have m0 : w8.cell? ⟨w4.heap.size + 1 + 1, 0, none⟩ = some (.int .i64 6) := (blk_cell HD8.out.kd 0).trans rfl
        have m1 : w8.cell? ⟨w4.heap.size + 1 + 1, 1, none⟩ = some (.int .i64 0) := (blk_cell HD8.out.kd 1).trans rfl
        have m2 : w8.cell? ⟨w4.heap.size + 1 + 1, 2, none⟩ = some (.string ⟨#[]⟩) := (blk_cell HD8.out.kd 2).trans rfl
        have m3 : w8.cell? ⟨w4.heap.size + 1 + 1, 3, none⟩ = some (.slice (some ⟨w4.heap.size, 0, none⟩) 1 1) := (blk_cell HD8.out.kd 3).trans rfl
        have m4 : w8.cell? ⟨w4.heap.size + 1 + 1, 4, none⟩ = some (.slice (some ⟨w4.heap.size + 1, 0, none⟩) 1 1) := (blk_cell HD8.out.kd 4).trans rfl
        have q0 : w8.cell? ⟨w.heap.size + 1, 0, none⟩ = some (.int .i64 a0) := (blk_cell HD8.out.k1 0).trans rfl
        have q1 : w8.cell? ⟨w.heap.size + 1, 1, none⟩ = some (.int .i64 a1) := (blk_cell HD8.out.k1 1).trans rfl
        have q2 : w8.cell? ⟨w.heap.size + 1, 2, none⟩ = some (.string a2) := (blk_cell HD8.out.k1 2).trans rfl
        have q3 : w8.cell? ⟨w.heap.size + 1, 3, none⟩ = some (.slice A3 as3.length c3) := (blk_cell HD8.out.k1 3).trans rfl
        have q4 : w8.cell? ⟨w.heap.size + 1, 4, none⟩ = some (.slice A4 as4.length c4) := (blk_cell HD8.out.k1 4).trans rfl
        have hC := ask_any sA sLe (ob sA ⟨x0, x1, x2, xs3, xs4⟩) ⟨a0, a1, a2, as3, as4⟩ (some ⟨w4.heap.size, 0, none⟩) 1 (some ⟨w4.heap.size + 1, 0, none⟩) 1 A3 c3 A4 c4 w8 HD8.out.rd (HA.out.below HD8.out.bl) (HT.out.below HD8.out.bl)
        rw [chkb_a (tst_le _), ask_a (tst_le _) HFD.out, HV4.out, HPLE.out] at hC
        go_wp2_with fail
        refine hC.mono ?_; rintro e w9 ⟨rfl, hb⟩
        have hD := HD8.out.below hb
        have HD9 := Lib.hid hD; clear hD hb hC HD8 m0 m1 m2 m3 m4 q0 q1 q2 q3 q4
        have m0 : w9.cell? ⟨w4.heap.size + 1 + 1, 0, none⟩ = some (.int .i64 6) := (blk_cell HD9.out.kd 0).trans rfl
        have m1 : w9.cell? ⟨w4.heap.size + 1 + 1, 1, none⟩ = some (.int .i64 0) := (blk_cell HD9.out.kd 1).trans rfl
        have m2 : w9.cell? ⟨w4.heap.size + 1 + 1, 2, none⟩ = some (.string ⟨#[]⟩) := (blk_cell HD9.out.kd 2).trans rfl
        have m3 : w9.cell? ⟨w4.heap.size + 1 + 1, 3, none⟩ = some (.slice (some ⟨w4.heap.size, 0, none⟩) 1 1) := (blk_cell HD9.out.kd 3).trans rfl
        have m4 : w9.cell? ⟨w4.heap.size + 1 + 1, 4, none⟩ = some (.slice (some ⟨w4.heap.size + 1, 0, none⟩) 1 1) := (blk_cell HD9.out.kd 4).trans rfl
        have q0 : w9.cell? ⟨w.heap.size + 1, 0, none⟩ = some (.int .i64 a0) := (blk_cell HD9.out.k1 0).trans rfl
        have q1 : w9.cell? ⟨w.heap.size + 1, 1, none⟩ = some (.int .i64 a1) := (blk_cell HD9.out.k1 1).trans rfl
        have q2 : w9.cell? ⟨w.heap.size + 1, 2, none⟩ = some (.string a2) := (blk_cell HD9.out.k1 2).trans rfl
        have q3 : w9.cell? ⟨w.heap.size + 1, 3, none⟩ = some (.slice A3 as3.length c3) := (blk_cell HD9.out.k1 3).trans rfl
        have q4 : w9.cell? ⟨w.heap.size + 1, 4, none⟩ = some (.slice A4 as4.length c4) := (blk_cell HD9.out.k1 4).trans rfl
        have hC := ask_any sA sGe (ob sA ⟨x0, x1, x2, xs3, xs4⟩) ⟨a0, a1, a2, as3, as4⟩ (some ⟨w4.heap.size, 0, none⟩) 1 (some ⟨w4.heap.size + 1, 0, none⟩) 1 A3 c3 A4 c4 w9 HD9.out.rd (HA.out.below HD9.out.bl) (HT.out.below HD9.out.bl)
        rw [chkb_a (tst_ge _), ask_a (tst_ge _) HFD.out, HV4.out, HPGE.out] at hC
        go_wp2_with fail
        refine hC.mono ?_; rintro e w10 ⟨rfl, hb⟩
        have hD := HD9.out.below hb
        have HD10 := Lib.hid hD; clear hD hb hC HD9 m0 m1 m2 m3 m4 q0 q1 q2 q3 q4
        have m0 : w10.cell? ⟨w4.heap.size + 1 + 1, 0, none⟩ = some (.int .i64 6) := (blk_cell HD10.out.kd 0).trans rfl
        have m1 : w10.cell? ⟨w4.heap.size + 1 + 1, 1, none⟩ = some (.int .i64 0) := (blk_cell HD10.out.kd 1).trans rfl
        have m2 : w10.cell? ⟨w4.heap.size + 1 + 1, 2, none⟩ = some (.string ⟨#[]⟩) := (blk_cell HD10.out.kd 2).trans rfl
        have m3 : w10.cell? ⟨w4.heap.size + 1 + 1, 3, none⟩ = some (.slice (some ⟨w4.heap.size, 0, none⟩) 1 1) := (blk_cell HD10.out.kd 3).trans rfl
        have m4 : w10.cell? ⟨w4.heap.size + 1 + 1, 4, none⟩ = some (.slice (some ⟨w4.heap.size + 1, 0, none⟩) 1 1) := (blk_cell HD10.out.kd 4).trans rfl
        have q0 : w10.cell? ⟨w.heap.size + 1, 0, none⟩ = some (.int .i64 a0) := (blk_cell HD10.out.k1 0).trans rfl
        have q1 : w10.cell? ⟨w.heap.size + 1, 1, none⟩ = some (.int .i64 a1) := (blk_cell HD10.out.k1 1).trans rfl
        have q2 : w10.cell? ⟨w.heap.size + 1, 2, none⟩ = some (.string a2) := (blk_cell HD10.out.k1 2).trans rfl
        have q3 : w10.cell? ⟨w.heap.size + 1, 3, none⟩ = some (.slice A3 as3.length c3) := (blk_cell HD10.out.k1 3).trans rfl
        have q4 : w10.cell? ⟨w.heap.size + 1, 4, none⟩ = some (.slice A4 as4.length c4) := (blk_cell HD10.out.k1 4).trans rfl
        have hC := ask_any sA sNe (ob sA ⟨x0, x1, x2, xs3, xs4⟩) ⟨a0, a1, a2, as3, as4⟩ (some ⟨w4.heap.size, 0, none⟩) 1 (some ⟨w4.heap.size + 1, 0, none⟩) 1 A3 c3 A4 c4 w10 HD10.out.rd (HA.out.below HD10.out.bl) (HT.out.below HD10.out.bl)
        rw [chkb_a (tst_ne _), ask_a (tst_ne _) HFD.out, HV4.out, HPNE.out] at hC
        go_wp2_with fail
        refine hC.mono ?_; rintro e w11 ⟨rfl, hb⟩
        have hD := HD10.out.below hb
        have HD11 := Lib.hid hD; clear hD hb hC HD10 m0 m1 m2 m3 m4 q0 q1 q2 q3 q4
        rcases H6.out with ⟨rfl, rfl, rfl, rfl, rfl, rfl⟩ | ⟨rfl, rfl, rfl, rfl, rfl, rfl⟩ | ⟨rfl, rfl, rfl, rfl, rfl, rfl⟩
        · have hS := HSAME.out w11 HD11.out.bl
          rw [HE.out] at hS
          have p0 : w11.cell? ⟨w.heap.size, 0, none⟩ = some (.int .i64 x0) := (blk_cell HD11.out.k0 0).trans rfl
          have p1 : w11.cell? ⟨w.heap.size, 1, none⟩ = some (.int .i64 x1) := (blk_cell HD11.out.k0 1).trans rfl
          have p2 : w11.cell? ⟨w.heap.size, 2, none⟩ = some (.string x2) := (blk_cell HD11.out.k0 2).trans rfl
          have p3 : w11.cell? ⟨w.heap.size, 3, none⟩ = some (.slice X3 xs3.length x3) := (blk_cell HD11.out.k0 3).trans rfl
          have p4 : w11.cell? ⟨w.heap.size, 4, none⟩ = some (.slice X4 xs4.length x4) := (blk_cell HD11.out.k0 4).trans rfl
          have q0 : w11.cell? ⟨w.heap.size + 1, 0, none⟩ = some (.int .i64 a0) := (blk_cell HD11.out.k1 0).trans rfl
          have q1 : w11.cell? ⟨w.heap.size + 1, 1, none⟩ = some (.int .i64 a1) := (blk_cell HD11.out.k1 1).trans rfl
          have q2 : w11.cell? ⟨w.heap.size + 1, 2, none⟩ = some (.string a2) := (blk_cell HD11.out.k1 2).trans rfl
          have q3 : w11.cell? ⟨w.heap.size + 1, 3, none⟩ = some (.slice A3 as3.length c3) := (blk_cell HD11.out.k1 3).trans rfl
          have q4 : w11.cell? ⟨w.heap.size + 1, 4, none⟩ = some (.slice A4 as4.length c4) := (blk_cell HD11.out.k1 4).trans rfl
          go_wp2_with fail
          refine hS.mono ?_; rintro e w12 ⟨rfl, hb⟩
          have hD := HD11.out.below hb
          have HD12 := Lib.hid hD; clear hD hb hS p0 p1 p2 p3 p4 q0 q1 q2 q3 q4
          have m0 : w12.cell? ⟨w4.heap.size + 1 + 1, 0, none⟩ = some (.int .i64 6) := (blk_cell HD12.out.kd 0).trans rfl
          have m1 : w12.cell? ⟨w4.heap.size + 1 + 1, 1, none⟩ = some (.int .i64 0) := (blk_cell HD12.out.kd 1).trans rfl
          have m2 : w12.cell? ⟨w4.heap.size + 1 + 1, 2, none⟩ = some (.string ⟨#[]⟩) := (blk_cell HD12.out.kd 2).trans rfl
          have m3 : w12.cell? ⟨w4.heap.size + 1 + 1, 3, none⟩ = some (.slice (some ⟨w4.heap.size, 0, none⟩) 1 1) := (blk_cell HD12.out.kd 3).trans rfl
          have m4 : w12.cell? ⟨w4.heap.size + 1 + 1, 4, none⟩ = some (.slice (some ⟨w4.heap.size + 1, 0, none⟩) 1 1) := (blk_cell HD12.out.kd 4).trans rfl
          have q0 : w12.cell? ⟨w.heap.size + 1, 0, none⟩ = some (.int .i64 a0) := (blk_cell HD12.out.k1 0).trans rfl
          have q1 : w12.cell? ⟨w.heap.size + 1, 1, none⟩ = some (.int .i64 a1) := (blk_cell HD12.out.k1 1).trans rfl
          have q2 : w12.cell? ⟨w.heap.size + 1, 2, none⟩ = some (.string a2) := (blk_cell HD12.out.k1 2).trans rfl
          have q3 : w12.cell? ⟨w.heap.size + 1, 3, none⟩ = some (.slice A3 as3.length c3) := (blk_cell HD12.out.k1 3).trans rfl
          have q4 : w12.cell? ⟨w.heap.size + 1, 4, none⟩ = some (.slice A4 as4.length c4) := (blk_cell HD12.out.k1 4).trans rfl
          have hbn : Below w12.heap.size w12 (w12.alloc (.cells #[.int .i64 2, .int .i64 0, .string ⟨#[]⟩, .slice none 0 0, .slice none 0 0, .int .i64 a0, .int .i64 a1, .string a2, .slice A3 as3.length c3, .slice A4 as4.length c4] 25)) := below_alloc (Below.refl _ w12) _
          have hDn := HD12.out.below hbn
          have hC := ask_any sA sIn (ob sA ⟨x0, x1, x2, xs3, xs4⟩) (both ⟨2, 0, ⟨#[]⟩, [], []⟩ ⟨a0, a1, a2, as3, as4⟩) (some ⟨w4.heap.size, 0, none⟩) 1 (some ⟨w4.heap.size + 1, 0, none⟩) 1 _ _ _ _ _ hDn.rd (rd_both (new_blk w12 (.cells #[.int .i64 2, .int .i64 0, .string ⟨#[]⟩, .slice none 0 0, .slice none 0 0, .int .i64 a0, .int .i64 a1, .string a2, .slice A3 as3.length c3, .slice A4 as4.length c4] 25)) (rd_nil _ 2 0 ⟨#[]⟩) (HA.out.below hDn.bl)) (HT.out.below hDn.bl)
          rw [chkb_a (tst_in _ rfl)] at hC
          have hI := HIN.out
          generalize HoldsJ (ob sA (ob sIn (both ⟨2, 0, ⟨#[]⟩, [], []⟩ ⟨a0, a1, a2, as3, as4⟩))) (ob sA ⟨x0, x1, x2, xs3, xs4⟩) = I at hC hI
          generalize formedJ 4 (both ⟨2, 0, ⟨#[]⟩, [], []⟩ ⟨a0, a1, a2, as3, as4⟩) = fI at hC hI
          have HI := Lib.hid hI
          have HDN := Lib.hid hDn
          clear hDn hbn hI HD11
          go_wp2_with fail
          refine hC.mono ?_; rintro e w13 ⟨rfl, hb⟩
          have hD := HDN.out.below hb
          have HD13 := Lib.hid hD; clear hD hb hC HDN m0 m1 m2 m3 m4 q0 q1 q2 q3 q4
          have p0 : w13.cell? ⟨w.heap.size, 0, none⟩ = some (.int .i64 x0) := (blk_cell HD13.out.k0 0).trans rfl
          go_upto_region 24 with fail
          go_cut [150] from 140 to 150 (fun v wx => v = .bool false ∧ Ek w w4.heap.size ⟨x0, x1, x2, xs3, xs4⟩ ⟨a0, a1, a2, as3, as4⟩ X3 x3 X4 x4 A3 c3 A4 c4 wx)
          case first =>
            cases fI with
            | false =>
              go_wp2_with fail
              go_meet
              exact ⟨rfl, HD13.out⟩
            | true =>
              have i1 := HI.out rfl
              rw [HE.out] at i1
              cases t2 : x0 == 2 with
              | false =>
                have i2 : I = false := by rw [i1, t2]; rfl
                clear i1
                subst i2
                go_wp2_with fail
                go_meet
                exact ⟨rfl, HD13.out⟩
              | true =>
                have i2 : I = true := by rw [i1, t2]; rfl
                clear i1
                subst i2
                go_wp2_with fail
                go_meet
                exact ⟨rfl, HD13.out⟩
          case rest =>
            obtain ⟨rfl, hD⟩ := hcut
            have HD14 := Lib.hid hD
            clear hD HD13 p0
            have m0 : wc.cell? ⟨w4.heap.size + 1 + 1, 0, none⟩ = some (.int .i64 6) := (blk_cell HD14.out.kd 0).trans rfl
            have m1 : wc.cell? ⟨w4.heap.size + 1 + 1, 1, none⟩ = some (.int .i64 0) := (blk_cell HD14.out.kd 1).trans rfl
            have m2 : wc.cell? ⟨w4.heap.size + 1 + 1, 2, none⟩ = some (.string ⟨#[]⟩) := (blk_cell HD14.out.kd 2).trans rfl
            have m3 : wc.cell? ⟨w4.heap.size + 1 + 1, 3, none⟩ = some (.slice (some ⟨w4.heap.size, 0, none⟩) 1 1) := (blk_cell HD14.out.kd 3).trans rfl
            have m4 : wc.cell? ⟨w4.heap.size + 1 + 1, 4, none⟩ = some (.slice (some ⟨w4.heap.size + 1, 0, none⟩) 1 1) := (blk_cell HD14.out.kd 4).trans rfl
            have q0 : wc.cell? ⟨w.heap.size + 1, 0, none⟩ = some (.int .i64 a0) := (blk_cell HD14.out.k1 0).trans rfl
            have q1 : wc.cell? ⟨w.heap.size + 1, 1, none⟩ = some (.int .i64 a1) := (blk_cell HD14.out.k1 1).trans rfl
            have q2 : wc.cell? ⟨w.heap.size + 1, 2, none⟩ = some (.string a2) := (blk_cell HD14.out.k1 2).trans rfl
            have q3 : wc.cell? ⟨w.heap.size + 1, 3, none⟩ = some (.slice A3 as3.length c3) := (blk_cell HD14.out.k1 3).trans rfl
            have q4 : wc.cell? ⟨w.heap.size + 1, 4, none⟩ = some (.slice A4 as4.length c4) := (blk_cell HD14.out.k1 4).trans rfl
            have hC := ask_any sB sLe (ob sA ⟨x0, x1, x2, xs3, xs4⟩) ⟨a0, a1, a2, as3, as4⟩ (some ⟨w4.heap.size, 0, none⟩) 1 (some ⟨w4.heap.size + 1, 0, none⟩) 1 A3 c3 A4 c4 wc HD14.out.rd (HA.out.below HD14.out.bl) (HT.out.below HD14.out.bl)
            rw [chkb_b (tst_le _), ask_b (tst_le _) HFD.out, HV4.out, pass_le_no] at hC
            go_wp2_with fail
            refine hC.mono ?_; rintro e w15 ⟨rfl, hb⟩
            have hD := HD14.out.below hb
            have HD15 := Lib.hid hD; clear hD hb hC HD14 m0 m1 m2 m3 m4 q0 q1 q2 q3 q4
            have m0 : w15.cell? ⟨w4.heap.size + 1 + 1, 0, none⟩ = some (.int .i64 6) := (blk_cell HD15.out.kd 0).trans rfl
            have m1 : w15.cell? ⟨w4.heap.size + 1 + 1, 1, none⟩ = some (.int .i64 0) := (blk_cell HD15.out.kd 1).trans rfl
            have m2 : w15.cell? ⟨w4.heap.size + 1 + 1, 2, none⟩ = some (.string ⟨#[]⟩) := (blk_cell HD15.out.kd 2).trans rfl
            have m3 : w15.cell? ⟨w4.heap.size + 1 + 1, 3, none⟩ = some (.slice (some ⟨w4.heap.size, 0, none⟩) 1 1) := (blk_cell HD15.out.kd 3).trans rfl
            have m4 : w15.cell? ⟨w4.heap.size + 1 + 1, 4, none⟩ = some (.slice (some ⟨w4.heap.size + 1, 0, none⟩) 1 1) := (blk_cell HD15.out.kd 4).trans rfl
            have q0 : w15.cell? ⟨w.heap.size + 1, 0, none⟩ = some (.int .i64 a0) := (blk_cell HD15.out.k1 0).trans rfl
            have q1 : w15.cell? ⟨w.heap.size + 1, 1, none⟩ = some (.int .i64 a1) := (blk_cell HD15.out.k1 1).trans rfl
            have q2 : w15.cell? ⟨w.heap.size + 1, 2, none⟩ = some (.string a2) := (blk_cell HD15.out.k1 2).trans rfl
            have q3 : w15.cell? ⟨w.heap.size + 1, 3, none⟩ = some (.slice A3 as3.length c3) := (blk_cell HD15.out.k1 3).trans rfl
            have q4 : w15.cell? ⟨w.heap.size + 1, 4, none⟩ = some (.slice A4 as4.length c4) := (blk_cell HD15.out.k1 4).trans rfl
            have hC := ask_any sB sNe (ob sA ⟨x0, x1, x2, xs3, xs4⟩) ⟨a0, a1, a2, as3, as4⟩ (some ⟨w4.heap.size, 0, none⟩) 1 (some ⟨w4.heap.size + 1, 0, none⟩) 1 A3 c3 A4 c4 w15 HD15.out.rd (HA.out.below HD15.out.bl) (HT.out.below HD15.out.bl)
            rw [chkb_b (tst_ne _), ask_b (tst_ne _) HFD.out, HV4.out, pass_ne_no] at hC
            go_wp2_with fail
            refine hC.mono ?_; rintro e w16 ⟨rfl, hb⟩
            have hD := HD15.out.below hb
            have HD16 := Lib.hid hD; clear hD hb hC HD15 m0 m1 m2 m3 m4 q0 q1 q2 q3 q4
            have m0 : w16.cell? ⟨w4.heap.size + 1 + 1, 0, none⟩ = some (.int .i64 6) := (blk_cell HD16.out.kd 0).trans rfl
            have m1 : w16.cell? ⟨w4.heap.size + 1 + 1, 1, none⟩ = some (.int .i64 0) := (blk_cell HD16.out.kd 1).trans rfl
            have m2 : w16.cell? ⟨w4.heap.size + 1 + 1, 2, none⟩ = some (.string ⟨#[]⟩) := (blk_cell HD16.out.kd 2).trans rfl
            have m3 : w16.cell? ⟨w4.heap.size + 1 + 1, 3, none⟩ = some (.slice (some ⟨w4.heap.size, 0, none⟩) 1 1) := (blk_cell HD16.out.kd 3).trans rfl
            have m4 : w16.cell? ⟨w4.heap.size + 1 + 1, 4, none⟩ = some (.slice (some ⟨w4.heap.size + 1, 0, none⟩) 1 1) := (blk_cell HD16.out.kd 4).trans rfl
            have hC := ask_any sB sHas (ob sA ⟨x0, x1, x2, xs3, xs4⟩) ⟨1, 0, ⟨#[]⟩, [], []⟩ (some ⟨w4.heap.size, 0, none⟩) 1 (some ⟨w4.heap.size + 1, 0, none⟩) 1 none 0 none 0 w16 HD16.out.rd (rd_nil _ 1 0 ⟨#[]⟩) (HT.out.below HD16.out.bl)
            rw [chkb_b (tst_has _ rfl), ask_b (tst_has _ rfl) HFD.out, false_formed, pass_has_no] at hC
            go_wp2_with fail
            refine hC.mono ?_; rintro e w17 ⟨rfl, hb⟩
            have hD := HD16.out.below hb
            have HD17 := Lib.hid hD; clear hD hb hC HD16 m0 m1 m2 m3 m4
            go_wp2_with fail
            go_ret
            exact ⟨rfl, HD17.out.bl⟩
        · have hS := HSAME.out w11 HD11.out.bl
          rw [HE.out] at hS
          have p0 : w11.cell? ⟨w.heap.size, 0, none⟩ = some (.int .i64 x0) := (blk_cell HD11.out.k0 0).trans rfl
          have p1 : w11.cell? ⟨w.heap.size, 1, none⟩ = some (.int .i64 x1) := (blk_cell HD11.out.k0 1).trans rfl
          have p2 : w11.cell? ⟨w.heap.size, 2, none⟩ = some (.string x2) := (blk_cell HD11.out.k0 2).trans rfl
          have p3 : w11.cell? ⟨w.heap.size, 3, none⟩ = some (.slice X3 xs3.length x3) := (blk_cell HD11.out.k0 3).trans rfl
          have p4 : w11.cell? ⟨w.heap.size, 4, none⟩ = some (.slice X4 xs4.length x4) := (blk_cell HD11.out.k0 4).trans rfl
          have q0 : w11.cell? ⟨w.heap.size + 1, 0, none⟩ = some (.int .i64 a0) := (blk_cell HD11.out.k1 0).trans rfl
          have q1 : w11.cell? ⟨w.heap.size + 1, 1, none⟩ = some (.int .i64 a1) := (blk_cell HD11.out.k1 1).trans rfl
          have q2 : w11.cell? ⟨w.heap.size + 1, 2, none⟩ = some (.string a2) := (blk_cell HD11.out.k1 2).trans rfl
          have q3 : w11.cell? ⟨w.heap.size + 1, 3, none⟩ = some (.slice A3 as3.length c3) := (blk_cell HD11.out.k1 3).trans rfl
          have q4 : w11.cell? ⟨w.heap.size + 1, 4, none⟩ = some (.slice A4 as4.length c4) := (blk_cell HD11.out.k1 4).trans rfl
          go_wp2_with fail
          refine hS.mono ?_; rintro e w12 ⟨rfl, hb⟩
          have hD := HD11.out.below hb
          have HD12 := Lib.hid hD; clear hD hb hS p0 p1 p2 p3 p4 q0 q1 q2 q3 q4
          have m0 : w12.cell? ⟨w4.heap.size + 1 + 1, 0, none⟩ = some (.int .i64 6) := (blk_cell HD12.out.kd 0).trans rfl
          have m1 : w12.cell? ⟨w4.heap.size + 1 + 1, 1, none⟩ = some (.int .i64 0) := (blk_cell HD12.out.kd 1).trans rfl
          have m2 : w12.cell? ⟨w4.heap.size + 1 + 1, 2, none⟩ = some (.string ⟨#[]⟩) := (blk_cell HD12.out.kd 2).trans rfl
          have m3 : w12.cell? ⟨w4.heap.size + 1 + 1, 3, none⟩ = some (.slice (some ⟨w4.heap.size, 0, none⟩) 1 1) := (blk_cell HD12.out.kd 3).trans rfl
          have m4 : w12.cell? ⟨w4.heap.size + 1 + 1, 4, none⟩ = some (.slice (some ⟨w4.heap.size + 1, 0, none⟩) 1 1) := (blk_cell HD12.out.kd 4).trans rfl
          have q0 : w12.cell? ⟨w.heap.size + 1, 0, none⟩ = some (.int .i64 a0) := (blk_cell HD12.out.k1 0).trans rfl
          have q1 : w12.cell? ⟨w.heap.size + 1, 1, none⟩ = some (.int .i64 a1) := (blk_cell HD12.out.k1 1).trans rfl
          have q2 : w12.cell? ⟨w.heap.size + 1, 2, none⟩ = some (.string a2) := (blk_cell HD12.out.k1 2).trans rfl
          have q3 : w12.cell? ⟨w.heap.size + 1, 3, none⟩ = some (.slice A3 as3.length c3) := (blk_cell HD12.out.k1 3).trans rfl
          have q4 : w12.cell? ⟨w.heap.size + 1, 4, none⟩ = some (.slice A4 as4.length c4) := (blk_cell HD12.out.k1 4).trans rfl
          have hbn : Below w12.heap.size w12 (w12.alloc (.cells #[.int .i64 2, .int .i64 0, .string ⟨#[]⟩, .slice none 0 0, .slice none 0 0, .int .i64 a0, .int .i64 a1, .string a2, .slice A3 as3.length c3, .slice A4 as4.length c4] 25)) := below_alloc (Below.refl _ w12) _
          have hDn := HD12.out.below hbn
          have hC := ask_any sA sIn (ob sA ⟨x0, x1, x2, xs3, xs4⟩) (both ⟨2, 0, ⟨#[]⟩, [], []⟩ ⟨a0, a1, a2, as3, as4⟩) (some ⟨w4.heap.size, 0, none⟩) 1 (some ⟨w4.heap.size + 1, 0, none⟩) 1 _ _ _ _ _ hDn.rd (rd_both (new_blk w12 (.cells #[.int .i64 2, .int .i64 0, .string ⟨#[]⟩, .slice none 0 0, .slice none 0 0, .int .i64 a0, .int .i64 a1, .string a2, .slice A3 as3.length c3, .slice A4 as4.length c4] 25)) (rd_nil _ 2 0 ⟨#[]⟩) (HA.out.below hDn.bl)) (HT.out.below hDn.bl)
          rw [chkb_a (tst_in _ rfl)] at hC
          have hI := HIN.out
          generalize HoldsJ (ob sA (ob sIn (both ⟨2, 0, ⟨#[]⟩, [], []⟩ ⟨a0, a1, a2, as3, as4⟩))) (ob sA ⟨x0, x1, x2, xs3, xs4⟩) = I at hC hI
          generalize formedJ 4 (both ⟨2, 0, ⟨#[]⟩, [], []⟩ ⟨a0, a1, a2, as3, as4⟩) = fI at hC hI
          have HI := Lib.hid hI
          have HDN := Lib.hid hDn
          clear hDn hbn hI HD11
          go_wp2_with fail
          refine hC.mono ?_; rintro e w13 ⟨rfl, hb⟩
          have hD := HDN.out.below hb
          have HD13 := Lib.hid hD; clear hD hb hC HDN m0 m1 m2 m3 m4 q0 q1 q2 q3 q4
          have p0 : w13.cell? ⟨w.heap.size, 0, none⟩ = some (.int .i64 x0) := (blk_cell HD13.out.k0 0).trans rfl
          go_upto_region 24 with fail
          go_cut [150] from 140 to 150 (fun v wx => v = .bool false ∧ Ek w w4.heap.size ⟨x0, x1, x2, xs3, xs4⟩ ⟨a0, a1, a2, as3, as4⟩ X3 x3 X4 x4 A3 c3 A4 c4 wx)
          case first =>
            cases fI with
            | false =>
              go_wp2_with fail
              go_meet
              exact ⟨rfl, HD13.out⟩
            | true =>
              have i1 := HI.out rfl
              rw [HE.out] at i1
              cases t2 : x0 == 2 with
              | false =>
                have i2 : I = true := by rw [i1, t2]; rfl
                clear i1
                subst i2
                go_wp2_with fail
                go_meet
                exact ⟨rfl, HD13.out⟩
              | true =>
                have i2 : I = true := by rw [i1, t2]; rfl
                clear i1
                subst i2
                go_wp2_with fail
                go_meet
                exact ⟨rfl, HD13.out⟩
          case rest =>
            obtain ⟨rfl, hD⟩ := hcut
            have HD14 := Lib.hid hD
            clear hD HD13 p0
            have m0 : wc.cell? ⟨w4.heap.size + 1 + 1, 0, none⟩ = some (.int .i64 6) := (blk_cell HD14.out.kd 0).trans rfl
            have m1 : wc.cell? ⟨w4.heap.size + 1 + 1, 1, none⟩ = some (.int .i64 0) := (blk_cell HD14.out.kd 1).trans rfl
            have m2 : wc.cell? ⟨w4.heap.size + 1 + 1, 2, none⟩ = some (.string ⟨#[]⟩) := (blk_cell HD14.out.kd 2).trans rfl
            have m3 : wc.cell? ⟨w4.heap.size + 1 + 1, 3, none⟩ = some (.slice (some ⟨w4.heap.size, 0, none⟩) 1 1) := (blk_cell HD14.out.kd 3).trans rfl
            have m4 : wc.cell? ⟨w4.heap.size + 1 + 1, 4, none⟩ = some (.slice (some ⟨w4.heap.size + 1, 0, none⟩) 1 1) := (blk_cell HD14.out.kd 4).trans rfl
            have q0 : wc.cell? ⟨w.heap.size + 1, 0, none⟩ = some (.int .i64 a0) := (blk_cell HD14.out.k1 0).trans rfl
            have q1 : wc.cell? ⟨w.heap.size + 1, 1, none⟩ = some (.int .i64 a1) := (blk_cell HD14.out.k1 1).trans rfl
            have q2 : wc.cell? ⟨w.heap.size + 1, 2, none⟩ = some (.string a2) := (blk_cell HD14.out.k1 2).trans rfl
            have q3 : wc.cell? ⟨w.heap.size + 1, 3, none⟩ = some (.slice A3 as3.length c3) := (blk_cell HD14.out.k1 3).trans rfl
            have q4 : wc.cell? ⟨w.heap.size + 1, 4, none⟩ = some (.slice A4 as4.length c4) := (blk_cell HD14.out.k1 4).trans rfl
            have hC := ask_any sB sLe (ob sA ⟨x0, x1, x2, xs3, xs4⟩) ⟨a0, a1, a2, as3, as4⟩ (some ⟨w4.heap.size, 0, none⟩) 1 (some ⟨w4.heap.size + 1, 0, none⟩) 1 A3 c3 A4 c4 wc HD14.out.rd (HA.out.below HD14.out.bl) (HT.out.below HD14.out.bl)
            rw [chkb_b (tst_le _), ask_b (tst_le _) HFD.out, HV4.out, pass_le_no] at hC
            go_wp2_with fail
            refine hC.mono ?_; rintro e w15 ⟨rfl, hb⟩
            have hD := HD14.out.below hb
            have HD15 := Lib.hid hD; clear hD hb hC HD14 m0 m1 m2 m3 m4 q0 q1 q2 q3 q4
            have m0 : w15.cell? ⟨w4.heap.size + 1 + 1, 0, none⟩ = some (.int .i64 6) := (blk_cell HD15.out.kd 0).trans rfl
            have m1 : w15.cell? ⟨w4.heap.size + 1 + 1, 1, none⟩ = some (.int .i64 0) := (blk_cell HD15.out.kd 1).trans rfl
            have m2 : w15.cell? ⟨w4.heap.size + 1 + 1, 2, none⟩ = some (.string ⟨#[]⟩) := (blk_cell HD15.out.kd 2).trans rfl
            have m3 : w15.cell? ⟨w4.heap.size + 1 + 1, 3, none⟩ = some (.slice (some ⟨w4.heap.size, 0, none⟩) 1 1) := (blk_cell HD15.out.kd 3).trans rfl
            have m4 : w15.cell? ⟨w4.heap.size + 1 + 1, 4, none⟩ = some (.slice (some ⟨w4.heap.size + 1, 0, none⟩) 1 1) := (blk_cell HD15.out.kd 4).trans rfl
            have q0 : w15.cell? ⟨w.heap.size + 1, 0, none⟩ = some (.int .i64 a0) := (blk_cell HD15.out.k1 0).trans rfl
            have q1 : w15.cell? ⟨w.heap.size + 1, 1, none⟩ = some (.int .i64 a1) := (blk_cell HD15.out.k1 1).trans rfl
            have q2 : w15.cell? ⟨w.heap.size + 1, 2, none⟩ = some (.string a2) := (blk_cell HD15.out.k1 2).trans rfl
            have q3 : w15.cell? ⟨w.heap.size + 1, 3, none⟩ = some (.slice A3 as3.length c3) := (blk_cell HD15.out.k1 3).trans rfl
            have q4 : w15.cell? ⟨w.heap.size + 1, 4, none⟩ = some (.slice A4 as4.length c4) := (blk_cell HD15.out.k1 4).trans rfl
            have hC := ask_any sB sNe (ob sA ⟨x0, x1, x2, xs3, xs4⟩) ⟨a0, a1, a2, as3, as4⟩ (some ⟨w4.heap.size, 0, none⟩) 1 (some ⟨w4.heap.size + 1, 0, none⟩) 1 A3 c3 A4 c4 w15 HD15.out.rd (HA.out.below HD15.out.bl) (HT.out.below HD15.out.bl)
            rw [chkb_b (tst_ne _), ask_b (tst_ne _) HFD.out, HV4.out, pass_ne_no] at hC
            go_wp2_with fail
            refine hC.mono ?_; rintro e w16 ⟨rfl, hb⟩
            have hD := HD15.out.below hb
            have HD16 := Lib.hid hD; clear hD hb hC HD15 m0 m1 m2 m3 m4 q0 q1 q2 q3 q4
            have m0 : w16.cell? ⟨w4.heap.size + 1 + 1, 0, none⟩ = some (.int .i64 6) := (blk_cell HD16.out.kd 0).trans rfl
            have m1 : w16.cell? ⟨w4.heap.size + 1 + 1, 1, none⟩ = some (.int .i64 0) := (blk_cell HD16.out.kd 1).trans rfl
            have m2 : w16.cell? ⟨w4.heap.size + 1 + 1, 2, none⟩ = some (.string ⟨#[]⟩) := (blk_cell HD16.out.kd 2).trans rfl
            have m3 : w16.cell? ⟨w4.heap.size + 1 + 1, 3, none⟩ = some (.slice (some ⟨w4.heap.size, 0, none⟩) 1 1) := (blk_cell HD16.out.kd 3).trans rfl
            have m4 : w16.cell? ⟨w4.heap.size + 1 + 1, 4, none⟩ = some (.slice (some ⟨w4.heap.size + 1, 0, none⟩) 1 1) := (blk_cell HD16.out.kd 4).trans rfl
            have hC := ask_any sB sHas (ob sA ⟨x0, x1, x2, xs3, xs4⟩) ⟨1, 0, ⟨#[]⟩, [], []⟩ (some ⟨w4.heap.size, 0, none⟩) 1 (some ⟨w4.heap.size + 1, 0, none⟩) 1 none 0 none 0 w16 HD16.out.rd (rd_nil _ 1 0 ⟨#[]⟩) (HT.out.below HD16.out.bl)
            rw [chkb_b (tst_has _ rfl), ask_b (tst_has _ rfl) HFD.out, false_formed, pass_has_no] at hC
            go_wp2_with fail
            refine hC.mono ?_; rintro e w17 ⟨rfl, hb⟩
            have hD := HD16.out.below hb
            have HD17 := Lib.hid hD; clear hD hb hC HD16 m0 m1 m2 m3 m4
            go_wp2_with fail
            go_ret
            exact ⟨rfl, HD17.out.bl⟩
        · have hS := HSAME.out w11 HD11.out.bl
          rw [HE.out] at hS
          have p0 : w11.cell? ⟨w.heap.size, 0, none⟩ = some (.int .i64 x0) := (blk_cell HD11.out.k0 0).trans rfl
          have p1 : w11.cell? ⟨w.heap.size, 1, none⟩ = some (.int .i64 x1) := (blk_cell HD11.out.k0 1).trans rfl
          have p2 : w11.cell? ⟨w.heap.size, 2, none⟩ = some (.string x2) := (blk_cell HD11.out.k0 2).trans rfl
          have p3 : w11.cell? ⟨w.heap.size, 3, none⟩ = some (.slice X3 xs3.length x3) := (blk_cell HD11.out.k0 3).trans rfl
          have p4 : w11.cell? ⟨w.heap.size, 4, none⟩ = some (.slice X4 xs4.length x4) := (blk_cell HD11.out.k0 4).trans rfl
          have q0 : w11.cell? ⟨w.heap.size + 1, 0, none⟩ = some (.int .i64 a0) := (blk_cell HD11.out.k1 0).trans rfl
          have q1 : w11.cell? ⟨w.heap.size + 1, 1, none⟩ = some (.int .i64 a1) := (blk_cell HD11.out.k1 1).trans rfl
          have q2 : w11.cell? ⟨w.heap.size + 1, 2, none⟩ = some (.string a2) := (blk_cell HD11.out.k1 2).trans rfl
          have q3 : w11.cell? ⟨w.heap.size + 1, 3, none⟩ = some (.slice A3 as3.length c3) := (blk_cell HD11.out.k1 3).trans rfl
          have q4 : w11.cell? ⟨w.heap.size + 1, 4, none⟩ = some (.slice A4 as4.length c4) := (blk_cell HD11.out.k1 4).trans rfl
          go_wp2_with fail
          refine hS.mono ?_; rintro e w12 ⟨rfl, hb⟩
          have hD := HD11.out.below hb
          have HD12 := Lib.hid hD; clear hD hb hS p0 p1 p2 p3 p4 q0 q1 q2 q3 q4
          have m0 : w12.cell? ⟨w4.heap.size + 1 + 1, 0, none⟩ = some (.int .i64 6) := (blk_cell HD12.out.kd 0).trans rfl
          have m1 : w12.cell? ⟨w4.heap.size + 1 + 1, 1, none⟩ = some (.int .i64 0) := (blk_cell HD12.out.kd 1).trans rfl
          have m2 : w12.cell? ⟨w4.heap.size + 1 + 1, 2, none⟩ = some (.string ⟨#[]⟩) := (blk_cell HD12.out.kd 2).trans rfl
          have m3 : w12.cell? ⟨w4.heap.size + 1 + 1, 3, none⟩ = some (.slice (some ⟨w4.heap.size, 0, none⟩) 1 1) := (blk_cell HD12.out.kd 3).trans rfl
          have m4 : w12.cell? ⟨w4.heap.size + 1 + 1, 4, none⟩ = some (.slice (some ⟨w4.heap.size + 1, 0, none⟩) 1 1) := (blk_cell HD12.out.kd 4).trans rfl
          have q0 : w12.cell? ⟨w.heap.size + 1, 0, none⟩ = some (.int .i64 a0) := (blk_cell HD12.out.k1 0).trans rfl
          have q1 : w12.cell? ⟨w.heap.size + 1, 1, none⟩ = some (.int .i64 a1) := (blk_cell HD12.out.k1 1).trans rfl
          have q2 : w12.cell? ⟨w.heap.size + 1, 2, none⟩ = some (.string a2) := (blk_cell HD12.out.k1 2).trans rfl
          have q3 : w12.cell? ⟨w.heap.size + 1, 3, none⟩ = some (.slice A3 as3.length c3) := (blk_cell HD12.out.k1 3).trans rfl
          have q4 : w12.cell? ⟨w.heap.size + 1, 4, none⟩ = some (.slice A4 as4.length c4) := (blk_cell HD12.out.k1 4).trans rfl
          have hbn : Below w12.heap.size w12 (w12.alloc (.cells #[.int .i64 2, .int .i64 0, .string ⟨#[]⟩, .slice none 0 0, .slice none 0 0, .int .i64 a0, .int .i64 a1, .string a2, .slice A3 as3.length c3, .slice A4 as4.length c4] 25)) := below_alloc (Below.refl _ w12) _
          have hDn := HD12.out.below hbn
          have hC := ask_any sA sIn (ob sA ⟨x0, x1, x2, xs3, xs4⟩) (both ⟨2, 0, ⟨#[]⟩, [], []⟩ ⟨a0, a1, a2, as3, as4⟩) (some ⟨w4.heap.size, 0, none⟩) 1 (some ⟨w4.heap.size + 1, 0, none⟩) 1 _ _ _ _ _ hDn.rd (rd_both (new_blk w12 (.cells #[.int .i64 2, .int .i64 0, .string ⟨#[]⟩, .slice none 0 0, .slice none 0 0, .int .i64 a0, .int .i64 a1, .string a2, .slice A3 as3.length c3, .slice A4 as4.length c4] 25)) (rd_nil _ 2 0 ⟨#[]⟩) (HA.out.below hDn.bl)) (HT.out.below hDn.bl)
          rw [chkb_a (tst_in _ rfl)] at hC
          have hI := HIN.out
          generalize HoldsJ (ob sA (ob sIn (both ⟨2, 0, ⟨#[]⟩, [], []⟩ ⟨a0, a1, a2, as3, as4⟩))) (ob sA ⟨x0, x1, x2, xs3, xs4⟩) = I at hC hI
          generalize formedJ 4 (both ⟨2, 0, ⟨#[]⟩, [], []⟩ ⟨a0, a1, a2, as3, as4⟩) = fI at hC hI
          have HI := Lib.hid hI
          have HDN := Lib.hid hDn
          clear hDn hbn hI HD11
          go_wp2_with fail
          refine hC.mono ?_; rintro e w13 ⟨rfl, hb⟩
          have hD := HDN.out.below hb
          have HD13 := Lib.hid hD; clear hD hb hC HDN m0 m1 m2 m3 m4 q0 q1 q2 q3 q4
          have p0 : w13.cell? ⟨w.heap.size, 0, none⟩ = some (.int .i64 x0) := (blk_cell HD13.out.k0 0).trans rfl
          go_upto_region 24 with fail
          go_cut [150] from 140 to 150 (fun v wx => v = .bool false ∧ Ek w w4.heap.size ⟨x0, x1, x2, xs3, xs4⟩ ⟨a0, a1, a2, as3, as4⟩ X3 x3 X4 x4 A3 c3 A4 c4 wx)
          case first =>
            cases fI with
            | false =>
              go_wp2_with fail
              go_meet
              exact ⟨rfl, HD13.out⟩
            | true =>
              have i1 := HI.out rfl
              rw [HE.out] at i1
              cases t2 : x0 == 2 with
              | false =>
                have i2 : I = false := by rw [i1, t2]; rfl
                clear i1
                subst i2
                go_wp2_with fail
                go_meet
                exact ⟨rfl, HD13.out⟩
              | true =>
                have i2 : I = true := by rw [i1, t2]; rfl
                clear i1
                subst i2
                go_wp2_with fail
                go_meet
                exact ⟨rfl, HD13.out⟩
          case rest =>
            obtain ⟨rfl, hD⟩ := hcut
            have HD14 := Lib.hid hD
            clear hD HD13 p0
            have m0 : wc.cell? ⟨w4.heap.size + 1 + 1, 0, none⟩ = some (.int .i64 6) := (blk_cell HD14.out.kd 0).trans rfl
            have m1 : wc.cell? ⟨w4.heap.size + 1 + 1, 1, none⟩ = some (.int .i64 0) := (blk_cell HD14.out.kd 1).trans rfl
            have m2 : wc.cell? ⟨w4.heap.size + 1 + 1, 2, none⟩ = some (.string ⟨#[]⟩) := (blk_cell HD14.out.kd 2).trans rfl
            have m3 : wc.cell? ⟨w4.heap.size + 1 + 1, 3, none⟩ = some (.slice (some ⟨w4.heap.size, 0, none⟩) 1 1) := (blk_cell HD14.out.kd 3).trans rfl
            have m4 : wc.cell? ⟨w4.heap.size + 1 + 1, 4, none⟩ = some (.slice (some ⟨w4.heap.size + 1, 0, none⟩) 1 1) := (blk_cell HD14.out.kd 4).trans rfl
            have q0 : wc.cell? ⟨w.heap.size + 1, 0, none⟩ = some (.int .i64 a0) := (blk_cell HD14.out.k1 0).trans rfl
            have q1 : wc.cell? ⟨w.heap.size + 1, 1, none⟩ = some (.int .i64 a1) := (blk_cell HD14.out.k1 1).trans rfl
            have q2 : wc.cell? ⟨w.heap.size + 1, 2, none⟩ = some (.string a2) := (blk_cell HD14.out.k1 2).trans rfl
            have q3 : wc.cell? ⟨w.heap.size + 1, 3, none⟩ = some (.slice A3 as3.length c3) := (blk_cell HD14.out.k1 3).trans rfl
            have q4 : wc.cell? ⟨w.heap.size + 1, 4, none⟩ = some (.slice A4 as4.length c4) := (blk_cell HD14.out.k1 4).trans rfl
            have hC := ask_any sB sLe (ob sA ⟨x0, x1, x2, xs3, xs4⟩) ⟨a0, a1, a2, as3, as4⟩ (some ⟨w4.heap.size, 0, none⟩) 1 (some ⟨w4.heap.size + 1, 0, none⟩) 1 A3 c3 A4 c4 wc HD14.out.rd (HA.out.below HD14.out.bl) (HT.out.below HD14.out.bl)
            rw [chkb_b (tst_le _), ask_b (tst_le _) HFD.out, HV4.out, pass_le_no] at hC
            go_wp2_with fail
            refine hC.mono ?_; rintro e w15 ⟨rfl, hb⟩
            have hD := HD14.out.below hb
            have HD15 := Lib.hid hD; clear hD hb hC HD14 m0 m1 m2 m3 m4 q0 q1 q2 q3 q4
            have m0 : w15.cell? ⟨w4.heap.size + 1 + 1, 0, none⟩ = some (.int .i64 6) := (blk_cell HD15.out.kd 0).trans rfl
            have m1 : w15.cell? ⟨w4.heap.size + 1 + 1, 1, none⟩ = some (.int .i64 0) := (blk_cell HD15.out.kd 1).trans rfl
            have m2 : w15.cell? ⟨w4.heap.size + 1 + 1, 2, none⟩ = some (.string ⟨#[]⟩) := (blk_cell HD15.out.kd 2).trans rfl
            have m3 : w15.cell? ⟨w4.heap.size + 1 + 1, 3, none⟩ = some (.slice (some ⟨w4.heap.size, 0, none⟩) 1 1) := (blk_cell HD15.out.kd 3).trans rfl
            have m4 : w15.cell? ⟨w4.heap.size + 1 + 1, 4, none⟩ = some (.slice (some ⟨w4.heap.size + 1, 0, none⟩) 1 1) := (blk_cell HD15.out.kd 4).trans rfl
            have q0 : w15.cell? ⟨w.heap.size + 1, 0, none⟩ = some (.int .i64 a0) := (blk_cell HD15.out.k1 0).trans rfl
            have q1 : w15.cell? ⟨w.heap.size + 1, 1, none⟩ = some (.int .i64 a1) := (blk_cell HD15.out.k1 1).trans rfl
            have q2 : w15.cell? ⟨w.heap.size + 1, 2, none⟩ = some (.string a2) := (blk_cell HD15.out.k1 2).trans rfl
            have q3 : w15.cell? ⟨w.heap.size + 1, 3, none⟩ = some (.slice A3 as3.length c3) := (blk_cell HD15.out.k1 3).trans rfl
            have q4 : w15.cell? ⟨w.heap.size + 1, 4, none⟩ = some (.slice A4 as4.length c4) := (blk_cell HD15.out.k1 4).trans rfl
            have hC := ask_any sB sNe (ob sA ⟨x0, x1, x2, xs3, xs4⟩) ⟨a0, a1, a2, as3, as4⟩ (some ⟨w4.heap.size, 0, none⟩) 1 (some ⟨w4.heap.size + 1, 0, none⟩) 1 A3 c3 A4 c4 w15 HD15.out.rd (HA.out.below HD15.out.bl) (HT.out.below HD15.out.bl)
            rw [chkb_b (tst_ne _), ask_b (tst_ne _) HFD.out, HV4.out, pass_ne_no] at hC
            go_wp2_with fail
            refine hC.mono ?_; rintro e w16 ⟨rfl, hb⟩
            have hD := HD15.out.below hb
            have HD16 := Lib.hid hD; clear hD hb hC HD15 m0 m1 m2 m3 m4 q0 q1 q2 q3 q4
            have m0 : w16.cell? ⟨w4.heap.size + 1 + 1, 0, none⟩ = some (.int .i64 6) := (blk_cell HD16.out.kd 0).trans rfl
            have m1 : w16.cell? ⟨w4.heap.size + 1 + 1, 1, none⟩ = some (.int .i64 0) := (blk_cell HD16.out.kd 1).trans rfl
            have m2 : w16.cell? ⟨w4.heap.size + 1 + 1, 2, none⟩ = some (.string ⟨#[]⟩) := (blk_cell HD16.out.kd 2).trans rfl
            have m3 : w16.cell? ⟨w4.heap.size + 1 + 1, 3, none⟩ = some (.slice (some ⟨w4.heap.size, 0, none⟩) 1 1) := (blk_cell HD16.out.kd 3).trans rfl
            have m4 : w16.cell? ⟨w4.heap.size + 1 + 1, 4, none⟩ = some (.slice (some ⟨w4.heap.size + 1, 0, none⟩) 1 1) := (blk_cell HD16.out.kd 4).trans rfl
            have hC := ask_any sB sHas (ob sA ⟨x0, x1, x2, xs3, xs4⟩) ⟨1, 0, ⟨#[]⟩, [], []⟩ (some ⟨w4.heap.size, 0, none⟩) 1 (some ⟨w4.heap.size + 1, 0, none⟩) 1 none 0 none 0 w16 HD16.out.rd (rd_nil _ 1 0 ⟨#[]⟩) (HT.out.below HD16.out.bl)
            rw [chkb_b (tst_has _ rfl), ask_b (tst_has _ rfl) HFD.out, false_formed, pass_has_no] at hC
            go_wp2_with fail
            refine hC.mono ?_; rintro e w17 ⟨rfl, hb⟩
            have hD := HD16.out.below hb
            have HD17 := Lib.hid hD; clear hD hb hC HD16 m0 m1 m2 m3 m4
            go_wp2_with fail
            go_ret
            exact ⟨rfl, HD17.out.bl⟩

end Go.Proofs.YtehdnjegipcpfaaDoor
