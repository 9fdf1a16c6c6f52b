/-
  The law FilterLogic is walked: it answers true; under utf8's tables.
-/
import Derived.Test.YtehdnjegipcpfaaDoorMade
namespace Go.Proofs.YtehdnjegipcpfaaDoor
open Go.RowKit Go.Proofs.YtehdnjegipcpfaaDoorW.PrintWords Go.Proofs.YtehdnjegipcpfaaDoorW.PrintLast Go.Proofs.YtehdnjegipcpfaaDoorW.PrintMore
open PFilterHolds Go.Shelf

theorem three_boxes (w : World) (o o' o'' : Obj) : Below w.heap.size w (((w.alloc o).alloc o').alloc o'') := below_alloc (two_boxes w o o') _
theorem three_boxes_0 (w : World) (o o' o'' : Obj) : (((w.alloc o).alloc o').alloc o'').heap[w.heap.size]? = some o := blk_alloc (two_boxes_0 w o o') o''
theorem three_boxes_1 (w : World) (o o' o'' : Obj) : (((w.alloc o).alloc o').alloc o'').heap[w.heap.size + 1]? = some o' := blk_alloc (two_boxes_1 w o o') o''
theorem three_boxes_2 (w : World) (o o' o'' : Obj) : (((w.alloc o).alloc o').alloc o'').heap[w.heap.size + 1 + 1]? = some o'' := by have := new_blk ((w.alloc o).alloc o') o''; simpa using this

/-- Blocks laid one behind the other. -/
def allocs (w : World) (l : List Obj) : World := l.foldl World.alloc w

theorem allocs_below : ∀ (l : List Obj) (w : World), Below w.heap.size w (allocs w l)
  | [], w => Below.refl _ _
  | o :: l, w => by
    have h1 : Below w.heap.size w (w.alloc o) := below_alloc (Below.refl _ w) o
    exact h1.trans ((allocs_below l (w.alloc o)).mono h1.size)

theorem allocs_get : ∀ (l : List Obj) (w : World) (i : Nat) (o : Obj), l[i]? = some o → (allocs w l).heap[w.heap.size + i]? = some o
  | [], w, i, o, h => by simp at h
  | a :: l, w, 0, o, h => by
    have : a = o := by simpa using h
    subst this
    exact blk_below (new_blk w a) (allocs_below l (w.alloc a))
  | a :: l, w, i + 1, o, h => by
    have h1 := allocs_get l (w.alloc a) i o (by simpa using h)
    have e : (w.alloc a).heap.size + i = w.heap.size + (i + 1) := by simp; omega
    rw [e] at h1
    exact h1

/-- What is known of the memory once the three filters are made. -/
structure Lk (w : World) (n : Nat) (f g x : S25) (F3 : Option Addr) (f3 : Nat) (F4 : Option Addr) (f4 : Nat) (G3 : Option Addr) (g3 : Nat) (G4 : Option Addr) (g4 : Nat) (X3 : Option Addr) (x3 : Nat) (X4 : Option Addr) (x4 : Nat) (W : World) : Prop where
  b : Below w.heap.size w W
  k0 : W.heap[w.heap.size]? = some (.cells (cs25 f F3 f3 F4 f4) 25 (0, 0))
  k1 : W.heap[w.heap.size + 1]? = some (.cells (cs25 g G3 g3 G4 g4) 25 (0, 0))
  k2 : W.heap[w.heap.size + 1 + 1]? = some (.cells (cs25 x X3 x3 X4 x4) 25 (0, 0))
  kn : W.heap[n + 1 + 1 + 1 + 1]? = some (.cells (cs25 (ob sNot f) (some ⟨n + 1 + 1, 0, none⟩) 1 (some ⟨n + 1 + 1 + 1, 0, none⟩) 1) 25 (0, 0))
  ka : W.heap[n + 1 + 1 + 1 + 1 + 1 + 1 + 1]? = some (.cells (cs25 (ob sAnd (both f g)) (some ⟨n + 1 + 1 + 1 + 1 + 1, 0, none⟩) 1 (some ⟨n + 1 + 1 + 1 + 1 + 1 + 1, 0, none⟩) 1) 25 (0, 0))
  ko : W.heap[n + 1 + 1 + 1 + 1 + 1 + 1 + 1 + 1 + 1 + 1]? = some (.cells (cs25 (ob sOr (both f g)) (some ⟨n + 1 + 1 + 1 + 1 + 1 + 1 + 1 + 1, 0, none⟩) 1 (some ⟨n + 1 + 1 + 1 + 1 + 1 + 1 + 1 + 1 + 1, 0, none⟩) 1) 25 (0, 0))
  rn : Rd W (some ⟨n + 1 + 1, 0, none⟩) 1 (some ⟨n + 1 + 1 + 1, 0, none⟩) 1 (ob sNot f)
  ra : Rd W (some ⟨n + 1 + 1 + 1 + 1 + 1, 0, none⟩) 1 (some ⟨n + 1 + 1 + 1 + 1 + 1 + 1, 0, none⟩) 1 (ob sAnd (both f g))
  ro : Rd W (some ⟨n + 1 + 1 + 1 + 1 + 1 + 1 + 1 + 1, 0, none⟩) 1 (some ⟨n + 1 + 1 + 1 + 1 + 1 + 1 + 1 + 1 + 1, 0, none⟩) 1 (ob sOr (both f g))

theorem Lk.below {w : World} {n : Nat} {f g x : S25} {F3 : Option Addr} {f3 : Nat} {F4 : Option Addr} {f4 : Nat} {G3 : Option Addr} {g3 : Nat} {G4 : Option Addr} {g4 : Nat} {X3 : Option Addr} {x3 : Nat} {X4 : Option Addr} {x4 : Nat} {W W' : World} (h : Lk w n f g x F3 f3 F4 f4 G3 g3 G4 g4 X3 x3 X4 x4 W) (hb : Below W.heap.size W W') : Lk w n f g x F3 f3 F4 f4 G3 g3 G4 g4 X3 x3 X4 x4 W' :=
  ⟨h.b.trans (hb.mono h.b.size), blk_below h.k0 hb, blk_below h.k1 hb, blk_below h.k2 hb, blk_below h.kn hb, blk_below h.ka hb, blk_below h.ko hb, h.rn.below hb, h.ra.below hb, h.ro.below hb⟩

theorem lk_made (w w3 : World) (f g x : S25) (F3 : Option Addr) (f3 : Nat) (F4 : Option Addr) (f4 : Nat) (G3 : Option Addr) (g3 : Nat) (G4 : Option Addr) (g4 : Nat) (X3 : Option Addr) (x3 : Nat) (X4 : Option Addr) (x4 : Nat) (hb : Below w.heap.size w w3) (k0 : w3.heap[w.heap.size]? = some (.cells (cs25 f F3 f3 F4 f4) 25 (0, 0))) (k1 : w3.heap[w.heap.size + 1]? = some (.cells (cs25 g G3 g3 G4 g4) 25 (0, 0))) (k2 : w3.heap[w.heap.size + 1 + 1]? = some (.cells (cs25 x X3 x3 X4 x4) 25 (0, 0))) (hf : Rd w F3 f3 F4 f4 f) (hg : Rd w G3 g3 G4 g4 g) :
    Lk w w3.heap.size f g x F3 f3 F4 f4 G3 g3 G4 g4 X3 x3 X4 x4 (allocs w3 [
      .cells #[.int .i64 f.f0, .int .i64 f.f1, .string f.f2, .slice F3 f.f3.length f3, .slice F4 f.f4.length f4, .int .i64 g.f0, .int .i64 g.f1, .string g.f2, .slice G3 g.f3.length g3, .slice G4 g.f4.length g4] 25,
      .cells (cs25 (both f g) none 0 (some ⟨w3.heap.size, 0, none⟩) 2) 25,
      .cells #[.string sNot] 9, .cells (cs25 f F3 f3 F4 f4) 25,
      .cells (cs25 (ob sNot f) (some ⟨w3.heap.size + 1 + 1, 0, none⟩) 1 (some ⟨w3.heap.size + 1 + 1 + 1, 0, none⟩) 1) 25,
      .cells #[.string sAnd] 9, .cells (cs25 (both f g) none 0 (some ⟨w3.heap.size, 0, none⟩) 2) 25,
      .cells (cs25 (ob sAnd (both f g)) (some ⟨w3.heap.size + 1 + 1 + 1 + 1 + 1, 0, none⟩) 1 (some ⟨w3.heap.size + 1 + 1 + 1 + 1 + 1 + 1, 0, none⟩) 1) 25,
      .cells #[.string sOr] 9, .cells (cs25 (both f g) none 0 (some ⟨w3.heap.size, 0, none⟩) 2) 25,
      .cells (cs25 (ob sOr (both f g)) (some ⟨w3.heap.size + 1 + 1 + 1 + 1 + 1 + 1 + 1 + 1, 0, none⟩) 1 (some ⟨w3.heap.size + 1 + 1 + 1 + 1 + 1 + 1 + 1 + 1 + 1, 0, none⟩) 1) 25]) := by
  generalize hl : ([_, _, _, _, _, _, _, _, _, _, _] : List Obj) = l
  have hB := allocs_below l w3
  have hW := hb.trans (hB.mono hb.size)
  have g0 := allocs_get l w3 0 _ (by rw [← hl]; rfl)
  have g2 := allocs_get l w3 2 _ (by rw [← hl]; rfl)
  have g3' := allocs_get l w3 3 _ (by rw [← hl]; rfl)
  have g4' := allocs_get l w3 4 _ (by rw [← hl]; rfl)
  have g5 := allocs_get l w3 5 _ (by rw [← hl]; rfl)
  have g6 := allocs_get l w3 6 _ (by rw [← hl]; rfl)
  have g7 := allocs_get l w3 7 _ (by rw [← hl]; rfl)
  have g8 := allocs_get l w3 8 _ (by rw [← hl]; rfl)
  have g9 := allocs_get l w3 9 _ (by rw [← hl]; rfl)
  have g10 := allocs_get l w3 10 _ (by rw [← hl]; rfl)
  have hR := rd_both g0 (hf.below hW) (hg.below hW)
  exact ⟨hW, blk_below k0 hB, blk_below k1 hB, blk_below k2 hB, g4', g7, g10, rd_ob g2 g3' (hf.below hW), rd_ob g5 g6 hR, rd_ob g8 g9 hR⟩

set_option maxRecDepth 100000 in
set_option maxHeartbeats 4000000 in
theorem logic_any (f g x : S25) (F3 : Option Addr) (f3 : Nat) (F4 : Option Addr) (f4 : Nat) (G3 : Option Addr) (g3 : Nat) (G4 : Option Addr) (g4 : Nat) (X3 : Option Addr) (x3 : Nat) (X4 : Option Addr) (x4 : Nat) (w : World) (hf : Rd w F3 f3 F4 f4 f) (hg : Rd w G3 g3 G4 g4 g) (hx : Rd w X3 x3 X4 x4 x) (hT : Tabs w) :
    Calls Tryd.prog 4 #[av f F3 f3 F4 f4, av g G3 g3 G4 g4, av x X3 x3 X4 x4] w fun e w' => e = .returned (.bool true) ∧ Below w.heap.size w w' := by
  have hb0 := three_boxes w (.cells (cs25 f F3 f3 F4 f4) 25) (.cells (cs25 g G3 g3 G4 g4) 25) (.cells (cs25 x X3 x3 X4 x4) 25)
  have hk0 := three_boxes_0 w (.cells (cs25 f F3 f3 F4 f4) 25) (.cells (cs25 g G3 g3 G4 g4) 25) (.cells (cs25 x X3 x3 X4 x4) 25)
  have hk1 := three_boxes_1 w (.cells (cs25 f F3 f3 F4 f4) 25) (.cells (cs25 g G3 g3 G4 g4) 25) (.cells (cs25 x X3 x3 X4 x4) 25)
  have hk2 := three_boxes_2 w (.cells (cs25 f F3 f3 F4 f4) 25) (.cells (cs25 g G3 g3 G4 g4) 25) (.cells (cs25 x X3 x3 X4 x4) 25)
  have hAw := fun W (hb : Below w.heap.size w W) => awake_any W (hT.below hb)
  obtain ⟨rf, hFew⟩ := fewL_any [f, g, x] (by simp)
  have hFm := fun W (hb : Below w.heap.size w W) => Formed_any x X3 x3 X4 x4 W (hx.below hb) (hT.below hb)
  have hA0 := hAw _ hb0
  have HB0 := Lib.hid hb0; clear hb0
  have HK0 := Lib.hid hk0; clear hk0
  have HK1 := Lib.hid hk1; clear hk1
  have HK2 := Lib.hid hk2; clear hk2
  have HAW := Lib.hid hAw; clear hAw
  have HFEW := Lib.hid hFew; clear hFew
  have HFM := Lib.hid hFm; clear hFm
  have HF := Lib.hid hf; clear hf
  have HG := Lib.hid hg; clear hg
  have HX := Lib.hid hx; clear hx
  have HT := Lib.hid hT; clear hT
  obtain ⟨a0, a1, a2, a3, a4⟩ := f
  obtain ⟨b0, b1, b2, b3, b4⟩ := g
  obtain ⟨x0, x1, x2, xs3, xs4⟩ := x
  go_enter Tryd.func4, Tryd.ntmps4
  go_wp2_with fail
  refine hA0.mono ?_; rintro e w1 ⟨rfl, hb⟩
  have hB1 := HB0.out.trans (hb.mono HB0.out.size)
  have k0 := blk_below HK0.out hb
  have k1 := blk_below HK1.out hb
  have k2 := blk_below HK2.out hb
  have HB1 := Lib.hid hB1; clear hB1 hA0
  clear hb HK0 HK1 HK2 HB0
  have p0 : w1.cell? ⟨w.heap.size, 0, none⟩ = some (.int .i64 a0) := (blk_cell k0 0).trans rfl
  have p1 : w1.cell? ⟨w.heap.size, 1, none⟩ = some (.int .i64 a1) := (blk_cell k0 1).trans rfl
  have p2 : w1.cell? ⟨w.heap.size, 2, none⟩ = some (.string a2) := (blk_cell k0 2).trans rfl
  have p3 : w1.cell? ⟨w.heap.size, 3, none⟩ = some (.slice F3 a3.length f3) := (blk_cell k0 3).trans rfl
  have p4 : w1.cell? ⟨w.heap.size, 4, none⟩ = some (.slice F4 a4.length f4) := (blk_cell k0 4).trans rfl
  have q0 : w1.cell? ⟨w.heap.size + 1, 0, none⟩ = some (.int .i64 b0) := (blk_cell k1 0).trans rfl
  have q1 : w1.cell? ⟨w.heap.size + 1, 1, none⟩ = some (.int .i64 b1) := (blk_cell k1 1).trans rfl
  have q2 : w1.cell? ⟨w.heap.size + 1, 2, none⟩ = some (.string b2) := (blk_cell k1 2).trans rfl
  have q3 : w1.cell? ⟨w.heap.size + 1, 3, none⟩ = some (.slice G3 b3.length g3) := (blk_cell k1 3).trans rfl
  have q4 : w1.cell? ⟨w.heap.size + 1, 4, none⟩ = some (.slice G4 b4.length g4) := (blk_cell k1 4).trans rfl
  have r0 : w1.cell? ⟨w.heap.size + 1 + 1, 0, none⟩ = some (.int .i64 x0) := (blk_cell k2 0).trans rfl
  have r1 : w1.cell? ⟨w.heap.size + 1 + 1, 1, none⟩ = some (.int .i64 x1) := (blk_cell k2 1).trans rfl
  have r2 : w1.cell? ⟨w.heap.size + 1 + 1, 2, none⟩ = some (.string x2) := (blk_cell k2 2).trans rfl
  have r3 : w1.cell? ⟨w.heap.size + 1 + 1, 3, none⟩ = some (.slice X3 xs3.length x3) := (blk_cell k2 3).trans rfl
  have r4 : w1.cell? ⟨w.heap.size + 1 + 1, 4, none⟩ = some (.slice X4 xs4.length x4) := (blk_cell k2 4).trans rfl
  have hNew := new_blk w1 (.cells #[.int .i64 a0, .int .i64 a1, .string a2, .slice F3 a3.length f3, .slice F4 a4.length f4, .int .i64 b0, .int .i64 b1, .string b2, .slice G3 b3.length g3, .slice G4 b4.length g4, .int .i64 x0, .int .i64 x1, .string x2, .slice X3 xs3.length x3, .slice X4 xs4.length x4] 25)
  have hBn : Below w.heap.size w (w1.alloc (.cells #[.int .i64 a0, .int .i64 a1, .string a2, .slice F3 a3.length f3, .slice F4 a4.length f4, .int .i64 b0, .int .i64 b1, .string b2, .slice G3 b3.length g3, .slice G4 b4.length g4, .int .i64 x0, .int .i64 x1, .string x2, .slice X3 xs3.length x3, .slice X4 xs4.length x4] 25)) := below_alloc HB1.out _
  have hF1 := HFEW.out _ 3 _ (c_three hNew (HF.out.below hBn) (HG.out.below hBn) (HX.out.below hBn)) (by simp)
  have hsl : ([⟨a0, a1, a2, a3, a4⟩, ⟨b0, b1, b2, b3, b4⟩, ⟨x0, x1, x2, xs3, xs4⟩] : List S25).length = 3 := rfl
  rw [hsl] at hF1
  clear hsl hNew
  have K0 := Lib.hid (blk_alloc k0 (.cells #[.int .i64 a0, .int .i64 a1, .string a2, .slice F3 a3.length f3, .slice F4 a4.length f4, .int .i64 b0, .int .i64 b1, .string b2, .slice G3 b3.length g3, .slice G4 b4.length g4, .int .i64 x0, .int .i64 x1, .string x2, .slice X3 xs3.length x3, .slice X4 xs4.length x4] 25))
  have K1 := Lib.hid (blk_alloc k1 (.cells #[.int .i64 a0, .int .i64 a1, .string a2, .slice F3 a3.length f3, .slice F4 a4.length f4, .int .i64 b0, .int .i64 b1, .string b2, .slice G3 b3.length g3, .slice G4 b4.length g4, .int .i64 x0, .int .i64 x1, .string x2, .slice X3 xs3.length x3, .slice X4 xs4.length x4] 25))
  have K2 := Lib.hid (blk_alloc k2 (.cells #[.int .i64 a0, .int .i64 a1, .string a2, .slice F3 a3.length f3, .slice F4 a4.length f4, .int .i64 b0, .int .i64 b1, .string b2, .slice G3 b3.length g3, .slice G4 b4.length g4, .int .i64 x0, .int .i64 x1, .string x2, .slice X3 xs3.length x3, .slice X4 xs4.length x4] 25))
  have HBN := Lib.hid hBn; clear hBn k0 k1 k2
  go_wp2_with fail
  refine hF1.mono ?_; rintro e w2 ⟨rfl, hb⟩
  have hB2 := HBN.out.trans (hb.mono HBN.out.size)
  have k0 := blk_below K0.out hb
  have k1 := blk_below K1.out hb
  have k2 := blk_below K2.out hb
  have HB2 := Lib.hid hB2; clear hB2 hF1 hb
  clear p0 p1 p2 p3 p4 q0 q1 q2 q3 q4 r0 r1 r2 r3 r4 K0 K1 K2 HBN HB1
  cases rf with
  | false =>
    have hA := HAW.out w2 HB2.out
    go_wp2_with fail
    refine hA.mono ?_; rintro e w3 ⟨rfl, hb⟩
    have HB3 := Lib.hid hb; clear hb hA
    go_wp2_with fail
    go_ret
    exact ⟨rfl, HB2.out.trans (HB3.out.mono HB2.out.size)⟩
  | true =>
  have r0 : w2.cell? ⟨w.heap.size + 1 + 1, 0, none⟩ = some (.int .i64 x0) := (blk_cell k2 0).trans rfl
  cases t1 : x0 != 6 with
  | true =>
    have hA := HAW.out w2 HB2.out
    go_wp2_with fail
    refine hA.mono ?_; rintro e w3 ⟨rfl, hb⟩
    have HB3 := Lib.hid hb; clear hb hA
    go_wp2_with fail
    go_ret
    exact ⟨rfl, HB2.out.trans (HB3.out.mono HB2.out.size)⟩
  | false =>
  have r1 : w2.cell? ⟨w.heap.size + 1 + 1, 1, none⟩ = some (.int .i64 x1) := (blk_cell k2 1).trans rfl
  have r2 : w2.cell? ⟨w.heap.size + 1 + 1, 2, none⟩ = some (.string x2) := (blk_cell k2 2).trans rfl
  have r3 : w2.cell? ⟨w.heap.size + 1 + 1, 3, none⟩ = some (.slice X3 xs3.length x3) := (blk_cell k2 3).trans rfl
  have r4 : w2.cell? ⟨w.heap.size + 1 + 1, 4, none⟩ = some (.slice X4 xs4.length x4) := (blk_cell k2 4).trans rfl
  have hF := HFM.out w2 HB2.out
  obtain ⟨fx, hfx⟩ : ∃ b, fmJ ⟨x0, x1, x2, xs3, xs4⟩ = b := ⟨_, rfl⟩
  rw [hfx] at hF
  have HFX := Lib.hid hfx; clear hfx
  have K0 := Lib.hid k0; clear k0
  have K1 := Lib.hid k1; clear k1
  have K2 := Lib.hid k2; clear k2
  go_wp2_with fail
  refine hF.mono ?_; rintro e w3 ⟨rfl, hb⟩
  have hB3 := HB2.out.trans (hb.mono HB2.out.size)
  have k0 := blk_below K0.out hb
  have k1 := blk_below K1.out hb
  have k2 := blk_below K2.out hb
  have HB3 := Lib.hid hB3; clear hB3 hF hb
  clear r0 r1 r2 r3 r4 K0 K1 K2 HB2
  cases fx with
  | false =>
    have hA := HAW.out w3 HB3.out
    go_wp2_with fail
    refine hA.mono ?_; rintro e w4 ⟨rfl, hb⟩
    have HB4 := Lib.hid hb; clear hb hA
    go_wp2_with fail
    go_ret
    exact ⟨rfl, HB3.out.trans (HB4.out.mono HB3.out.size)⟩
  | true =>
    have hlt2 : w.heap.size + 1 + 1 < w3.heap.size := blk_lt k2
    have n0_0 : w.heap.size < w3.heap.size := by omega
    have n1_0 : w.heap.size + 1 < w3.heap.size := by omega
    have n2_0 : w.heap.size + 1 + 1 < w3.heap.size := by omega
    have n0_1 : w.heap.size < w3.heap.size + 1 := by omega
    have n1_1 : w.heap.size + 1 < w3.heap.size + 1 := by omega
    have n2_1 : w.heap.size + 1 + 1 < w3.heap.size + 1 := by omega
    have n0_2 : w.heap.size < w3.heap.size + 1 + 1 := by omega
    have n1_2 : w.heap.size + 1 < w3.heap.size + 1 + 1 := by omega
    have n2_2 : w.heap.size + 1 + 1 < w3.heap.size + 1 + 1 := by omega
    have n0_3 : w.heap.size < w3.heap.size + 1 + 1 + 1 := by omega
    have n1_3 : w.heap.size + 1 < w3.heap.size + 1 + 1 + 1 := by omega
    have n2_3 : w.heap.size + 1 + 1 < w3.heap.size + 1 + 1 + 1 := by omega
    have n0_4 : w.heap.size < w3.heap.size + 1 + 1 + 1 + 1 := by omega
    have n1_4 : w.heap.size + 1 < w3.heap.size + 1 + 1 + 1 + 1 := by omega
    have n2_4 : w.heap.size + 1 + 1 < w3.heap.size + 1 + 1 + 1 + 1 := by omega
    have n0_5 : w.heap.size < w3.heap.size + 1 + 1 + 1 + 1 + 1 := by omega
    have n1_5 : w.heap.size + 1 < w3.heap.size + 1 + 1 + 1 + 1 + 1 := by omega
    have n2_5 : w.heap.size + 1 + 1 < w3.heap.size + 1 + 1 + 1 + 1 + 1 := by omega
    have n0_6 : w.heap.size < w3.heap.size + 1 + 1 + 1 + 1 + 1 + 1 := by omega
    have n1_6 : w.heap.size + 1 < w3.heap.size + 1 + 1 + 1 + 1 + 1 + 1 := by omega
    have n2_6 : w.heap.size + 1 + 1 < w3.heap.size + 1 + 1 + 1 + 1 + 1 + 1 := by omega
    have n0_7 : w.heap.size < w3.heap.size + 1 + 1 + 1 + 1 + 1 + 1 + 1 := by omega
    have n1_7 : w.heap.size + 1 < w3.heap.size + 1 + 1 + 1 + 1 + 1 + 1 + 1 := by omega
    have n2_7 : w.heap.size + 1 + 1 < w3.heap.size + 1 + 1 + 1 + 1 + 1 + 1 + 1 := by omega
    have n0_8 : w.heap.size < w3.heap.size + 1 + 1 + 1 + 1 + 1 + 1 + 1 + 1 := by omega
    have n1_8 : w.heap.size + 1 < w3.heap.size + 1 + 1 + 1 + 1 + 1 + 1 + 1 + 1 := by omega
    have n2_8 : w.heap.size + 1 + 1 < w3.heap.size + 1 + 1 + 1 + 1 + 1 + 1 + 1 + 1 := by omega
    have n0_9 : w.heap.size < w3.heap.size + 1 + 1 + 1 + 1 + 1 + 1 + 1 + 1 + 1 := by omega
    have n1_9 : w.heap.size + 1 < w3.heap.size + 1 + 1 + 1 + 1 + 1 + 1 + 1 + 1 + 1 := by omega
    have n2_9 : w.heap.size + 1 + 1 < w3.heap.size + 1 + 1 + 1 + 1 + 1 + 1 + 1 + 1 + 1 := by omega
    have n0_10 : w.heap.size < w3.heap.size + 1 + 1 + 1 + 1 + 1 + 1 + 1 + 1 + 1 + 1 := by omega
    have n1_10 : w.heap.size + 1 < w3.heap.size + 1 + 1 + 1 + 1 + 1 + 1 + 1 + 1 + 1 + 1 := by omega
    have n2_10 : w.heap.size + 1 + 1 < w3.heap.size + 1 + 1 + 1 + 1 + 1 + 1 + 1 + 1 + 1 + 1 := by omega
    have n0_11 : w.heap.size < w3.heap.size + 1 + 1 + 1 + 1 + 1 + 1 + 1 + 1 + 1 + 1 + 1 := by omega
    have n1_11 : w.heap.size + 1 < w3.heap.size + 1 + 1 + 1 + 1 + 1 + 1 + 1 + 1 + 1 + 1 + 1 := by omega
    have n2_11 : w.heap.size + 1 + 1 < w3.heap.size + 1 + 1 + 1 + 1 + 1 + 1 + 1 + 1 + 1 + 1 + 1 := by omega
    have p0 : w3.cell? ⟨w.heap.size, 0, none⟩ = some (.int .i64 a0) := (blk_cell k0 0).trans rfl
    have p1 : w3.cell? ⟨w.heap.size, 1, none⟩ = some (.int .i64 a1) := (blk_cell k0 1).trans rfl
    have p2 : w3.cell? ⟨w.heap.size, 2, none⟩ = some (.string a2) := (blk_cell k0 2).trans rfl
    have p3 : w3.cell? ⟨w.heap.size, 3, none⟩ = some (.slice F3 a3.length f3) := (blk_cell k0 3).trans rfl
    have p4 : w3.cell? ⟨w.heap.size, 4, none⟩ = some (.slice F4 a4.length f4) := (blk_cell k0 4).trans rfl
    have q0 : w3.cell? ⟨w.heap.size + 1, 0, none⟩ = some (.int .i64 b0) := (blk_cell k1 0).trans rfl
    have q1 : w3.cell? ⟨w.heap.size + 1, 1, none⟩ = some (.int .i64 b1) := (blk_cell k1 1).trans rfl
    have q2 : w3.cell? ⟨w.heap.size + 1, 2, none⟩ = some (.string b2) := (blk_cell k1 2).trans rfl
    have q3 : w3.cell? ⟨w.heap.size + 1, 3, none⟩ = some (.slice G3 b3.length g3) := (blk_cell k1 3).trans rfl
    have q4 : w3.cell? ⟨w.heap.size + 1, 4, none⟩ = some (.slice G4 b4.length g4) := (blk_cell k1 4).trans rfl
    have K0 := Lib.hid k0; clear k0
    have K1 := Lib.hid k1; clear k1
    have K2 := Lib.hid k2; clear k2
    go_upto_region 7 with fail
    have hL := lk_made w w3 ⟨a0, a1, a2, a3, a4⟩ ⟨b0, b1, b2, b3, b4⟩ ⟨x0, x1, x2, xs3, xs4⟩ F3 f3 F4 f4 G3 g3 G4 g4 X3 x3 X4 x4 HB3.out K0.out K1.out K2.out HF.out HG.out
    refine any_world (fun W => Lk w w3.heap.size ⟨a0, a1, a2, a3, a4⟩ ⟨b0, b1, b2, b3, b4⟩ ⟨x0, x1, x2, xs3, xs4⟩ F3 f3 F4 f4 G3 g3 G4 g4 X3 x3 X4 x4 W) hL ?_
    intro W hLW
    have HLW := Lib.hid hLW
    clear hL K0 K1 K2 HB3 p0 p1 p2 p3 p4 q0 q1 q2 q3 q4 HFEW HAW HFM
    have p0 : W.cell? ⟨w.heap.size, 0, none⟩ = some (.int .i64 a0) := (blk_cell hLW.k0 0).trans rfl
    have p1 : W.cell? ⟨w.heap.size, 1, none⟩ = some (.int .i64 a1) := (blk_cell hLW.k0 1).trans rfl
    have p2 : W.cell? ⟨w.heap.size, 2, none⟩ = some (.string a2) := (blk_cell hLW.k0 2).trans rfl
    have p3 : W.cell? ⟨w.heap.size, 3, none⟩ = some (.slice F3 a3.length f3) := (blk_cell hLW.k0 3).trans rfl
    have p4 : W.cell? ⟨w.heap.size, 4, none⟩ = some (.slice F4 a4.length f4) := (blk_cell hLW.k0 4).trans rfl
    have q0 : W.cell? ⟨w.heap.size + 1, 0, none⟩ = some (.int .i64 b0) := (blk_cell hLW.k1 0).trans rfl
    have q1 : W.cell? ⟨w.heap.size + 1, 1, none⟩ = some (.int .i64 b1) := (blk_cell hLW.k1 1).trans rfl
    have q2 : W.cell? ⟨w.heap.size + 1, 2, none⟩ = some (.string b2) := (blk_cell hLW.k1 2).trans rfl
    have q3 : W.cell? ⟨w.heap.size + 1, 3, none⟩ = some (.slice G3 b3.length g3) := (blk_cell hLW.k1 3).trans rfl
    have q4 : W.cell? ⟨w.heap.size + 1, 4, none⟩ = some (.slice G4 b4.length g4) := (blk_cell hLW.k1 4).trans rfl
    have r0 : W.cell? ⟨w.heap.size + 1 + 1, 0, none⟩ = some (.int .i64 x0) := (blk_cell hLW.k2 0).trans rfl
    have r1 : W.cell? ⟨w.heap.size + 1 + 1, 1, none⟩ = some (.int .i64 x1) := (blk_cell hLW.k2 1).trans rfl
    have r2 : W.cell? ⟨w.heap.size + 1 + 1, 2, none⟩ = some (.string x2) := (blk_cell hLW.k2 2).trans rfl
    have r3 : W.cell? ⟨w.heap.size + 1 + 1, 3, none⟩ = some (.slice X3 xs3.length x3) := (blk_cell hLW.k2 3).trans rfl
    have r4 : W.cell? ⟨w.heap.size + 1 + 1, 4, none⟩ = some (.slice X4 xs4.length x4) := (blk_cell hLW.k2 4).trans rfl
    clear hLW
    have h6 : x0 = 6 := by simpa using t1
    have hN := not_law ⟨a0, a1, a2, a3, a4⟩ ⟨x0, x1, x2, xs3, xs4⟩ h6 HFX.out
    have hA := and_law ⟨a0, a1, a2, a3, a4⟩ ⟨b0, b1, b2, b3, b4⟩ ⟨x0, x1, x2, xs3, xs4⟩ h6 HFX.out
    have hO := or_law ⟨a0, a1, a2, a3, a4⟩ ⟨b0, b1, b2, b3, b4⟩ ⟨x0, x1, x2, xs3, xs4⟩ h6 HFX.out
    have hC1 := Holds_any ⟨a0, a1, a2, a3, a4⟩ ⟨x0, x1, x2, xs3, xs4⟩ F3 f3 F4 f4 X3 x3 X4 x4 W.drew (HF.out.below HLW.out.b.drew) (HX.out.below HLW.out.b.drew) (HT.out.below HLW.out.b.drew)
    have hC2 := fun W' (hb : Below w.heap.size w W') => Holds_any ⟨b0, b1, b2, b3, b4⟩ ⟨x0, x1, x2, xs3, xs4⟩ G3 g3 G4 g4 X3 x3 X4 x4 W' (HG.out.below hb) (HX.out.below hb) (HT.out.below hb)
    generalize HoldsJ ⟨a0, a1, a2, a3, a4⟩ ⟨x0, x1, x2, xs3, xs4⟩ = A at hN hA hO hC1
    generalize HoldsJ ⟨b0, b1, b2, b3, b4⟩ ⟨x0, x1, x2, xs3, xs4⟩ = B at hA hO hC2
    have HN := Lib.hid hN
    have HA := Lib.hid hA
    have HO := Lib.hid hO
    have HC2 := Lib.hid hC2
    clear hN hA hO hC2 h6
    refine start_ (n := 8) (S := fun w' => w'.cell? ⟨w.heap.size, 0, none⟩ = some (.int .i64 a0) ∧ w'.cell? ⟨w.heap.size, 1, none⟩ = some (.int .i64 a1) ∧ w'.cell? ⟨w.heap.size, 2, none⟩ = some (.string a2) ∧ w'.cell? ⟨w.heap.size, 3, none⟩ = some (.slice F3 a3.length f3) ∧ w'.cell? ⟨w.heap.size, 4, none⟩ = some (.slice F4 a4.length f4) ∧ w'.cell? ⟨w.heap.size + 1, 0, none⟩ = some (.int .i64 b0) ∧ w'.cell? ⟨w.heap.size + 1, 1, none⟩ = some (.int .i64 b1) ∧ w'.cell? ⟨w.heap.size + 1, 2, none⟩ = some (.string b2) ∧ w'.cell? ⟨w.heap.size + 1, 3, none⟩ = some (.slice G3 b3.length g3) ∧ w'.cell? ⟨w.heap.size + 1, 4, none⟩ = some (.slice G4 b4.length g4) ∧ w'.cell? ⟨w.heap.size + 1 + 1, 0, none⟩ = some (.int .i64 x0) ∧ w'.cell? ⟨w.heap.size + 1 + 1, 1, none⟩ = some (.int .i64 x1) ∧ w'.cell? ⟨w.heap.size + 1 + 1, 2, none⟩ = some (.string x2) ∧ w'.cell? ⟨w.heap.size + 1 + 1, 3, none⟩ = some (.slice X3 xs3.length x3) ∧ w'.cell? ⟨w.heap.size + 1 + 1, 4, none⟩ = some (.slice X4 xs4.length x4)) (ds := []) #[false, false, false, false, false, false, false, false] (by kernel_rfl) rfl rfl ⟨p0, p1, p2, p3, p4, q0, q1, q2, q3, q4, r0, r1, r2, r3, r4⟩ (fun hHeld => ?_)
    refine take_ (i := 0) (N := some 50) (v := ?_) (a' := ?_) #[true, false, false, false, false, false, false, false] rfl rfl (by kernel_rfl) (fun _ _ _ h => h) (Or.inl ⟨by rfl, ?_⟩) hHeld ?_ ?_
    rotate_left
    · rintro w' ⟨s0, s1, s2, s3, s4, s5, s6, s7, s8, s9, s10, s11, s12, s13, s14⟩
      go_simp
      with_reducible rfl
    rotate_left
    · simp only [Act.put, List.setIfInBounds_toArray, List.set_cons_zero, List.set_cons_succ]
      rfl
    refine take_ (i := 1) (N := some 51) (v := ?_) (a' := ?_) #[true, true, false, false, false, false, false, false] rfl rfl (by kernel_rfl) (fun _ _ _ h => h) (Or.inl ⟨by rfl, ?_⟩) hHeld ?_ ?_
    rotate_left
    · rintro w' ⟨s0, s1, s2, s3, s4, s5, s6, s7, s8, s9, s10, s11, s12, s13, s14⟩
      go_simp
      with_reducible rfl
    rotate_left
    · simp only [Act.put, List.setIfInBounds_toArray, List.set_cons_zero, List.set_cons_succ]
      rfl
    refine take_ (i := 3) (N := some 53) (v := ?_) (a' := ?_) #[true, true, false, true, false, false, false, false] rfl rfl (by kernel_rfl) (fun _ _ _ h => h) (Or.inl ⟨by rfl, ?_⟩) hHeld ?_ ?_
    rotate_left
    · rintro w' ⟨s0, s1, s2, s3, s4, s5, s6, s7, s8, s9, s10, s11, s12, s13, s14⟩
      go_simp
      with_reducible rfl
    rotate_left
    · simp only [Act.put, List.setIfInBounds_toArray, List.set_cons_zero, List.set_cons_succ]
      rfl
    refine take_ (i := 4) (N := some 54) (v := ?_) (a' := ?_) #[true, true, false, true, true, false, false, false] rfl rfl (by kernel_rfl) (fun _ _ _ h => h) (Or.inl ⟨by rfl, ?_⟩) hHeld ?_ ?_
    rotate_left
    · rintro w' ⟨s0, s1, s2, s3, s4, s5, s6, s7, s8, s9, s10, s11, s12, s13, s14⟩
      go_simp
      with_reducible rfl
    rotate_left
    · simp only [Act.put, List.setIfInBounds_toArray, List.set_cons_zero, List.set_cons_succ]
      rfl
    refine one_ (i := 2) (N := some 52) #[true, true, true, true, true, false, false, false] rfl rfl (by kernel_rfl) (by decide) (fun K hK => ?_)
    refine goes_ Tryd.func13 (by kernel_rfl) rfl #[.agg #[.int .i64 a0, .int .i64 a1, .string a2, .slice F3 a3.length f3, .slice F4 a4.length f4], .agg #[.int .i64 x0, .int .i64 x1, .string x2, .slice X3 xs3.length x3, .slice X4 xs4.length x4]] (by rfl) rfl rfl (by simp only [List.map_toArray, List.map_cons, List.map_nil]; rfl) ?_
    with_reducible refine (hC1).mono ?_
    rintro e w4 ⟨rfl, hb⟩
    refine ⟨_, rfl, ?_⟩
    have hL4 := HLW.out.below ((Below.refl _ W).drew.trans hb)
    have HL4 := Lib.hid hL4
    clear hb hL4
    have hC2 := HC2.out w4 HL4.out.b
    refine hK.out _ _ ⟨((blk_cell HL4.out.k0 0).trans rfl), ((blk_cell HL4.out.k0 1).trans rfl), ((blk_cell HL4.out.k0 2).trans rfl), ((blk_cell HL4.out.k0 3).trans rfl), ((blk_cell HL4.out.k0 4).trans rfl), ((blk_cell HL4.out.k1 0).trans rfl), ((blk_cell HL4.out.k1 1).trans rfl), ((blk_cell HL4.out.k1 2).trans rfl), ((blk_cell HL4.out.k1 3).trans rfl), ((blk_cell HL4.out.k1 4).trans rfl), ((blk_cell HL4.out.k2 0).trans rfl), ((blk_cell HL4.out.k2 1).trans rfl), ((blk_cell HL4.out.k2 2).trans rfl), ((blk_cell HL4.out.k2 3).trans rfl), ((blk_cell HL4.out.k2 4).trans rfl)⟩ (fun hHeld => ?_)
    clear hK K
    refine norm_ (a' := ?_) ?_ ?_
    rotate_left
    · show Act.put _ (some 52) _ = _
      simp only [Act.put, List.setIfInBounds_toArray, List.set_cons_zero, List.set_cons_succ]
      rfl
    refine one_ (i := 5) (N := some 55) #[true, true, true, true, true, true, false, false] rfl rfl (by kernel_rfl) (by decide) (fun K hK => ?_)
    refine goes_ Tryd.func13 (by kernel_rfl) rfl #[.agg #[.int .i64 b0, .int .i64 b1, .string b2, .slice G3 b3.length g3, .slice G4 b4.length g4], .agg #[.int .i64 x0, .int .i64 x1, .string x2, .slice X3 xs3.length x3, .slice X4 xs4.length x4]] (by rfl) rfl rfl (by simp only [List.map_toArray, List.map_cons, List.map_nil]; rfl) ?_
    with_reducible refine (hC2).mono ?_
    rintro e w5 ⟨rfl, hb⟩
    refine ⟨_, rfl, ?_⟩
    have hL5 := HL4.out.below hb
    have HL5 := Lib.hid hL5
    clear hb hL5
    refine hK.out _ _ ⟨((blk_cell HL5.out.k0 0).trans rfl), ((blk_cell HL5.out.k0 1).trans rfl), ((blk_cell HL5.out.k0 2).trans rfl), ((blk_cell HL5.out.k0 3).trans rfl), ((blk_cell HL5.out.k0 4).trans rfl), ((blk_cell HL5.out.k1 0).trans rfl), ((blk_cell HL5.out.k1 1).trans rfl), ((blk_cell HL5.out.k1 2).trans rfl), ((blk_cell HL5.out.k1 3).trans rfl), ((blk_cell HL5.out.k1 4).trans rfl), ((blk_cell HL5.out.k2 0).trans rfl), ((blk_cell HL5.out.k2 1).trans rfl), ((blk_cell HL5.out.k2 2).trans rfl), ((blk_cell HL5.out.k2 3).trans rfl), ((blk_cell HL5.out.k2 4).trans rfl)⟩ (fun hHeld => ?_)
    clear hK K
    refine norm_ (a' := ?_) ?_ ?_
    rotate_left
    · show Act.put _ (some 55) _ = _
      simp only [Act.put, List.setIfInBounds_toArray, List.set_cons_zero, List.set_cons_succ]
      rfl
    refine pure_ (i := 6) (N := some 11) (v := ?_) (a' := ?_) #[true, true, true, true, true, true, true, false] rfl rfl (by kernel_rfl) (fun _ _ _ h => h) (Or.inl ⟨by rfl, ?_⟩) ?_ ?_
    rotate_left
    · intro w'
      go_simp
      with_reducible rfl
    rotate_left
    · simp only [Act.put, List.setIfInBounds_toArray, List.set_cons_zero, List.set_cons_succ]
      rfl
    refine pure_ (i := 7) (N := some 12) (v := ?_) (a' := ?_) #[true, true, true, true, true, true, true, true] rfl rfl (by kernel_rfl) (fun _ _ _ h => h) (Or.inl ⟨by rfl, ?_⟩) ?_ ?_
    rotate_left
    · intro w'
      go_simp
      with_reducible rfl
    rotate_left
    · simp only [Act.put, List.setIfInBounds_toArray, List.set_cons_zero, List.set_cons_succ]
      rfl
    refine done_ (by kernel_rfl) ?_

    clear p0 p1 p2 p3 p4 q0 q1 q2 q3 q4 r0 r1 r2 r3 r4 hC1 hC2 HL4 HLW
    go_upto_region 8 with fail
    go_cut [65] from 56 to 65 (fun v wx => v = .bool false ∧ Lk w w3.heap.size ⟨a0, a1, a2, a3, a4⟩ ⟨b0, b1, b2, b3, b4⟩ ⟨x0, x1, x2, xs3, xs4⟩ F3 f3 F4 f4 G3 g3 G4 g4 X3 x3 X4 x4 wx)
    case first =>
      have hCN := check_any (ob sNot ⟨a0, a1, a2, a3, a4⟩) (some ⟨w3.heap.size + 1 + 1, 0, none⟩) 1 (some ⟨w3.heap.size + 1 + 1 + 1, 0, none⟩) 1 w5 HL5.out.rn (HT.out.below HL5.out.b)
      obtain ⟨c, hc⟩ : ∃ c, checkJ (ob sNot ⟨a0, a1, a2, a3, a4⟩) = c := ⟨_, rfl⟩
      have hNc := HN.out
      rw [hc] at hCN hNc
      clear hc
      have HNC := Lib.hid hNc
      clear hNc
      have m0 : w5.cell? ⟨w3.heap.size + 1 + 1 + 1 + 1, 0, none⟩ = some (.int .i64 6) := (blk_cell HL5.out.kn 0).trans rfl
      have m1 : w5.cell? ⟨w3.heap.size + 1 + 1 + 1 + 1, 1, none⟩ = some (.int .i64 0) := (blk_cell HL5.out.kn 1).trans rfl
      have m2 : w5.cell? ⟨w3.heap.size + 1 + 1 + 1 + 1, 2, none⟩ = some (.string ⟨#[]⟩) := (blk_cell HL5.out.kn 2).trans rfl
      have m3 : w5.cell? ⟨w3.heap.size + 1 + 1 + 1 + 1, 3, none⟩ = some (.slice (some ⟨w3.heap.size + 1 + 1, 0, none⟩) 1 1) := (blk_cell HL5.out.kn 3).trans rfl
      have m4 : w5.cell? ⟨w3.heap.size + 1 + 1 + 1 + 1, 4, none⟩ = some (.slice (some ⟨w3.heap.size + 1 + 1 + 1, 0, none⟩) 1 1) := (blk_cell HL5.out.kn 4).trans rfl
      go_wp2_with fail
      refine hCN.mono ?_; rintro e w6 ⟨rfl, hb⟩
      have hL6 := HL5.out.below hb
      have HL6 := Lib.hid hL6
      clear hb hL6 hCN m0 m1 m2 m3 m4
      cases hz : c == 0 with
      | false =>
        go_wp2_with fail
        go_meet
        exact ⟨rfl, HL6.out⟩
      | true =>
        have hv := HNC.out (by simpa using hz)
        have hH := Holds_any (ob sNot ⟨a0, a1, a2, a3, a4⟩) ⟨x0, x1, x2, xs3, xs4⟩ (some ⟨w3.heap.size + 1 + 1, 0, none⟩) 1 (some ⟨w3.heap.size + 1 + 1 + 1, 0, none⟩) 1 X3 x3 X4 x4 w6 HL6.out.rn (HX.out.below HL6.out.b) (HT.out.below HL6.out.b)
        rw [hv] at hH
        clear hv
        have m0 : w6.cell? ⟨w3.heap.size + 1 + 1 + 1 + 1, 0, none⟩ = some (.int .i64 6) := (blk_cell HL6.out.kn 0).trans rfl
        have m1 : w6.cell? ⟨w3.heap.size + 1 + 1 + 1 + 1, 1, none⟩ = some (.int .i64 0) := (blk_cell HL6.out.kn 1).trans rfl
        have m2 : w6.cell? ⟨w3.heap.size + 1 + 1 + 1 + 1, 2, none⟩ = some (.string ⟨#[]⟩) := (blk_cell HL6.out.kn 2).trans rfl
        have m3 : w6.cell? ⟨w3.heap.size + 1 + 1 + 1 + 1, 3, none⟩ = some (.slice (some ⟨w3.heap.size + 1 + 1, 0, none⟩) 1 1) := (blk_cell HL6.out.kn 3).trans rfl
        have m4 : w6.cell? ⟨w3.heap.size + 1 + 1 + 1 + 1, 4, none⟩ = some (.slice (some ⟨w3.heap.size + 1 + 1 + 1, 0, none⟩) 1 1) := (blk_cell HL6.out.kn 4).trans rfl
        have r0 : w6.cell? ⟨w.heap.size + 1 + 1, 0, none⟩ = some (.int .i64 x0) := (blk_cell HL6.out.k2 0).trans rfl
        have r1 : w6.cell? ⟨w.heap.size + 1 + 1, 1, none⟩ = some (.int .i64 x1) := (blk_cell HL6.out.k2 1).trans rfl
        have r2 : w6.cell? ⟨w.heap.size + 1 + 1, 2, none⟩ = some (.string x2) := (blk_cell HL6.out.k2 2).trans rfl
        have r3 : w6.cell? ⟨w.heap.size + 1 + 1, 3, none⟩ = some (.slice X3 xs3.length x3) := (blk_cell HL6.out.k2 3).trans rfl
        have r4 : w6.cell? ⟨w.heap.size + 1 + 1, 4, none⟩ = some (.slice X4 xs4.length x4) := (blk_cell HL6.out.k2 4).trans rfl
        cases A with
        | false =>
          go_wp2_with fail
          refine hH.mono ?_; rintro e w7 ⟨rfl, hb⟩
          have hL7 := HL6.out.below hb
          have HL7 := Lib.hid hL7
          clear hb hL7 hH m0 m1 m2 m3 m4 r0 r1 r2 r3 r4
          go_wp2_with fail
          go_meet
          exact ⟨rfl, HL7.out⟩
        | true =>
          go_wp2_with fail
          refine hH.mono ?_; rintro e w7 ⟨rfl, hb⟩
          have hL7 := HL6.out.below hb
          have HL7 := Lib.hid hL7
          clear hb hL7 hH m0 m1 m2 m3 m4 r0 r1 r2 r3 r4
          go_wp2_with fail
          go_meet
          exact ⟨rfl, HL7.out⟩
    case rest =>
      obtain ⟨rfl, hL⟩ := hcut
      have HLC := Lib.hid hL
      clear hL HL5
      go_upto_region 10 with fail
      go_cut [78] from 66 to 78 (fun v wx => v = .bool false ∧ Lk w w3.heap.size ⟨a0, a1, a2, a3, a4⟩ ⟨b0, b1, b2, b3, b4⟩ ⟨x0, x1, x2, xs3, xs4⟩ F3 f3 F4 f4 G3 g3 G4 g4 X3 x3 X4 x4 wx)
      case first =>
        have hCN := check_any (ob sAnd (both ⟨a0, a1, a2, a3, a4⟩ ⟨b0, b1, b2, b3, b4⟩)) (some ⟨w3.heap.size + 1 + 1 + 1 + 1 + 1, 0, none⟩) 1 (some ⟨w3.heap.size + 1 + 1 + 1 + 1 + 1 + 1, 0, none⟩) 1 wc HLC.out.ra (HT.out.below HLC.out.b)
        obtain ⟨c, hc⟩ : ∃ c, checkJ (ob sAnd (both ⟨a0, a1, a2, a3, a4⟩ ⟨b0, b1, b2, b3, b4⟩)) = c := ⟨_, rfl⟩
        have hNc := HA.out
        rw [hc] at hCN hNc
        clear hc
        have HNC := Lib.hid hNc
        clear hNc
        have m0 : wc.cell? ⟨w3.heap.size + 1 + 1 + 1 + 1 + 1 + 1 + 1, 0, none⟩ = some (.int .i64 6) := (blk_cell HLC.out.ka 0).trans rfl
        have m1 : wc.cell? ⟨w3.heap.size + 1 + 1 + 1 + 1 + 1 + 1 + 1, 1, none⟩ = some (.int .i64 0) := (blk_cell HLC.out.ka 1).trans rfl
        have m2 : wc.cell? ⟨w3.heap.size + 1 + 1 + 1 + 1 + 1 + 1 + 1, 2, none⟩ = some (.string ⟨#[]⟩) := (blk_cell HLC.out.ka 2).trans rfl
        have m3 : wc.cell? ⟨w3.heap.size + 1 + 1 + 1 + 1 + 1 + 1 + 1, 3, none⟩ = some (.slice (some ⟨w3.heap.size + 1 + 1 + 1 + 1 + 1, 0, none⟩) 1 1) := (blk_cell HLC.out.ka 3).trans rfl
        have m4 : wc.cell? ⟨w3.heap.size + 1 + 1 + 1 + 1 + 1 + 1 + 1, 4, none⟩ = some (.slice (some ⟨w3.heap.size + 1 + 1 + 1 + 1 + 1 + 1, 0, none⟩) 1 1) := (blk_cell HLC.out.ka 4).trans rfl
        go_wp2_with fail
        refine hCN.mono ?_; rintro e w6 ⟨rfl, hb⟩
        have hL6 := HLC.out.below hb
        have HL6 := Lib.hid hL6
        clear hb hL6 hCN m0 m1 m2 m3 m4
        cases hz : c == 0 with
        | false =>
          go_wp2_with fail
          go_meet
          exact ⟨rfl, HL6.out⟩
        | true =>
          have hv := HNC.out (by simpa using hz)
          have hH := Holds_any (ob sAnd (both ⟨a0, a1, a2, a3, a4⟩ ⟨b0, b1, b2, b3, b4⟩)) ⟨x0, x1, x2, xs3, xs4⟩ (some ⟨w3.heap.size + 1 + 1 + 1 + 1 + 1, 0, none⟩) 1 (some ⟨w3.heap.size + 1 + 1 + 1 + 1 + 1 + 1, 0, none⟩) 1 X3 x3 X4 x4 w6 HL6.out.ra (HX.out.below HL6.out.b) (HT.out.below HL6.out.b)
          rw [hv] at hH
          clear hv
          have m0 : w6.cell? ⟨w3.heap.size + 1 + 1 + 1 + 1 + 1 + 1 + 1, 0, none⟩ = some (.int .i64 6) := (blk_cell HL6.out.ka 0).trans rfl
          have m1 : w6.cell? ⟨w3.heap.size + 1 + 1 + 1 + 1 + 1 + 1 + 1, 1, none⟩ = some (.int .i64 0) := (blk_cell HL6.out.ka 1).trans rfl
          have m2 : w6.cell? ⟨w3.heap.size + 1 + 1 + 1 + 1 + 1 + 1 + 1, 2, none⟩ = some (.string ⟨#[]⟩) := (blk_cell HL6.out.ka 2).trans rfl
          have m3 : w6.cell? ⟨w3.heap.size + 1 + 1 + 1 + 1 + 1 + 1 + 1, 3, none⟩ = some (.slice (some ⟨w3.heap.size + 1 + 1 + 1 + 1 + 1, 0, none⟩) 1 1) := (blk_cell HL6.out.ka 3).trans rfl
          have m4 : w6.cell? ⟨w3.heap.size + 1 + 1 + 1 + 1 + 1 + 1 + 1, 4, none⟩ = some (.slice (some ⟨w3.heap.size + 1 + 1 + 1 + 1 + 1 + 1, 0, none⟩) 1 1) := (blk_cell HL6.out.ka 4).trans rfl
          have r0 : w6.cell? ⟨w.heap.size + 1 + 1, 0, none⟩ = some (.int .i64 x0) := (blk_cell HL6.out.k2 0).trans rfl
          have r1 : w6.cell? ⟨w.heap.size + 1 + 1, 1, none⟩ = some (.int .i64 x1) := (blk_cell HL6.out.k2 1).trans rfl
          have r2 : w6.cell? ⟨w.heap.size + 1 + 1, 2, none⟩ = some (.string x2) := (blk_cell HL6.out.k2 2).trans rfl
          have r3 : w6.cell? ⟨w.heap.size + 1 + 1, 3, none⟩ = some (.slice X3 xs3.length x3) := (blk_cell HL6.out.k2 3).trans rfl
          have r4 : w6.cell? ⟨w.heap.size + 1 + 1, 4, none⟩ = some (.slice X4 xs4.length x4) := (blk_cell HL6.out.k2 4).trans rfl
          cases A with
          | false =>
            cases B with
            | false =>
              go_wp2_with fail
              refine hH.mono ?_; rintro e w7 ⟨rfl, hb⟩
              have hL7 := HL6.out.below hb
              have HL7 := Lib.hid hL7
              clear hb hL7 hH m0 m1 m2 m3 m4 r0 r1 r2 r3 r4
              go_wp2_with fail
              go_meet
              exact ⟨rfl, HL7.out⟩
            | true =>
              go_wp2_with fail
              refine hH.mono ?_; rintro e w7 ⟨rfl, hb⟩
              have hL7 := HL6.out.below hb
              have HL7 := Lib.hid hL7
              clear hb hL7 hH m0 m1 m2 m3 m4 r0 r1 r2 r3 r4
              go_wp2_with fail
              go_meet
              exact ⟨rfl, HL7.out⟩
          | true =>
            cases B with
            | false =>
              go_wp2_with fail
              refine hH.mono ?_; rintro e w7 ⟨rfl, hb⟩
              have hL7 := HL6.out.below hb
              have HL7 := Lib.hid hL7
              clear hb hL7 hH m0 m1 m2 m3 m4 r0 r1 r2 r3 r4
              go_wp2_with fail
              go_meet
              exact ⟨rfl, HL7.out⟩
            | true =>
              go_wp2_with fail
              refine hH.mono ?_; rintro e w7 ⟨rfl, hb⟩
              have hL7 := HL6.out.below hb
              have HL7 := Lib.hid hL7
              clear hb hL7 hH m0 m1 m2 m3 m4 r0 r1 r2 r3 r4
              go_wp2_with fail
              go_meet
              exact ⟨rfl, HL7.out⟩
      case rest =>
        obtain ⟨rfl, hL⟩ := hcut
        have HLD := Lib.hid hL
        clear hL HLC
        have hCN := check_any (ob sOr (both ⟨a0, a1, a2, a3, a4⟩ ⟨b0, b1, b2, b3, b4⟩)) (some ⟨w3.heap.size + 1 + 1 + 1 + 1 + 1 + 1 + 1 + 1, 0, none⟩) 1 (some ⟨w3.heap.size + 1 + 1 + 1 + 1 + 1 + 1 + 1 + 1 + 1, 0, none⟩) 1 wc HLD.out.ro (HT.out.below HLD.out.b)
        obtain ⟨c, hc⟩ : ∃ c, checkJ (ob sOr (both ⟨a0, a1, a2, a3, a4⟩ ⟨b0, b1, b2, b3, b4⟩)) = c := ⟨_, rfl⟩
        have hNc := HO.out
        rw [hc] at hCN hNc
        clear hc
        have HNC := Lib.hid hNc
        clear hNc
        have m0 : wc.cell? ⟨w3.heap.size + 1 + 1 + 1 + 1 + 1 + 1 + 1 + 1 + 1 + 1, 0, none⟩ = some (.int .i64 6) := (blk_cell HLD.out.ko 0).trans rfl
        have m1 : wc.cell? ⟨w3.heap.size + 1 + 1 + 1 + 1 + 1 + 1 + 1 + 1 + 1 + 1, 1, none⟩ = some (.int .i64 0) := (blk_cell HLD.out.ko 1).trans rfl
        have m2 : wc.cell? ⟨w3.heap.size + 1 + 1 + 1 + 1 + 1 + 1 + 1 + 1 + 1 + 1, 2, none⟩ = some (.string ⟨#[]⟩) := (blk_cell HLD.out.ko 2).trans rfl
        have m3 : wc.cell? ⟨w3.heap.size + 1 + 1 + 1 + 1 + 1 + 1 + 1 + 1 + 1 + 1, 3, none⟩ = some (.slice (some ⟨w3.heap.size + 1 + 1 + 1 + 1 + 1 + 1 + 1 + 1, 0, none⟩) 1 1) := (blk_cell HLD.out.ko 3).trans rfl
        have m4 : wc.cell? ⟨w3.heap.size + 1 + 1 + 1 + 1 + 1 + 1 + 1 + 1 + 1 + 1, 4, none⟩ = some (.slice (some ⟨w3.heap.size + 1 + 1 + 1 + 1 + 1 + 1 + 1 + 1 + 1, 0, none⟩) 1 1) := (blk_cell HLD.out.ko 4).trans rfl
        go_wp2_with fail
        refine hCN.mono ?_; rintro e w6 ⟨rfl, hb⟩
        have hL6 := HLD.out.below hb
        have HL6 := Lib.hid hL6
        clear hb hL6 hCN m0 m1 m2 m3 m4
        cases hz : c == 0 with
        | false =>
          have hz2 : (c != 0) = true := by simp only [bne, hz, Bool.not_false]
          go_wp2_with fail
          go_ret
          exact ⟨rfl, HL6.out.b⟩
        | true =>
          have hz2 : (c != 0) = false := by simp only [bne, hz, Bool.not_true]
          have hv := HNC.out (by simpa using hz)
          have hH := Holds_any (ob sOr (both ⟨a0, a1, a2, a3, a4⟩ ⟨b0, b1, b2, b3, b4⟩)) ⟨x0, x1, x2, xs3, xs4⟩ (some ⟨w3.heap.size + 1 + 1 + 1 + 1 + 1 + 1 + 1 + 1, 0, none⟩) 1 (some ⟨w3.heap.size + 1 + 1 + 1 + 1 + 1 + 1 + 1 + 1 + 1, 0, none⟩) 1 X3 x3 X4 x4 w6 HL6.out.ro (HX.out.below HL6.out.b) (HT.out.below HL6.out.b)
          rw [hv] at hH
          clear hv
          have m0 : w6.cell? ⟨w3.heap.size + 1 + 1 + 1 + 1 + 1 + 1 + 1 + 1 + 1 + 1, 0, none⟩ = some (.int .i64 6) := (blk_cell HL6.out.ko 0).trans rfl
          have m1 : w6.cell? ⟨w3.heap.size + 1 + 1 + 1 + 1 + 1 + 1 + 1 + 1 + 1 + 1, 1, none⟩ = some (.int .i64 0) := (blk_cell HL6.out.ko 1).trans rfl
          have m2 : w6.cell? ⟨w3.heap.size + 1 + 1 + 1 + 1 + 1 + 1 + 1 + 1 + 1 + 1, 2, none⟩ = some (.string ⟨#[]⟩) := (blk_cell HL6.out.ko 2).trans rfl
          have m3 : w6.cell? ⟨w3.heap.size + 1 + 1 + 1 + 1 + 1 + 1 + 1 + 1 + 1 + 1, 3, none⟩ = some (.slice (some ⟨w3.heap.size + 1 + 1 + 1 + 1 + 1 + 1 + 1 + 1, 0, none⟩) 1 1) := (blk_cell HL6.out.ko 3).trans rfl
          have m4 : w6.cell? ⟨w3.heap.size + 1 + 1 + 1 + 1 + 1 + 1 + 1 + 1 + 1 + 1, 4, none⟩ = some (.slice (some ⟨w3.heap.size + 1 + 1 + 1 + 1 + 1 + 1 + 1 + 1 + 1, 0, none⟩) 1 1) := (blk_cell HL6.out.ko 4).trans rfl
          have r0 : w6.cell? ⟨w.heap.size + 1 + 1, 0, none⟩ = some (.int .i64 x0) := (blk_cell HL6.out.k2 0).trans rfl
          have r1 : w6.cell? ⟨w.heap.size + 1 + 1, 1, none⟩ = some (.int .i64 x1) := (blk_cell HL6.out.k2 1).trans rfl
          have r2 : w6.cell? ⟨w.heap.size + 1 + 1, 2, none⟩ = some (.string x2) := (blk_cell HL6.out.k2 2).trans rfl
          have r3 : w6.cell? ⟨w.heap.size + 1 + 1, 3, none⟩ = some (.slice X3 xs3.length x3) := (blk_cell HL6.out.k2 3).trans rfl
          have r4 : w6.cell? ⟨w.heap.size + 1 + 1, 4, none⟩ = some (.slice X4 xs4.length x4) := (blk_cell HL6.out.k2 4).trans rfl
          cases A with
          | false =>
            cases B with
            | false =>
              go_wp2_with fail
              refine hH.mono ?_; rintro e w7 ⟨rfl, hb⟩
              have hL7 := HL6.out.below hb
              have HL7 := Lib.hid hL7
              clear hb hL7 hH m0 m1 m2 m3 m4 r0 r1 r2 r3 r4
              go_wp2_with fail
              go_ret
              exact ⟨rfl, HL7.out.b⟩
            | true =>
              go_wp2_with fail
              refine hH.mono ?_; rintro e w7 ⟨rfl, hb⟩
              have hL7 := HL6.out.below hb
              have HL7 := Lib.hid hL7
              clear hb hL7 hH m0 m1 m2 m3 m4 r0 r1 r2 r3 r4
              go_wp2_with fail
              go_ret
              exact ⟨rfl, HL7.out.b⟩
          | true =>
            cases B with
            | false =>
              go_wp2_with fail
              refine hH.mono ?_; rintro e w7 ⟨rfl, hb⟩
              have hL7 := HL6.out.below hb
              have HL7 := Lib.hid hL7
              clear hb hL7 hH m0 m1 m2 m3 m4 r0 r1 r2 r3 r4
              go_wp2_with fail
              go_ret
              exact ⟨rfl, HL7.out.b⟩
            | true =>
              go_wp2_with fail
              refine hH.mono ?_; rintro e w7 ⟨rfl, hb⟩
              have hL7 := HL6.out.below hb
              have HL7 := Lib.hid hL7
              clear hb hL7 hH m0 m1 m2 m3 m4 r0 r1 r2 r3 r4
              go_wp2_with fail
              go_ret
              exact ⟨rfl, HL7.out.b⟩

end Go.Proofs.YtehdnjegipcpfaaDoor
