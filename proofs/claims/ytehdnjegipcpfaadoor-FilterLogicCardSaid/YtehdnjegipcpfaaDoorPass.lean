/-
  The contract of filter.passes at formed values, under utf8's tables.
-/
import Derived.Test.YtehdnjegipcpfaaDoorGet
namespace Go.Proofs.YtehdnjegipcpfaaDoor
open Go.RowKit Go.Proofs.YtehdnjegipcpfaaDoorW.PrintWords Go.Proofs.YtehdnjegipcpfaaDoorW.PrintLast Go.Proofs.YtehdnjegipcpfaaDoorW.PrintMore
open PFilterHolds Go.Shelf

set_option maxHeartbeats 1000000 in
theorem same1_any (x : S25) (hx : fmJ x = true) (B3 : Option Addr) (d3 : Nat) (B4 : Option Addr) (d4 : Nat) (g : Nat) (y : S25) (A3 : Option Addr) (c3 : Nat) (A4 : Option Addr) (c4 : Nat) (w : World) (hk : w.heap[g]? = some (.cells (cs25 x B3 d3 B4 d4) 25 (0, 0))) (hRx : Rd w B3 d3 B4 d4 x) (hRy : Rd w A3 c3 A4 c4 y) :
    Calls Tryd.prog 124 #[av y A3 c3 A4 c4, .pointer (some ⟨g, 0, none⟩)] w fun e w' => e = .returned (.bool (sameF 6 x y)) ∧ Below w.heap.size w w' := by
  have hb0 : Below w.heap.size w (w.alloc (.cells (cs25 y A3 c3 A4 c4) 25)) := (Below.refl _ w).alloc (Nat.le_refl _) _
  have hX := same_any 6 x y B3 d3 B4 d4 A3 c3 A4 c4 _ hx (hRx.below hb0) (hRy.below hb0)
  have hg := blk_lt hk
  obtain ⟨x0, x1, x2, x3, x4⟩ := x
  obtain ⟨y0, y1, y2, y3, y4⟩ := y
  generalize sameF 6 ⟨x0, x1, x2, x3, x4⟩ ⟨y0, y1, y2, y3, y4⟩ = r at hX
  have k0 := blk_alloc hk (.cells (cs25 ⟨y0, y1, y2, y3, y4⟩ A3 c3 A4 c4) 25)
  have e0 : (w.alloc (.cells (cs25 ⟨y0, y1, y2, y3, y4⟩ A3 c3 A4 c4) 25)).cell? ⟨g, 0, none⟩ = some (.int .i64 x0) := (blk_cell k0 0).trans rfl
  have e1 : (w.alloc (.cells (cs25 ⟨y0, y1, y2, y3, y4⟩ A3 c3 A4 c4) 25)).cell? ⟨g, 1, none⟩ = some (.int .i64 x1) := (blk_cell k0 1).trans rfl
  have e2 : (w.alloc (.cells (cs25 ⟨y0, y1, y2, y3, y4⟩ A3 c3 A4 c4) 25)).cell? ⟨g, 2, none⟩ = some (.string x2) := (blk_cell k0 2).trans rfl
  have e3 : (w.alloc (.cells (cs25 ⟨y0, y1, y2, y3, y4⟩ A3 c3 A4 c4) 25)).cell? ⟨g, 3, none⟩ = some (.slice B3 x3.length d3) := (blk_cell k0 3).trans rfl
  have e4 : (w.alloc (.cells (cs25 ⟨y0, y1, y2, y3, y4⟩ A3 c3 A4 c4) 25)).cell? ⟨g, 4, none⟩ = some (.slice B4 x4.length d4) := (blk_cell k0 4).trans rfl
  have HB0 := Lib.hid hb0; clear hb0
  clear hk k0 hRx hRy hx
  go_enter Tryd.func124, Tryd.ntmps124
  go_wp2_with fail
  refine hX.mono ?_; rintro e w' ⟨rfl, hb⟩
  clear e0 e1 e2 e3 e4 hX
  go_wp2
  go_ret
  exact ⟨rfl, HB0.out.trans (hb.mono HB0.out.size)⟩

set_option maxRecDepth 100000 in
set_option maxHeartbeats 4000000 in
theorem pass_any (s : ByteArray) (v x : S25) (there : Bool) (hv : fmJ v = true) (hx : there = true → fmJ x = true) (A3 : Option Addr) (c3 : Nat) (A4 : Option Addr) (c4 : Nat) (B3 : Option Addr) (d3 : Nat) (B4 : Option Addr) (d4 : Nat) (w : World) (h : Rd w A3 c3 A4 c4 v) (h' : Rd w B3 d3 B4 d4 x) (hT : Tabs w) :
    Calls Tryd.prog 79 #[.string s, av v A3 c3 A4 c4, av x B3 d3 B4 d4, .bool there] w fun e w' => e = .returned (.bool (passJ s v x there)) ∧ Below w.heap.size w w' := by
  have hb0 := two_boxes w (.cells (cs25 v A3 c3 A4 c4) 25) (.cells (cs25 x B3 d3 B4 d4) 25)
  have hk1 := two_boxes_1 w (.cells (cs25 v A3 c3 A4 c4) 25) (.cells (cs25 x B3 d3 B4 d4) 25)
  have h24 := few_items hv
  have hCmp := fun (ht : there = true) => Compare_any x v (hx ht) hv B3 d3 B4 d4 A3 c3 A4 c4 _ (h'.below hb0) (h.below hb0) (hT.below hb0)
  have hIn := fun (ht : there = true) => contains_any 124 #[.pointer (some ⟨w.heap.size + 1, 0, none⟩)] (fun y => sameF 6 x y) (enters_of Tryd.func124 (by kernel_rfl) rfl) A4 c4 v.f4 _ (h.below hb0).g4 (fun y hy W D3 m3 D4 m4 hbW hRy => by
    simpa using same1_any x (hx ht) B3 d3 B4 d4 (w.heap.size + 1) y D3 m3 D4 m4 W (blk_below hk1 hbW) ((h'.below hb0).below hbW) hRy) (by have := h24.2; omega)
  obtain ⟨ANS, hA⟩ : ∃ a, passJ s v x there = a := ⟨_, rfl⟩
  rw [hA]
  unfold passJ isB nHas nIn nEq nNe nLt nLe nGt at hA
  have hin : (v.f4.any fun y => sameF 6 x y) = v.f4.any (sameF 6 x) := rfl
  simp only [hin] at hIn
  generalize v.f4.any (sameF 6 x) = bi at hA hIn
  generalize cmpF 6 x v = c at hA hCmp
  have HB0 := Lib.hid hb0; clear hb0
  clear hk1 h24 hin h h' hT hv hx
  obtain ⟨v0, v1, v2, v3, v4⟩ := v
  obtain ⟨x0, x1, x2, x3, x4⟩ := x
  simp only at hA hIn hCmp
  cases b1 : s.toList == [36, 104, 97, 115] with
  | true =>
    rw [b1, if_pos rfl] at hA
    subst hA
    clear hIn hCmp
    go_enter Tryd.func79, Tryd.ntmps79
    go_wp2_with fail
    go_ret
    exact ⟨rfl, HB0.out⟩
  | false =>
  rw [b1, if_neg (by simp)] at hA
  cases there with
  | false =>
    rw [if_pos (by simp)] at hA
    subst hA
    clear hIn hCmp
    go_enter Tryd.func79, Tryd.ntmps79
    go_wp2_with fail
    go_ret
    exact ⟨rfl, HB0.out⟩
  | true =>
  have hI := hIn rfl
  have hC := hCmp rfl
  clear hIn hCmp
  rw [if_neg (by simp)] at hA
  cases b2 : s.toList == [36, 105, 110] with
  | true =>
    rw [b2, if_pos rfl] at hA
    subst hA
    clear hC
    go_enter Tryd.func79, Tryd.ntmps79
    go_wp2_with fail
    refine hI.mono ?_; rintro e w1 ⟨rfl, hb⟩
    have HB := Lib.hid hb; clear hb hI
    go_wp2_with fail
    go_ret
    exact ⟨rfl, HB0.out.trans (HB.out.mono HB0.out.size)⟩
  | false =>
  rw [b2, if_neg (by simp)] at hA
  clear hI
  have HA := Lib.hid hA; clear hA
  go_enter Tryd.func79, Tryd.ntmps79
  go_wp2_with fail
  refine hC.mono ?_; rintro e w1 ⟨rfl, hb⟩
  have HB := Lib.hid hb; clear hb hC
  have hfin := HB0.out.trans (HB.out.mono HB0.out.size)
  have HF := Lib.hid hfin; clear hfin HB HB0
  have hA := HA.out
  clear HA
  cases b3 : s.toList == [36, 101, 113] with
  | true =>
    rw [b3, if_pos rfl] at hA
    subst hA
    go_wp2_with fail
    go_ret
    exact ⟨rfl, HF.out⟩
  | false =>
  rw [b3, if_neg (by simp)] at hA
  cases b4 : s.toList == [36, 110, 101] with
  | true =>
    rw [b4, if_pos rfl] at hA
    subst hA
    go_wp2_with fail
    go_ret
    exact ⟨rfl, HF.out⟩
  | false =>
  rw [b4, if_neg (by simp)] at hA
  cases b5 : s.toList == [36, 108, 116] with
  | true =>
    rw [b5, if_pos rfl] at hA
    subst hA
    go_wp2_with fail
    go_ret
    exact ⟨rfl, HF.out⟩
  | false =>
  rw [b5, if_neg (by simp)] at hA
  cases b6 : s.toList == [36, 108, 101] with
  | true =>
    rw [b6, if_pos rfl] at hA
    subst hA
    go_wp2_with fail
    go_ret
    exact ⟨rfl, HF.out⟩
  | false =>
  rw [b6, if_neg (by simp)] at hA
  cases b7 : s.toList == [36, 103, 116] with
  | true =>
    rw [b7, if_pos rfl] at hA
    subst hA
    go_wp2_with fail
    go_ret
    exact ⟨rfl, HF.out⟩
  | false =>
    rw [b7, if_neg (by simp)] at hA
    subst hA
    go_wp2_with fail
    go_ret
    exact ⟨rfl, HF.out⟩

end Go.Proofs.YtehdnjegipcpfaaDoor
