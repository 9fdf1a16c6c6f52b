/-
  The contract of filter.passes at formed values, under utf8's tables. The contracts of filter.one and filter.holds at formed values, under utf8's tables. The contracts of filter.Holds, and of the laws' awake and ask, under utf8's tables.
-/
import Derived.Test.YtehdnjegipcpfaaDoorPath
namespace Go.Proofs.YtehdnjegipcpfaaDoor
open Go.RowKit Go.Proofs.YtehdnjegipcpfaaDoorW.PrintWords Go.Proofs.YtehdnjegipcpfaaDoorW.PrintLast Go.Proofs.YtehdnjegipcpfaaDoorW.PrintMore
open PFilterHolds Go.Shelf
set_option maxHeartbeats 1000000 in
theorem same1_any (x : S25) (hx : fmJ x = true) (B3 : Option Addr) (d3 : Nat) (B4 : Option Addr) (d4 : Nat) (g : Nat) (y : S25) (A3 : Option Addr) (c3 : Nat) (A4 : Option Addr) (c4 : Nat) (w : World) (hk : w.heap[g]? = some (.cells (cs25 x B3 d3 B4 d4) 25 (0, 0))) (hRx : Rd w B3 d3 B4 d4 x) (hRy : Rd w A3 c3 A4 c4 y) :
    Calls Tryd.prog 124 #[av y A3 c3 A4 c4, .pointer (some ⟨g, 0, none⟩)] w fun e w' => e = .returned (.bool (sameF 6 x y)) ∧ Below w.heap.size w w' := by
  have hb0 : Below w.heap.size w (w.alloc (.cells (cs25 y A3 c3 A4 c4) 25)) := (Below.refl _ w).alloc (Nat.le_refl _) _
  have hX := same_any 6 x y B3 d3 B4 d4 A3 c3 A4 c4 _ hx (hRx.below hb0) (hRy.below hb0)
  have hg := blk_lt hk
  obtain ⟨x0, x1, x2, x3, x4⟩ := x
  obtain ⟨y0, y1, y2, y3, y4⟩ := y
  generalize sameF 6 ⟨x0, x1, x2, x3, x4⟩ ⟨y0, y1, y2, y3, y4⟩ = r at hX
  have k0 := blk_alloc hk (.cells (cs25 ⟨y0, y1, y2, y3, y4⟩ A3 c3 A4 c4) 25)
  have e0 : (w.alloc (.cells (cs25 ⟨y0, y1, y2, y3, y4⟩ A3 c3 A4 c4) 25)).cell? ⟨g, 0, none⟩ = some (.int .i64 x0) := (blk_cell k0 0).trans rfl
  have e1 : (w.alloc (.cells (cs25 ⟨y0, y1, y2, y3, y4⟩ A3 c3 A4 c4) 25)).cell? ⟨g, 1, none⟩ = some (.int .i64 x1) := (blk_cell k0 1).trans rfl
  have e2 : (w.alloc (.cells (cs25 ⟨y0, y1, y2, y3, y4⟩ A3 c3 A4 c4) 25)).cell? ⟨g, 2, none⟩ = some (.string x2) := (blk_cell k0 2).trans rfl
  have e3 : (w.alloc (.cells (cs25 ⟨y0, y1, y2, y3, y4⟩ A3 c3 A4 c4) 25)).cell? ⟨g, 3, none⟩ = some (.slice B3 x3.length d3) := (blk_cell k0 3).trans rfl
  have e4 : (w.alloc (.cells (cs25 ⟨y0, y1, y2, y3, y4⟩ A3 c3 A4 c4) 25)).cell? ⟨g, 4, none⟩ = some (.slice B4 x4.length d4) := (blk_cell k0 4).trans rfl
  have HB0 := Lib.hid hb0; clear hb0
  clear hk k0 hRx hRy hx
  go_enter Tryd.func124, Tryd.ntmps124
  go_wp2_with fail
  refine hX.mono ?_; rintro e w' ⟨rfl, hb⟩
  clear e0 e1 e2 e3 e4 hX
  go_wp2
  go_ret
  exact ⟨rfl, HB0.out.trans (hb.mono HB0.out.size)⟩
set_option maxRecDepth 100000 in
set_option maxHeartbeats 4000000 in
theorem pass_any (s : ByteArray) (v x : S25) (there : Bool) (hv : fmJ v = true) (hx : there = true → fmJ x = true) (A3 : Option Addr) (c3 : Nat) (A4 : Option Addr) (c4 : Nat) (B3 : Option Addr) (d3 : Nat) (B4 : Option Addr) (d4 : Nat) (w : World) (h : Rd w A3 c3 A4 c4 v) (h' : Rd w B3 d3 B4 d4 x) (hT : Tabs w) :
    Calls Tryd.prog 79 #[.string s, av v A3 c3 A4 c4, av x B3 d3 B4 d4, .bool there] w fun e w' => e = .returned (.bool (passJ s v x there)) ∧ Below w.heap.size w w' := by
  have hb0 := two_boxes w (.cells (cs25 v A3 c3 A4 c4) 25) (.cells (cs25 x B3 d3 B4 d4) 25)
  have hk1 := two_boxes_1 w (.cells (cs25 v A3 c3 A4 c4) 25) (.cells (cs25 x B3 d3 B4 d4) 25)
  have h24 := few_items hv
  have hCmp := fun (ht : there = true) => Compare_any x v (hx ht) hv B3 d3 B4 d4 A3 c3 A4 c4 _ (h'.below hb0) (h.below hb0) (hT.below hb0)
  have hIn := fun (ht : there = true) => contains_any 124 #[.pointer (some ⟨w.heap.size + 1, 0, none⟩)] (fun y => sameF 6 x y) (enters_of Tryd.func124 (by kernel_rfl) rfl) A4 c4 v.f4 _ (h.below hb0).g4 (fun y hy W D3 m3 D4 m4 hbW hRy => by
    simpa using same1_any x (hx ht) B3 d3 B4 d4 (w.heap.size + 1) y D3 m3 D4 m4 W (blk_below hk1 hbW) ((h'.below hb0).below hbW) hRy) (by have := h24.2; omega)
  obtain ⟨ANS, hA⟩ : ∃ a, passJ s v x there = a := ⟨_, rfl⟩
  rw [hA]
  unfold passJ isB nHas nIn nEq nNe nLt nLe nGt at hA
  have hin : (v.f4.any fun y => sameF 6 x y) = v.f4.any (sameF 6 x) := rfl
  simp only [hin] at hIn
  generalize v.f4.any (sameF 6 x) = bi at hA hIn
  generalize cmpF 6 x v = c at hA hCmp
  have HB0 := Lib.hid hb0; clear hb0
  clear hk1 h24 hin h h' hT hv hx
  obtain ⟨v0, v1, v2, v3, v4⟩ := v
  obtain ⟨x0, x1, x2, x3, x4⟩ := x
  simp only at hA hIn hCmp
  cases b1 : s.toList == [36, 104, 97, 115] with
  | true =>
    rw [b1, if_pos rfl] at hA
    subst hA
    clear hIn hCmp
    go_enter Tryd.func79, Tryd.ntmps79
    go_wp2_with fail
    go_ret
    exact ⟨rfl, HB0.out⟩
  | false =>
  rw [b1, if_neg (by simp)] at hA
  cases there with
  | false =>
    rw [if_pos (by simp)] at hA
    subst hA
    clear hIn hCmp
    go_enter Tryd.func79, Tryd.ntmps79
    go_wp2_with fail
    go_ret
    exact ⟨rfl, HB0.out⟩
  | true =>
  have hI := hIn rfl
  have hC := hCmp rfl
  clear hIn hCmp
  rw [if_neg (by simp)] at hA
  cases b2 : s.toList == [36, 105, 110] with
  | true =>
    rw [b2, if_pos rfl] at hA
    subst hA
    clear hC
    go_enter Tryd.func79, Tryd.ntmps79
    go_wp2_with fail
    refine hI.mono ?_; rintro e w1 ⟨rfl, hb⟩
    have HB := Lib.hid hb; clear hb hI
    go_wp2_with fail
    go_ret
    exact ⟨rfl, HB0.out.trans (HB.out.mono HB0.out.size)⟩
  | false =>
  rw [b2, if_neg (by simp)] at hA
  clear hI
  have HA := Lib.hid hA; clear hA
  go_enter Tryd.func79, Tryd.ntmps79
  go_wp2_with fail
  refine hC.mono ?_; rintro e w1 ⟨rfl, hb⟩
  have HB := Lib.hid hb; clear hb hC
  have hfin := HB0.out.trans (HB.out.mono HB0.out.size)
  have HF := Lib.hid hfin; clear hfin HB HB0
  have hA := HA.out
  clear HA
  cases b3 : s.toList == [36, 101, 113] with
  | true =>
    rw [b3, if_pos rfl] at hA
    subst hA
    go_wp2_with fail
    go_ret
    exact ⟨rfl, HF.out⟩
  | false =>
  rw [b3, if_neg (by simp)] at hA
  cases b4 : s.toList == [36, 110, 101] with
  | true =>
    rw [b4, if_pos rfl] at hA
    subst hA
    go_wp2_with fail
    go_ret
    exact ⟨rfl, HF.out⟩
  | false =>
  rw [b4, if_neg (by simp)] at hA
  cases b5 : s.toList == [36, 108, 116] with
  | true =>
    rw [b5, if_pos rfl] at hA
    subst hA
    go_wp2_with fail
    go_ret
    exact ⟨rfl, HF.out⟩
  | false =>
  rw [b5, if_neg (by simp)] at hA
  cases b6 : s.toList == [36, 108, 101] with
  | true =>
    rw [b6, if_pos rfl] at hA
    subst hA
    go_wp2_with fail
    go_ret
    exact ⟨rfl, HF.out⟩
  | false =>
  rw [b6, if_neg (by simp)] at hA
  cases b7 : s.toList == [36, 103, 116] with
  | true =>
    rw [b7, if_pos rfl] at hA
    subst hA
    go_wp2_with fail
    go_ret
    exact ⟨rfl, HF.out⟩
  | false =>
    rw [b7, if_neg (by simp)] at hA
    subst hA
    go_wp2_with fail
    go_ret
    exact ⟨rfl, HF.out⟩
end Go.Proofs.YtehdnjegipcpfaaDoor
namespace Go.Proofs.YtehdnjegipcpfaaDoor
open Go.RowKit Go.Proofs.YtehdnjegipcpfaaDoorW.PrintWords Go.Proofs.YtehdnjegipcpfaaDoorW.PrintLast Go.Proofs.YtehdnjegipcpfaaDoorW.PrintMore
open PFilterHolds Go.Shelf
theorem rd_z25 (w : World) : Rd w none 0 none 0 z25 :=
  ⟨Nat.le_refl _, (Kd.R_reads' (Kd.R_nil Kd.string 9 w 0 (fun _ => True))).2.2, Nat.le_refl _, (Kd.R_reads' (Kd.R_nil k25 25 w 0 (fun _ => True))).2.2⟩
theorem get_any' (x : S25) (p : ByteArray) (A3 : Option Addr) (c3 : Nat) (A4 : Option Addr) (c4 : Nat) (w : World) (hf : fmJ x = true) (h : Rd w A3 c3 A4 c4 x) (hT : Tabs w) (hp : p.size ≤ 1000000) :
    Calls Tryd.prog 72 #[av x A3 c3 A4 c4, .string p] w fun e w' => (∃ B3 d3 B4 d4, e = .returned (.tuple #[av ((getJ x p).getD z25) B3 d3 B4 d4, .bool (getJ x p).isSome]) ∧ Rd w' B3 d3 B4 d4 ((getJ x p).getD z25)) ∧ Below w.heap.size w w' := by
  refine (get_any x p A3 c3 A4 c4 w hf h hT hp).mono ?_
  rintro e w' ⟨hE, hb⟩
  refine ⟨?_, hb⟩
  cases hg : getJ x p with
  | none => rw [hg] at hE; exact ⟨none, 0, none, 0, hE, rd_z25 w'⟩
  | some y =>
    rw [hg] at hE
    obtain ⟨B3, d3, B4, d4, e1, h1⟩ := hE
    exact ⟨B3, d3, B4, d4, e1, h1⟩
def HoldsAt (k : Nat) : Prop := ∀ (x y : S25) (A3 : Option Addr) (c3 : Nat) (A4 : Option Addr) (c4 : Nat) (B3 : Option Addr) (d3 : Nat) (B4 : Option Addr) (d4 : Nat) (w : World), formedJ k x = true → fmJ y = true → Rd w A3 c3 A4 c4 x → Rd w B3 d3 B4 d4 y → Tabs w →
    Calls Tryd.prog 31 #[av x A3 c3 A4 c4, av y B3 d3 B4 d4] w fun e w' => e = .returned (.bool (holdsJ k x y)) ∧ Below w.heap.size w w'
set_option maxHeartbeats 1000000 in
theorem hold1_any (k : Nat) (ih : HoldsAt k) (x : S25) (hx : fmJ x = true) (B3 : Option Addr) (d3 : Nat) (B4 : Option Addr) (d4 : Nat) (g : Nat) (y : S25) (hy : formedJ k y = true) (A3 : Option Addr) (c3 : Nat) (A4 : Option Addr) (c4 : Nat) (w : World) (hk : w.heap[g]? = some (.cells (cs25 x B3 d3 B4 d4) 25 (0, 0))) (hRx : Rd w B3 d3 B4 d4 x) (hRy : Rd w A3 c3 A4 c4 y) (hT : Tabs w) :
    Calls Tryd.prog 76 #[av y A3 c3 A4 c4, .pointer (some ⟨g, 0, none⟩)] w fun e w' => e = .returned (.bool (!holdsJ k y x)) ∧ Below w.heap.size w w' := by
  have hb0 : Below w.heap.size w (w.alloc (.cells (cs25 y A3 c3 A4 c4) 25)) := (Below.refl _ w).alloc (Nat.le_refl _) _
  have hX := ih y x A3 c3 A4 c4 B3 d3 B4 d4 _ hy hx (hRy.below hb0) (hRx.below hb0) (hT.below hb0)
  have hg := blk_lt hk
  obtain ⟨x0, x1, x2, x3, x4⟩ := x
  obtain ⟨y0, y1, y2, y3, y4⟩ := y
  generalize holdsJ k ⟨y0, y1, y2, y3, y4⟩ ⟨x0, x1, x2, x3, x4⟩ = r at hX
  have k0 := blk_alloc hk (.cells (cs25 ⟨y0, y1, y2, y3, y4⟩ A3 c3 A4 c4) 25)
  have e0 : (w.alloc (.cells (cs25 ⟨y0, y1, y2, y3, y4⟩ A3 c3 A4 c4) 25)).cell? ⟨g, 0, none⟩ = some (.int .i64 x0) := (blk_cell k0 0).trans rfl
  have e1 : (w.alloc (.cells (cs25 ⟨y0, y1, y2, y3, y4⟩ A3 c3 A4 c4) 25)).cell? ⟨g, 1, none⟩ = some (.int .i64 x1) := (blk_cell k0 1).trans rfl
  have e2 : (w.alloc (.cells (cs25 ⟨y0, y1, y2, y3, y4⟩ A3 c3 A4 c4) 25)).cell? ⟨g, 2, none⟩ = some (.string x2) := (blk_cell k0 2).trans rfl
  have e3 : (w.alloc (.cells (cs25 ⟨y0, y1, y2, y3, y4⟩ A3 c3 A4 c4) 25)).cell? ⟨g, 3, none⟩ = some (.slice B3 x3.length d3) := (blk_cell k0 3).trans rfl
  have e4 : (w.alloc (.cells (cs25 ⟨y0, y1, y2, y3, y4⟩ A3 c3 A4 c4) 25)).cell? ⟨g, 4, none⟩ = some (.slice B4 x4.length d4) := (blk_cell k0 4).trans rfl
  have HB0 := Lib.hid hb0; clear hb0
  clear hk k0 hRx hRy hx hy ih hT
  go_enter Tryd.func76, Tryd.ntmps76
  go_wp2_with fail
  refine hX.mono ?_; rintro e w' ⟨rfl, hb⟩
  clear e0 e1 e2 e3 e4 hX
  go_wp2
  go_ret
  exact ⟨rfl, HB0.out.trans (hb.mono HB0.out.size)⟩
set_option maxHeartbeats 1000000 in
theorem hold2_any (k : Nat) (ih : HoldsAt k) (x : S25) (hx : fmJ x = true) (B3 : Option Addr) (d3 : Nat) (B4 : Option Addr) (d4 : Nat) (g : Nat) (y : S25) (hy : formedJ k y = true) (A3 : Option Addr) (c3 : Nat) (A4 : Option Addr) (c4 : Nat) (w : World) (hk : w.heap[g]? = some (.cells (cs25 x B3 d3 B4 d4) 25 (0, 0))) (hRx : Rd w B3 d3 B4 d4 x) (hRy : Rd w A3 c3 A4 c4 y) (hT : Tabs w) :
    Calls Tryd.prog 77 #[av y A3 c3 A4 c4, .pointer (some ⟨g, 0, none⟩)] w fun e w' => e = .returned (.bool (holdsJ k y x)) ∧ Below w.heap.size w w' := by
  have hb0 : Below w.heap.size w (w.alloc (.cells (cs25 y A3 c3 A4 c4) 25)) := (Below.refl _ w).alloc (Nat.le_refl _) _
  have hX := ih y x A3 c3 A4 c4 B3 d3 B4 d4 _ hy hx (hRy.below hb0) (hRx.below hb0) (hT.below hb0)
  have hg := blk_lt hk
  obtain ⟨x0, x1, x2, x3, x4⟩ := x
  obtain ⟨y0, y1, y2, y3, y4⟩ := y
  generalize holdsJ k ⟨y0, y1, y2, y3, y4⟩ ⟨x0, x1, x2, x3, x4⟩ = r at hX
  have k0 := blk_alloc hk (.cells (cs25 ⟨y0, y1, y2, y3, y4⟩ A3 c3 A4 c4) 25)
  have e0 : (w.alloc (.cells (cs25 ⟨y0, y1, y2, y3, y4⟩ A3 c3 A4 c4) 25)).cell? ⟨g, 0, none⟩ = some (.int .i64 x0) := (blk_cell k0 0).trans rfl
  have e1 : (w.alloc (.cells (cs25 ⟨y0, y1, y2, y3, y4⟩ A3 c3 A4 c4) 25)).cell? ⟨g, 1, none⟩ = some (.int .i64 x1) := (blk_cell k0 1).trans rfl
  have e2 : (w.alloc (.cells (cs25 ⟨y0, y1, y2, y3, y4⟩ A3 c3 A4 c4) 25)).cell? ⟨g, 2, none⟩ = some (.string x2) := (blk_cell k0 2).trans rfl
  have e3 : (w.alloc (.cells (cs25 ⟨y0, y1, y2, y3, y4⟩ A3 c3 A4 c4) 25)).cell? ⟨g, 3, none⟩ = some (.slice B3 x3.length d3) := (blk_cell k0 3).trans rfl
  have e4 : (w.alloc (.cells (cs25 ⟨y0, y1, y2, y3, y4⟩ A3 c3 A4 c4) 25)).cell? ⟨g, 4, none⟩ = some (.slice B4 x4.length d4) := (blk_cell k0 4).trans rfl
  have HB0 := Lib.hid hb0; clear hb0
  clear hk k0 hRx hRy hx hy ih hT
  go_enter Tryd.func77, Tryd.ntmps77
  go_wp2_with fail
  refine hX.mono ?_; rintro e w' ⟨rfl, hb⟩
  clear e0 e1 e2 e3 e4 hX
  go_wp2
  go_ret
  exact ⟨rfl, HB0.out.trans (hb.mono HB0.out.size)⟩
theorem any_not' (f : S25 → Bool) (l : List S25) : (!l.any (fun y => !f y)) = l.all f := by rw [any_not, Bool.not_not]
theorem formed_six {k : Nat} (hk : k ≤ 6) {x : S25} (h : formedJ k x = true) : fmJ x = true := by
  have : ∀ m, k ≤ m → formedJ m x = true := by
    intro m hm
    induction m with
    | zero => obtain rfl : k = 0 := by omega
              exact h
    | succ m ih =>
      by_cases e : k = m + 1
      · subst e; exact h
      · exact formed_mono m x (ih (by omega))
  exact this 6 hk
set_option maxRecDepth 100000 in
set_option maxHeartbeats 4000000 in
theorem one_any (k : Nat) (hk : k ≤ 6) (ih : HoldsAt k) (s : ByteArray) (hs : s.size ≤ 1000000) (v x : S25) (hv : formedJ k v = true) (hx : fmJ x = true) (A3 : Option Addr) (c3 : Nat) (A4 : Option Addr) (c4 : Nat) (B3 : Option Addr) (d3 : Nat) (B4 : Option Addr) (d4 : Nat) (w : World) (h : Rd w A3 c3 A4 c4 v) (h' : Rd w B3 d3 B4 d4 x) (hT : Tabs w) :
    Calls Tryd.prog 52 #[.string s, av v A3 c3 A4 c4, av x B3 d3 B4 d4] w fun e w' => e = .returned (.bool (oneJ (fun y => holdsJ k y x) s v x)) ∧ Below w.heap.size w w' := by
  have hb0 := two_boxes w (.cells (cs25 v A3 c3 A4 c4) 25) (.cells (cs25 x B3 d3 B4 d4) 25)
  have hk0 := two_boxes_0 w (.cells (cs25 v A3 c3 A4 c4) 25) (.cells (cs25 x B3 d3 B4 d4) 25)
  have hk1 := two_boxes_1 w (.cells (cs25 v A3 c3 A4 c4) 25) (.cells (cs25 x B3 d3 B4 d4) 25)
  have h24 := few_items hv
  have hv6 := formed_six hk hv
  have hAnd := contains_any 76 #[.pointer (some ⟨w.heap.size + 1, 0, none⟩)] (fun y => !holdsJ k y x) (enters_of Tryd.func76 (by kernel_rfl) rfl) A4 c4 v.f4 _ (h.below hb0).g4 (fun y hy W D3 m3 D4 m4 hbW hRy => by
    simpa using hold1_any k ih x hx B3 d3 B4 d4 (w.heap.size + 1) y (items_formed hv y hy) D3 m3 D4 m4 W (blk_below hk1 hbW) ((h'.below hb0).below hbW) hRy ((hT.below hb0).below hbW)) (by have := h24.2; omega)
  have hOr := contains_any 77 #[.pointer (some ⟨w.heap.size + 1, 0, none⟩)] (fun y => holdsJ k y x) (enters_of Tryd.func77 (by kernel_rfl) rfl) A4 c4 v.f4 _ (h.below hb0).g4 (fun y hy W D3 m3 D4 m4 hbW hRy => by
    simpa using hold2_any k ih x hx B3 d3 B4 d4 (w.heap.size + 1) y (items_formed hv y hy) D3 m3 D4 m4 W (blk_below hk1 hbW) ((h'.below hb0).below hbW) hRy ((hT.below hb0).below hbW)) (by have := h24.2; omega)
  have hNot := ih v x A3 c3 A4 c4 B3 d3 B4 d4 _ hv hx (h.below hb0) (h'.below hb0) (hT.below hb0)
  have hGet := get_any' x s B3 d3 B4 d4 _ hx (h'.below hb0) (hT.below hb0) hs
  have hTst := fun W (hb : Below w.heap.size w W) => tests_any v A3 c3 A4 c4 W (h.below hb) (by have := h24.1; omega)
  obtain ⟨ANS, hA⟩ : ∃ a, oneJ (fun y => holdsJ k y x) s v x = a := ⟨_, rfl⟩
  rw [hA]
  unfold oneJ isAnd isOr isNot at hA
  have hal := any_not' (fun y => holdsJ k y x) v.f4
  rw [← hal] at hA
  dsimp only at hA
  clear hal
  generalize (v.f4.any fun y => !holdsJ k y x) = ba at hA hAnd
  generalize (v.f4.any fun y => holdsJ k y x) = bo at hA hOr
  generalize holdsJ k v x = bn at hA hNot
  have hgf : ∀ y, getJ x s = some y → fmJ y = true := fun y e => get_formed e
  have HB0 := Lib.hid hb0; clear hb0
  have HT := Lib.hid hT; clear hT
  have HRV := Lib.hid h; clear h
  have HV := Lib.hid hv; clear hv
  have HV6 := Lib.hid hv6; clear hv6
  have HTST := Lib.hid hTst; clear hTst
  have HGF := Lib.hid hgf; clear hgf
  have HK0 := Lib.hid hk0; clear hk0
  clear hk1 h' hx ih hk
  obtain ⟨v0, v1, v2, v3, v4⟩ := v
  obtain ⟨x0, x1, x2, x3, x4⟩ := x
  simp only at hA hAnd hOr hNot hGet h24
  have HA := Lib.hid hA; clear hA
  cases b1 : s.toList == [36, 97, 110, 100] with
  | true =>
    have hA := HA.out
    rw [b1, if_pos rfl] at hA
    subst hA
    clear hOr hNot hGet HA
    go_enter Tryd.func52, Tryd.ntmps52
    go_wp2_with fail
    refine hAnd.mono ?_; rintro e w1 ⟨rfl, hb⟩
    have HB := Lib.hid hb; clear hb hAnd
    go_wp2_with fail
    go_ret
    exact ⟨rfl, HB0.out.trans (HB.out.mono HB0.out.size)⟩
  | false =>
  cases b2 : s.toList == [36, 111, 114] with
  | true =>
    have hA := HA.out
    rw [b1, if_neg (by simp), b2, if_pos rfl] at hA
    subst hA
    clear hAnd hNot hGet HA
    go_enter Tryd.func52, Tryd.ntmps52
    go_wp2_with fail
    refine hOr.mono ?_; rintro e w1 ⟨rfl, hb⟩
    have HB := Lib.hid hb; clear hb hOr
    go_wp2_with fail
    go_ret
    exact ⟨rfl, HB0.out.trans (HB.out.mono HB0.out.size)⟩
  | false =>
  cases b3 : s.toList == [36, 110, 111, 116] with
  | true =>
    have hA := HA.out
    rw [b1, if_neg (by simp), b2, if_neg (by simp), b3, if_pos rfl] at hA
    subst hA
    clear hAnd hOr hGet HA
    go_enter Tryd.func52, Tryd.ntmps52
    go_wp2_with fail
    refine hNot.mono ?_; rintro e w1 ⟨rfl, hb⟩
    have HB := Lib.hid hb; clear hb hNot
    go_wp2_with fail
    go_ret
    exact ⟨rfl, HB0.out.trans (HB.out.mono HB0.out.size)⟩
  | false =>
    have hA := HA.out
    rw [b1, if_neg (by simp), b2, if_neg (by simp), b3, if_neg (by simp)] at hA
    clear hAnd hOr hNot HA
    have hty : ∀ y there, (getJ ⟨x0, x1, x2, x3, x4⟩ s).getD z25 = y → (getJ ⟨x0, x1, x2, x3, x4⟩ s).isSome = there → there = true → fmJ y = true := by
      intro y there e1 e2 e3
      cases hg : getJ ⟨x0, x1, x2, x3, x4⟩ s with
      | none => rw [hg] at e2; rw [← e2] at e3; cases e3
      | some z => rw [hg] at e1; rw [← e1]; exact HGF.out z hg
    obtain ⟨y, hy⟩ : ∃ y, (getJ ⟨x0, x1, x2, x3, x4⟩ s).getD z25 = y := ⟨_, rfl⟩
    obtain ⟨there, hth⟩ : ∃ y, (getJ ⟨x0, x1, x2, x3, x4⟩ s).isSome = y := ⟨_, rfl⟩
    have hfy := hty y there hy hth
    rw [hy, hth] at hA hGet
    clear hy hth hty HGF
    have HFY := Lib.hid hfy; clear hfy
    obtain ⟨tb, htb⟩ : ∃ b, testsJ ⟨v0, v1, v2, v3, v4⟩ = b := ⟨_, rfl⟩
    rw [htb] at hA
    have HTB := Lib.hid htb; clear htb
    have HA := Lib.hid hA; clear hA
    go_enter Tryd.func52, Tryd.ntmps52
    go_wp2_with fail
    refine hGet.mono ?_
    rintro e w1 ⟨⟨Y3, m3, Y4, m4, rfl, hRy⟩, hb⟩
    have hB1 := HB0.out.trans (hb.mono HB0.out.size)
    have k0 := blk_below HK0.out hb
    obtain ⟨y0, y1, y2, y3, y4⟩ := y
    have hkx : (w1.alloc (.cells (cs25 ⟨y0, y1, y2, y3, y4⟩ Y3 m3 Y4 m4) 25)).heap[w1.heap.size]? = some (.cells (cs25 ⟨y0, y1, y2, y3, y4⟩ Y3 m3 Y4 m4) 25 (0, 0)) := new_blk w1 _
    have hBx : Below w.heap.size w (w1.alloc (.cells (cs25 ⟨y0, y1, y2, y3, y4⟩ Y3 m3 Y4 m4) 25)) := below_alloc hB1 _
    have hkv := blk_alloc k0 (.cells (cs25 ⟨y0, y1, y2, y3, y4⟩ Y3 m3 Y4 m4) 25)
    have hRyx := hRy.below (below_alloc (Below.refl _ w1) (.cells (cs25 ⟨y0, y1, y2, y3, y4⟩ Y3 m3 Y4 m4) 25))
    have hX := HTST.out _ hBx
    rw [HTB.out] at hX
    have f0 : w1.cell? ⟨w.heap.size, 0, none⟩ = some (.int .i64 v0) := (blk_cell k0 0).trans rfl
    have f1 : w1.cell? ⟨w.heap.size, 1, none⟩ = some (.int .i64 v1) := (blk_cell k0 1).trans rfl
    have f2 : w1.cell? ⟨w.heap.size, 2, none⟩ = some (.string v2) := (blk_cell k0 2).trans rfl
    have f3 : w1.cell? ⟨w.heap.size, 3, none⟩ = some (.slice A3 v3.length c3) := (blk_cell k0 3).trans rfl
    have f4 : w1.cell? ⟨w.heap.size, 4, none⟩ = some (.slice A4 v4.length c4) := (blk_cell k0 4).trans rfl
    have HKX := Lib.hid hkx; clear hkx
    have HBX := Lib.hid hBx; clear hBx
    have HKV := Lib.hid hkv; clear hkv
    have HRYX := Lib.hid hRyx; clear hRyx
    have hlt0 : w.heap.size < w1.heap.size := blk_lt k0
    clear hGet hB1 k0 hb hRy HB0 HK0 HTST
    go_wp2_with fail
    refine hX.mono ?_
    rintro e w2 ⟨rfl, hb⟩
    have hB2 := HBX.out.trans (hb.mono HBX.out.size)
    have kx := blk_below HKX.out hb
    have kv := blk_below HKV.out hb
    have hRY2 := HRYX.out.below hb
    have HB2 := Lib.hid hB2; clear hB2
    have HRY2 := Lib.hid hRY2; clear hRY2
    clear hX f0 f1 f2 f3 f4 HKX HBX HKV HRYX hb
    have f0 : w2.cell? ⟨w.heap.size, 0, none⟩ = some (.int .i64 v0) := (blk_cell kv 0).trans rfl
    have f1 : w2.cell? ⟨w.heap.size, 1, none⟩ = some (.int .i64 v1) := (blk_cell kv 1).trans rfl
    have f2 : w2.cell? ⟨w.heap.size, 2, none⟩ = some (.string v2) := (blk_cell kv 2).trans rfl
    have f3 : w2.cell? ⟨w.heap.size, 3, none⟩ = some (.slice A3 v3.length c3) := (blk_cell kv 3).trans rfl
    have f4 : w2.cell? ⟨w.heap.size, 4, none⟩ = some (.slice A4 v4.length c4) := (blk_cell kv 4).trans rfl
    cases tb with
    | false =>
      have hA := HA.out
      rw [if_neg (by simp)] at hA
      clear HA
      cases there with
      | false =>
        rw [Bool.false_and] at hA
        subst hA
        clear f0 f1 f2 f3 f4 kx kv
        go_wp2_with fail
        go_ret
        exact ⟨rfl, HB2.out⟩
      | true =>
        rw [Bool.true_and] at hA
        have hS := same_any 6 ⟨y0, y1, y2, y3, y4⟩ ⟨v0, v1, v2, v3, v4⟩ Y3 m3 Y4 m4 A3 c3 A4 c4 w2 (HFY.out rfl) HRY2.out (HRV.out.below HB2.out)
        rw [hA] at hS
        clear hA
        have i0 : w2.cell? ⟨w1.heap.size, 0, none⟩ = some (.int .i64 y0) := (blk_cell kx 0).trans rfl
        have i1 : w2.cell? ⟨w1.heap.size, 1, none⟩ = some (.int .i64 y1) := (blk_cell kx 1).trans rfl
        have i2 : w2.cell? ⟨w1.heap.size, 2, none⟩ = some (.string y2) := (blk_cell kx 2).trans rfl
        have i3 : w2.cell? ⟨w1.heap.size, 3, none⟩ = some (.slice Y3 y3.length m3) := (blk_cell kx 3).trans rfl
        have i4 : w2.cell? ⟨w1.heap.size, 4, none⟩ = some (.slice Y4 y4.length m4) := (blk_cell kx 4).trans rfl
        clear kx kv
        go_wp2_with fail
        refine hS.mono ?_; rintro e w3 ⟨rfl, hb⟩
        have HB := Lib.hid hb; clear hb hS f0 f1 f2 f3 f4 i0 i1 i2 i3 i4
        go_wp2_with fail
        go_ret
        exact ⟨rfl, HB2.out.trans (HB.out.mono HB2.out.size)⟩
    | true =>
      have hA := HA.out
      rw [if_pos rfl] at hA
      clear HA
      have HA := Lib.hid hA; clear hA
      have h6 : v0 = 6 := by
        have := HTB.out
        unfold testsJ at this
        simp only [Bool.and_eq_true, beq_iff_eq] at this
        exact this.1
      have hlen := names_items HV.out h6
      simp only at hlen
      have HLEN := Lib.hid hlen; clear hlen h6
      have HKX := Lib.hid kx; clear kx
      have HKV := Lib.hid kv; clear kv
      go_wp2_with fail
      go_loopw [9, 10, 49] (fun v9 v10 v49 wr => ∃ j : Nat, j ≤ v3.length ∧ v49 = .int .i64 j ∧ (∀ i, i < j → passJ (v3.getD i ByteArray.empty) (v4.getD i z25) ⟨y0, y1, y2, y3, y4⟩ there = true) ∧ Rd wr Y3 m3 Y4 m4 ⟨y0, y1, y2, y3, y4⟩ ∧ Below w.heap.size w wr ∧ wr.heap[w.heap.size]? = some (.cells (cs25 ⟨v0, v1, v2, v3, v4⟩ A3 c3 A4 c4) 25 (0, 0)) ∧ wr.heap[w1.heap.size]? = some (.cells (cs25 ⟨y0, y1, y2, y3, y4⟩ Y3 m3 Y4 m4) 25 (0, 0))) (fun _ _ v49 _ => v3.length - (intOf v49).toNat)
      case atStart => exact ⟨0, Nat.zero_le _, rfl, fun i hi => by omega, HRY2.out, HB2.out, HKV.out, HKX.out⟩
      case round =>
        obtain ⟨j, hj, rfl, hO, hRY, hBr, kv, kx⟩ := hrel
        have HO := Lib.hid hO; clear hO
        have HRY := Lib.hid hRY; clear hRY
        have HR := Lib.hid hBr; clear hBr
        clear f0 f1 f2 f3 f4 HRY2 HB2 HKX HKV
        have f4 : wr.cell? ⟨w.heap.size, 4, none⟩ = some (.slice A4 v4.length c4) := (blk_cell kv 4).trans rfl
        have i0 : wr.cell? ⟨w1.heap.size, 0, none⟩ = some (.int .i64 y0) := (blk_cell kx 0).trans rfl
        have i1 : wr.cell? ⟨w1.heap.size, 1, none⟩ = some (.int .i64 y1) := (blk_cell kx 1).trans rfl
        have i2 : wr.cell? ⟨w1.heap.size, 2, none⟩ = some (.string y2) := (blk_cell kx 2).trans rfl
        have i3 : wr.cell? ⟨w1.heap.size, 3, none⟩ = some (.slice Y3 y3.length m3) := (blk_cell kx 3).trans rfl
        have i4 : wr.cell? ⟨w1.heap.size, 4, none⟩ = some (.slice Y4 y4.length m4) := (blk_cell kx 4).trans rfl
        have HKV := Lib.hid kv; clear kv
        have HKX := Lib.hid kx; clear kx
        by_cases hlt : j < v3.length
        · have hji : (j : Int) < (v3.length : Int) := by omega
          have hj4 : j < v4.length := by have := HLEN.out; omega
          have hji' : (j : Int) < (v4.length : Int) := by omega
          obtain ⟨t, ht⟩ : ∃ t, v3[j]? = some t := ⟨_, List.getElem?_eq_getElem hlt⟩
          obtain ⟨u, hu⟩ : ∃ y, v4[j]? = some y := ⟨_, List.getElem?_eq_getElem hj4⟩
          obtain ⟨b', o', rfl, hb', e9⟩ := name_of HRV.out.g3 rfl j t ht
          obtain ⟨b, o, B3, d3, B4, d4, rfl, hb, e0, e1, e2, e3, e4, hR⟩ := item_of HRV.out.g4 rfl j u hu
          replace e9 := (HR.out.cell (World.block_lt_of_cell? w _ e9)).trans e9
          replace e0 := (HR.out.cell (World.block_lt_of_cell? w _ e0)).trans e0
          replace e1 := (HR.out.cell (World.block_lt_of_cell? w _ e1)).trans e1
          replace e2 := (HR.out.cell (World.block_lt_of_cell? w _ e2)).trans e2
          replace e3 := (HR.out.cell (World.block_lt_of_cell? w _ e3)).trans e3
          replace e4 := (HR.out.cell (World.block_lt_of_cell? w _ e4)).trans e4
          have hdr : Below wr.heap.size wr wr.drew := (Below.refl _ wr).drew
          have hcw := pass_any t u ⟨y0, y1, y2, y3, y4⟩ there (items_formed HV6.out u (List.mem_of_getElem? hu)) HFY.out B3 d3 B4 d4 Y3 m3 Y4 m4 wr.drew ((hR.below HR.out).below hdr) (HRY.out.below hdr) ((HT.out.below HR.out).below hdr)
          have hget : passJ (v3.getD j ByteArray.empty) (v4.getD j z25) ⟨y0, y1, y2, y3, y4⟩ there = passJ t u ⟨y0, y1, y2, y3, y4⟩ there := by
            rw [List.getD_eq_getElem?_getD, ht, List.getD_eq_getElem?_getD, hu]; rfl
          have HG := Lib.hid hget; clear hget
          clear hR hu ht hdr
          obtain ⟨u0, u1, u2, u3, u4⟩ := u
          obtain ⟨q, hq⟩ : ∃ q, passJ t ⟨u0, u1, u2, u3, u4⟩ ⟨y0, y1, y2, y3, y4⟩ there = q := ⟨_, rfl⟩
          rw [hq] at hcw
          have HQ := Lib.hid hq; clear hq
          go_upto_region 14 with fail
          refine start_ (n := 10) (S := fun w' => w'.cell? ⟨w.heap.size, 4, none⟩ = some (.slice (some ⟨b, o, none⟩) v4.length c4) ∧ w'.cell? ⟨b, o + j * 5, none⟩ = some (.int .i64 u0) ∧ w'.cell? ⟨b, o + j * 5 + 1, none⟩ = some (.int .i64 u1) ∧ w'.cell? ⟨b, o + j * 5 + 2, none⟩ = some (.string u2) ∧ w'.cell? ⟨b, o + j * 5 + 3, none⟩ = some (.slice B3 u3.length d3) ∧ w'.cell? ⟨b, o + j * 5 + 4, none⟩ = some (.slice B4 u4.length d4) ∧ w'.cell? ⟨w1.heap.size, 0, none⟩ = some (.int .i64 y0) ∧ w'.cell? ⟨w1.heap.size, 1, none⟩ = some (.int .i64 y1) ∧ w'.cell? ⟨w1.heap.size, 2, none⟩ = some (.string y2) ∧ w'.cell? ⟨w1.heap.size, 3, none⟩ = some (.slice Y3 y3.length m3) ∧ w'.cell? ⟨w1.heap.size, 4, none⟩ = some (.slice Y4 y4.length m4)) (ds := []) #[false, false, false, false, false, false, false, false, false, false] (by kernel_rfl) rfl rfl ⟨f4, e0, e1, e2, e3, e4, i0, i1, i2, i3, i4⟩ (fun hHeld => ?_)
          refine pure_ (i := 0) (N := some 54) (v := ?_) (a' := ?_) #[true, false, false, false, false, false, false, false, false, false] rfl rfl (by kernel_rfl) (fun _ _ _ h => h) (Or.inl ⟨by rfl, ?_⟩) ?_ ?_
          rotate_left
          · intro w'
            go_simp
            with_reducible rfl
          rotate_left
          · simp only [Act.put, List.setIfInBounds_toArray, List.set_cons_zero, List.set_cons_succ]
            rfl
          refine pure_ (i := 1) (N := some 55) (v := ?_) (a' := ?_) #[true, true, false, false, false, false, false, false, false, false] rfl rfl (by kernel_rfl) (fun _ _ _ h => h) (Or.inl ⟨by rfl, ?_⟩) ?_ ?_
          rotate_left
          · intro w'
            go_simp
            with_reducible rfl
          rotate_left
          · simp only [Act.put, List.setIfInBounds_toArray, List.set_cons_zero, List.set_cons_succ]
            rfl
          refine pure_ (i := 3) (N := some 57) (v := ?_) (a' := ?_) #[true, true, false, true, false, false, false, false, false, false] rfl rfl (by kernel_rfl) (fun _ _ _ h => h) (Or.inl ⟨by rfl, ?_⟩) ?_ ?_
          rotate_left
          · intro w'
            go_simp
            with_reducible rfl
          rotate_left
          · simp only [Act.put, List.setIfInBounds_toArray, List.set_cons_zero, List.set_cons_succ]
            rfl
          refine pure_ (i := 7) (N := some 61) (v := ?_) (a' := ?_) #[true, true, false, true, false, false, false, true, false, false] rfl rfl (by kernel_rfl) (fun _ _ _ h => h) (Or.inl ⟨by rfl, ?_⟩) ?_ ?_
          rotate_left
          · intro w'
            go_simp
            with_reducible rfl
          rotate_left
          · simp only [Act.put, List.setIfInBounds_toArray, List.set_cons_zero, List.set_cons_succ]
            rfl
          refine take_ (i := 2) (N := some 56) (v := ?_) (a' := ?_) #[true, true, true, true, false, false, false, true, false, false] rfl rfl (by kernel_rfl) (fun _ _ _ h => h) (Or.inl ⟨by rfl, ?_⟩) hHeld ?_ ?_
          rotate_left
          · rintro w' ⟨s0, s1, s2, s3, s4, s5, s6, s7, s8, s9, s10⟩
            go_simp
            with_reducible rfl
          rotate_left
          · simp only [Act.put, List.setIfInBounds_toArray, List.set_cons_zero, List.set_cons_succ]
            rfl
          refine pure_ (i := 4) (N := some 58) (v := ?_) (a' := ?_) #[true, true, true, true, true, false, false, true, false, false] rfl rfl (by kernel_rfl) (fun _ _ _ h => h) (Or.inl ⟨by rfl, ?_⟩) ?_ ?_
          rotate_left
          · intro w'
            go_simp
            with_reducible rfl
          rotate_left
          · simp only [Act.put, List.setIfInBounds_toArray, List.set_cons_zero, List.set_cons_succ]
            rfl
          refine take_ (i := 5) (N := some 59) (v := ?_) (a' := ?_) #[true, true, true, true, true, true, false, true, false, false] rfl rfl (by kernel_rfl) (fun _ _ _ h => h) (Or.inl ⟨by rfl, ?_⟩) hHeld ?_ ?_
          rotate_left
          · rintro w' ⟨s0, s1, s2, s3, s4, s5, s6, s7, s8, s9, s10⟩
            go_simp
            with_reducible rfl
          rotate_left
          · simp only [Act.put, List.setIfInBounds_toArray, List.set_cons_zero, List.set_cons_succ]
            rfl
          refine take_ (i := 6) (N := some 60) (v := ?_) (a' := ?_) #[true, true, true, true, true, true, true, true, false, false] rfl rfl (by kernel_rfl) (fun _ _ _ h => h) (Or.inl ⟨by rfl, ?_⟩) hHeld ?_ ?_
          rotate_left
          · rintro w' ⟨s0, s1, s2, s3, s4, s5, s6, s7, s8, s9, s10⟩
            go_simp
            with_reducible rfl
          rotate_left
          · simp only [Act.put, List.setIfInBounds_toArray, List.set_cons_zero, List.set_cons_succ]
            rfl
          refine one_ (i := 8) (N := some 62) #[true, true, true, true, true, true, true, true, true, false] rfl rfl (by kernel_rfl) (by decide) (fun K hK => ?_)
          refine goes_ Tryd.func79 (by kernel_rfl) rfl #[.string t, .agg #[.int .i64 u0, .int .i64 u1, .string u2, .slice B3 u3.length d3, .slice B4 u4.length d4], .agg #[.int .i64 y0, .int .i64 y1, .string y2, .slice Y3 y3.length m3, .slice Y4 y4.length m4], .bool there] (by rfl) rfl rfl (by simp only [List.map_toArray, List.map_cons, List.map_nil]; rfl) ?_
          with_reducible refine (hcw).mono ?_
          rintro e w2 ⟨rfl, hbc⟩
          refine ⟨_, rfl, ?_⟩
          have hbw : Below wr.heap.size wr w2 := (Below.refl _ wr).drew.trans hbc
          have HBC := Lib.hid hbw
          clear hbc hbw
          refine hK.out _ _ ⟨((HBC.out.cell (World.block_lt_of_cell? wr _ f4)).trans f4), ((HBC.out.cell (World.block_lt_of_cell? wr _ e0)).trans e0), ((HBC.out.cell (World.block_lt_of_cell? wr _ e1)).trans e1), ((HBC.out.cell (World.block_lt_of_cell? wr _ e2)).trans e2), ((HBC.out.cell (World.block_lt_of_cell? wr _ e3)).trans e3), ((HBC.out.cell (World.block_lt_of_cell? wr _ e4)).trans e4), ((HBC.out.cell (World.block_lt_of_cell? wr _ i0)).trans i0), ((HBC.out.cell (World.block_lt_of_cell? wr _ i1)).trans i1), ((HBC.out.cell (World.block_lt_of_cell? wr _ i2)).trans i2), ((HBC.out.cell (World.block_lt_of_cell? wr _ i3)).trans i3), ((HBC.out.cell (World.block_lt_of_cell? wr _ i4)).trans i4)⟩ (fun hHeld => ?_)
          clear hK K
          refine norm_ (a' := ?_) ?_ ?_
          rotate_left
          · show Act.put _ (some 62) _ = _
            simp only [Act.put, List.setIfInBounds_toArray, List.set_cons_zero, List.set_cons_succ]
            rfl
          refine pure_ (i := 9) (N := some 63) (v := ?_) (a' := ?_) #[true, true, true, true, true, true, true, true, true, true] rfl rfl (by kernel_rfl) (fun _ _ _ h => h) (Or.inl ⟨by rfl, ?_⟩) ?_ ?_
          rotate_left
          · intro w'
            go_simp
            with_reducible rfl
          rotate_left
          · simp only [Act.put, List.setIfInBounds_toArray, List.set_cons_zero, List.set_cons_succ]
            rfl
          refine done_ (by kernel_rfl) ?_

          have hB3 := HR.out.trans (HBC.out.mono HR.out.size)
          have HB3 := Lib.hid hB3; clear hB3
          clear hcw e0 e1 e2 e3 e4 e9 f4 i0 i1 i2 i3 i4
          cases q with
          | false =>
            have hno : ANS = false := by
              rw [← HA.out]
              exact List.all_eq_false.2 ⟨j, by simpa using hlt, by rw [HG.out, HQ.out]; simp⟩
            subst hno
            go_wp2_with fail
            go_ret
            exact ⟨rfl, HB3.out⟩
          | true =>
            go_wp2_with fail
            go_roundw
            case rel =>
              refine ⟨j + 1, by omega, by go_num, fun i hi => ?_, HRY.out.below HBC.out, HB3.out, blk_below HKV.out HBC.out, blk_below HKX.out HBC.out⟩
              by_cases hi' : i < j
              · exact HO.out i hi'
              · obtain rfl : i = j := by omega
                rw [HG.out, HQ.out]
            case measure => simp [intOf]; omega
        · have hnl : ¬ (j : Int) < (v3.length : Int) := by omega
          have hall : ANS = true := by
            rw [← HA.out]
            refine List.all_eq_true.2 (fun i hi => HO.out i ?_)
            have h1 : i < v3.length := by simpa using hi
            omega
          subst hall
          go_wp2_with fail
          go_ret
          exact ⟨rfl, HR.out⟩
set_option maxRecDepth 100000 in
set_option maxHeartbeats 4000000 in
theorem holds_step (k : Nat) (hk : k ≤ 5) (ih : HoldsAt k) : HoldsAt (k + 1) := by
  intro x y A3 c3 A4 c4 Y3 m3 Y4 m4 w hx hy h h' hT
  have hb0 := two_boxes w (.cells (cs25 x A3 c3 A4 c4) 25) (.cells (cs25 y Y3 m3 Y4 m4) 25)
  have hk0 := two_boxes_0 w (.cells (cs25 x A3 c3 A4 c4) 25) (.cells (cs25 y Y3 m3 Y4 m4) 25)
  have hk1 := two_boxes_1 w (.cells (cs25 x A3 c3 A4 c4) 25) (.cells (cs25 y Y3 m3 Y4 m4) 25)
  have h24 := few_items hx
  have hnm := name_few hx
  have hlen := names_le hx
  have hmf : ∀ i, i < x.f3.length → formedJ k (x.f4.getD i z25) = true := fun i hi => member_formed hx hi
  obtain ⟨ANS, hA⟩ : ∃ a, holdsJ (k + 1) x y = a := ⟨_, rfl⟩
  rw [hA]
  unfold holdsJ at hA
  have HA := Lib.hid hA; clear hA
  have HB0 := Lib.hid hb0; clear hb0
  have HK0 := Lib.hid hk0; clear hk0
  have HK1 := Lib.hid hk1; clear hk1
  have HI := Lib.hid ih; clear ih
  have HX := Lib.hid hmf; clear hmf
  have HNM := Lib.hid hnm; clear hnm
  have HY := Lib.hid hy; clear hy
  have HRD := Lib.hid h; clear h
  have HRY := Lib.hid h'; clear h'
  have HT := Lib.hid hT; clear hT
  clear hx
  obtain ⟨x0, x1, x2, x3, x4⟩ := x
  obtain ⟨y0, y1, y2, y3, y4⟩ := y
  simp only at h24 hlen
  go_enter Tryd.func31, Tryd.ntmps31
  go_wp2_with fail
  go_loopw [5, 6, 10] (fun v5 v6 v10 wr => ∃ j : Nat, j ≤ x3.length ∧ v10 = .int .i64 j ∧ (∀ i, i < j → oneJ (fun z => holdsJ k z ⟨y0, y1, y2, y3, y4⟩) (x3.getD i ByteArray.empty) (x4.getD i z25) ⟨y0, y1, y2, y3, y4⟩ = true) ∧ Below w.heap.size w wr ∧ wr.heap[w.heap.size]? = some (.cells (cs25 ⟨x0, x1, x2, x3, x4⟩ A3 c3 A4 c4) 25 (0, 0)) ∧ wr.heap[w.heap.size + 1]? = some (.cells (cs25 ⟨y0, y1, y2, y3, y4⟩ Y3 m3 Y4 m4) 25 (0, 0))) (fun _ _ v10 _ => x3.length - (intOf v10).toNat)
  case atStart => exact ⟨0, Nat.zero_le _, rfl, fun i hi => by omega, HB0.out, HK0.out, HK1.out⟩
  case round =>
    obtain ⟨j, hj, rfl, hO, hBr, kv, kx⟩ := hrel
    have HO := Lib.hid hO; clear hO
    have HR := Lib.hid hBr; clear hBr
    clear HB0 HK0 HK1
    have f4 : wr.cell? ⟨w.heap.size, 4, none⟩ = some (.slice A4 x4.length c4) := (blk_cell kv 4).trans rfl
    have i0 : wr.cell? ⟨w.heap.size + 1, 0, none⟩ = some (.int .i64 y0) := (blk_cell kx 0).trans rfl
    have i1 : wr.cell? ⟨w.heap.size + 1, 1, none⟩ = some (.int .i64 y1) := (blk_cell kx 1).trans rfl
    have i2 : wr.cell? ⟨w.heap.size + 1, 2, none⟩ = some (.string y2) := (blk_cell kx 2).trans rfl
    have i3 : wr.cell? ⟨w.heap.size + 1, 3, none⟩ = some (.slice Y3 y3.length m3) := (blk_cell kx 3).trans rfl
    have i4 : wr.cell? ⟨w.heap.size + 1, 4, none⟩ = some (.slice Y4 y4.length m4) := (blk_cell kx 4).trans rfl
    have HKV := Lib.hid kv; clear kv
    have HKX := Lib.hid kx; clear kx
    by_cases hlt : j < x3.length
    · have hji : (j : Int) < (x3.length : Int) := by omega
      have hj4 : j < x4.length := by omega
      have hji' : (j : Int) < (x4.length : Int) := by omega
      obtain ⟨t, ht⟩ : ∃ t, x3[j]? = some t := ⟨_, List.getElem?_eq_getElem hlt⟩
      obtain ⟨u, hu⟩ : ∃ y, x4[j]? = some y := ⟨_, List.getElem?_eq_getElem hj4⟩
      obtain ⟨b', o', rfl, hb', e9⟩ := name_of HRD.out.g3 rfl j t ht
      obtain ⟨b, o, B3, d3, B4, d4, rfl, hb, e0, e1, e2, e3, e4, hR⟩ := item_of HRD.out.g4 rfl j u hu
      replace e9 := (HR.out.cell (World.block_lt_of_cell? w _ e9)).trans e9
      replace e0 := (HR.out.cell (World.block_lt_of_cell? w _ e0)).trans e0
      replace e1 := (HR.out.cell (World.block_lt_of_cell? w _ e1)).trans e1
      replace e2 := (HR.out.cell (World.block_lt_of_cell? w _ e2)).trans e2
      replace e3 := (HR.out.cell (World.block_lt_of_cell? w _ e3)).trans e3
      replace e4 := (HR.out.cell (World.block_lt_of_cell? w _ e4)).trans e4
      have hdr : Below wr.heap.size wr wr.drew := (Below.refl _ wr).drew
      have hsz := HNM.out t (List.mem_of_getElem? ht)
      have hgu : x4.getD j z25 = u := by rw [List.getD_eq_getElem?_getD, hu]; rfl
      have hfu := HX.out j hlt
      simp only [hgu] at hfu
      have hcw := one_any k (by omega) HI.out t (by omega) u ⟨y0, y1, y2, y3, y4⟩ hfu HY.out B3 d3 B4 d4 Y3 m3 Y4 m4 wr.drew ((hR.below HR.out).below hdr) ((HRY.out.below HR.out).below hdr) ((HT.out.below HR.out).below hdr)
      have hget : oneJ (fun z => holdsJ k z ⟨y0, y1, y2, y3, y4⟩) (x3.getD j ByteArray.empty) (x4.getD j z25) ⟨y0, y1, y2, y3, y4⟩ = oneJ (fun z => holdsJ k z ⟨y0, y1, y2, y3, y4⟩) t u ⟨y0, y1, y2, y3, y4⟩ := by
        rw [List.getD_eq_getElem?_getD, ht, hgu]; rfl
      have HG := Lib.hid hget; clear hget
      clear hR hu ht hdr hgu hfu hsz
      obtain ⟨u0, u1, u2, u3, u4⟩ := u
      obtain ⟨q, hq⟩ : ∃ q, oneJ (fun z => holdsJ k z ⟨y0, y1, y2, y3, y4⟩) t ⟨u0, u1, u2, u3, u4⟩ ⟨y0, y1, y2, y3, y4⟩ = q := ⟨_, rfl⟩
      rw [hq] at hcw
      have HQ := Lib.hid hq; clear hq
      go_upto_region 4 with fail
      refine start_ (n := 9) (S := fun w' => w'.cell? ⟨w.heap.size, 4, none⟩ = some (.slice (some ⟨b, o, none⟩) x4.length c4) ∧ w'.cell? ⟨b, o + j * 5, none⟩ = some (.int .i64 u0) ∧ w'.cell? ⟨b, o + j * 5 + 1, none⟩ = some (.int .i64 u1) ∧ w'.cell? ⟨b, o + j * 5 + 2, none⟩ = some (.string u2) ∧ w'.cell? ⟨b, o + j * 5 + 3, none⟩ = some (.slice B3 u3.length d3) ∧ w'.cell? ⟨b, o + j * 5 + 4, none⟩ = some (.slice B4 u4.length d4) ∧ w'.cell? ⟨w.heap.size + 1, 0, none⟩ = some (.int .i64 y0) ∧ w'.cell? ⟨w.heap.size + 1, 1, none⟩ = some (.int .i64 y1) ∧ w'.cell? ⟨w.heap.size + 1, 2, none⟩ = some (.string y2) ∧ w'.cell? ⟨w.heap.size + 1, 3, none⟩ = some (.slice Y3 y3.length m3) ∧ w'.cell? ⟨w.heap.size + 1, 4, none⟩ = some (.slice Y4 y4.length m4)) (ds := []) #[false, false, false, false, false, false, false, false, false] (by kernel_rfl) rfl rfl ⟨f4, e0, e1, e2, e3, e4, i0, i1, i2, i3, i4⟩ (fun hHeld => ?_)
      refine pure_ (i := 0) (N := some 15) (v := ?_) (a' := ?_) #[true, false, false, false, false, false, false, false, false] rfl rfl (by kernel_rfl) (fun _ _ _ h => h) (Or.inl ⟨by rfl, ?_⟩) ?_ ?_
      rotate_left
      · intro w'
        go_simp
        with_reducible rfl
      rotate_left
      · simp only [Act.put, List.setIfInBounds_toArray, List.set_cons_zero, List.set_cons_succ]
        rfl
      refine pure_ (i := 1) (N := some 16) (v := ?_) (a' := ?_) #[true, true, false, false, false, false, false, false, false] rfl rfl (by kernel_rfl) (fun _ _ _ h => h) (Or.inl ⟨by rfl, ?_⟩) ?_ ?_
      rotate_left
      · intro w'
        go_simp
        with_reducible rfl
      rotate_left
      · simp only [Act.put, List.setIfInBounds_toArray, List.set_cons_zero, List.set_cons_succ]
        rfl
      refine pure_ (i := 3) (N := some 18) (v := ?_) (a' := ?_) #[true, true, false, true, false, false, false, false, false] rfl rfl (by kernel_rfl) (fun _ _ _ h => h) (Or.inl ⟨by rfl, ?_⟩) ?_ ?_
      rotate_left
      · intro w'
        go_simp
        with_reducible rfl
      rotate_left
      · simp only [Act.put, List.setIfInBounds_toArray, List.set_cons_zero, List.set_cons_succ]
        rfl
      refine take_ (i := 2) (N := some 17) (v := ?_) (a' := ?_) #[true, true, true, true, false, false, false, false, false] rfl rfl (by kernel_rfl) (fun _ _ _ h => h) (Or.inl ⟨by rfl, ?_⟩) hHeld ?_ ?_
      rotate_left
      · rintro w' ⟨s0, s1, s2, s3, s4, s5, s6, s7, s8, s9, s10⟩
        go_simp
        with_reducible rfl
      rotate_left
      · simp only [Act.put, List.setIfInBounds_toArray, List.set_cons_zero, List.set_cons_succ]
        rfl
      refine pure_ (i := 4) (N := some 19) (v := ?_) (a' := ?_) #[true, true, true, true, true, false, false, false, false] rfl rfl (by kernel_rfl) (fun _ _ _ h => h) (Or.inl ⟨by rfl, ?_⟩) ?_ ?_
      rotate_left
      · intro w'
        go_simp
        with_reducible rfl
      rotate_left
      · simp only [Act.put, List.setIfInBounds_toArray, List.set_cons_zero, List.set_cons_succ]
        rfl
      refine take_ (i := 5) (N := some 20) (v := ?_) (a' := ?_) #[true, true, true, true, true, true, false, false, false] rfl rfl (by kernel_rfl) (fun _ _ _ h => h) (Or.inl ⟨by rfl, ?_⟩) hHeld ?_ ?_
      rotate_left
      · rintro w' ⟨s0, s1, s2, s3, s4, s5, s6, s7, s8, s9, s10⟩
        go_simp
        with_reducible rfl
      rotate_left
      · simp only [Act.put, List.setIfInBounds_toArray, List.set_cons_zero, List.set_cons_succ]
        rfl
      refine take_ (i := 6) (N := some 21) (v := ?_) (a' := ?_) #[true, true, true, true, true, true, true, false, false] rfl rfl (by kernel_rfl) (fun _ _ _ h => h) (Or.inl ⟨by rfl, ?_⟩) hHeld ?_ ?_
      rotate_left
      · rintro w' ⟨s0, s1, s2, s3, s4, s5, s6, s7, s8, s9, s10⟩
        go_simp
        with_reducible rfl
      rotate_left
      · simp only [Act.put, List.setIfInBounds_toArray, List.set_cons_zero, List.set_cons_succ]
        rfl
      refine one_ (i := 7) (N := some 22) #[true, true, true, true, true, true, true, true, false] rfl rfl (by kernel_rfl) (by decide) (fun K hK => ?_)
      refine goes_ Tryd.func52 (by kernel_rfl) rfl #[.string t, .agg #[.int .i64 u0, .int .i64 u1, .string u2, .slice B3 u3.length d3, .slice B4 u4.length d4], .agg #[.int .i64 y0, .int .i64 y1, .string y2, .slice Y3 y3.length m3, .slice Y4 y4.length m4]] (by rfl) rfl rfl (by simp only [List.map_toArray, List.map_cons, List.map_nil]; rfl) ?_
      with_reducible refine (hcw).mono ?_
      rintro e w2 ⟨rfl, hbc⟩
      refine ⟨_, rfl, ?_⟩
      have hbw : Below wr.heap.size wr w2 := (Below.refl _ wr).drew.trans hbc
      have HBC := Lib.hid hbw
      clear hbc hbw
      refine hK.out _ _ ⟨((HBC.out.cell (World.block_lt_of_cell? wr _ f4)).trans f4), ((HBC.out.cell (World.block_lt_of_cell? wr _ e0)).trans e0), ((HBC.out.cell (World.block_lt_of_cell? wr _ e1)).trans e1), ((HBC.out.cell (World.block_lt_of_cell? wr _ e2)).trans e2), ((HBC.out.cell (World.block_lt_of_cell? wr _ e3)).trans e3), ((HBC.out.cell (World.block_lt_of_cell? wr _ e4)).trans e4), ((HBC.out.cell (World.block_lt_of_cell? wr _ i0)).trans i0), ((HBC.out.cell (World.block_lt_of_cell? wr _ i1)).trans i1), ((HBC.out.cell (World.block_lt_of_cell? wr _ i2)).trans i2), ((HBC.out.cell (World.block_lt_of_cell? wr _ i3)).trans i3), ((HBC.out.cell (World.block_lt_of_cell? wr _ i4)).trans i4)⟩ (fun hHeld => ?_)
      clear hK K
      refine norm_ (a' := ?_) ?_ ?_
      rotate_left
      · show Act.put _ (some 22) _ = _
        simp only [Act.put, List.setIfInBounds_toArray, List.set_cons_zero, List.set_cons_succ]
        rfl
      refine pure_ (i := 8) (N := some 23) (v := ?_) (a' := ?_) #[true, true, true, true, true, true, true, true, true] rfl rfl (by kernel_rfl) (fun _ _ _ h => h) (Or.inl ⟨by rfl, ?_⟩) ?_ ?_
      rotate_left
      · intro w'
        go_simp
        with_reducible rfl
      rotate_left
      · simp only [Act.put, List.setIfInBounds_toArray, List.set_cons_zero, List.set_cons_succ]
        rfl
      refine done_ (by kernel_rfl) ?_

      have hB3 := HR.out.trans (HBC.out.mono HR.out.size)
      have HB3 := Lib.hid hB3; clear hB3
      clear hcw e0 e1 e2 e3 e4 e9 f4 i0 i1 i2 i3 i4
      cases q with
      | false =>
        have hno : ANS = false := by
          rw [← HA.out]
          exact List.all_eq_false.2 ⟨j, by simpa using hlt, by rw [HG.out, HQ.out]; simp⟩
        subst hno
        go_wp2_with fail
        go_ret
        exact ⟨rfl, HB3.out⟩
      | true =>
        go_wp2_with fail
        go_roundw
        case rel =>
          refine ⟨j + 1, by omega, by go_num, fun i hi => ?_, HB3.out, blk_below HKV.out HBC.out, blk_below HKX.out HBC.out⟩
          by_cases hi' : i < j
          · exact HO.out i hi'
          · obtain rfl : i = j := by omega
            rw [HG.out, HQ.out]
        case measure => simp [intOf]; omega
    · have hnl : ¬ (j : Int) < (x3.length : Int) := by omega
      have hall : ANS = true := by
        rw [← HA.out]
        refine List.all_eq_true.2 (fun i hi => HO.out i ?_)
        have h1 : i < x3.length := by simpa using hi
        omega
      subst hall
      go_wp2_with fail
      go_ret
      exact ⟨rfl, HR.out⟩
theorem holds_any : ∀ k, k ≤ 6 → HoldsAt k
  | 0, _ => fun x y A3 c3 A4 c4 B3 d3 B4 d4 w hx _ _ _ _ => by unfold formedJ at hx; cases hx
  | k + 1, hk => holds_step k (by omega) (holds_any k (by omega))
end Go.Proofs.YtehdnjegipcpfaaDoor
namespace Go.Proofs.YtehdnjegipcpfaaDoor
open Go.RowKit Go.Proofs.YtehdnjegipcpfaaDoorW.PrintWords Go.Proofs.YtehdnjegipcpfaaDoorW.PrintLast Go.Proofs.YtehdnjegipcpfaaDoorW.PrintMore
open PFilterHolds Go.Shelf
set_option maxRecDepth 100000 in
set_option maxHeartbeats 4000000 in
theorem Holds_any (x y : S25) (A3 : Option Addr) (c3 : Nat) (A4 : Option Addr) (c4 : Nat) (B3 : Option Addr) (d3 : Nat) (B4 : Option Addr) (d4 : Nat) (w : World) (h : Rd w A3 c3 A4 c4 x) (h' : Rd w B3 d3 B4 d4 y) (hT : Tabs w) :
    Calls Tryd.prog 13 #[av x A3 c3 A4 c4, av y B3 d3 B4 d4] w fun e w' => e = .returned (.bool (HoldsJ x y)) ∧ Below w.heap.size w w' := by
  have hb0 := two_boxes w (.cells (cs25 x A3 c3 A4 c4) 25) (.cells (cs25 y B3 d3 B4 d4) 25)
  have hk0 := two_boxes_0 w (.cells (cs25 x A3 c3 A4 c4) 25) (.cells (cs25 y B3 d3 B4 d4) 25)
  have hk1 := two_boxes_1 w (.cells (cs25 x A3 c3 A4 c4) 25) (.cells (cs25 y B3 d3 B4 d4) 25)
  have hC := check_any x A3 c3 A4 c4 _ (h.below hb0) (hT.below hb0)
  have hF := fun W (hb : Below w.heap.size w W) => Formed_any y B3 d3 B4 d4 W (h'.below hb) (hT.below hb)
  have hH := fun W (hb : Below w.heap.size w W) (hx : fmJ x = true) (hy : fmJ y = true) => holds_any 6 (by omega) x y A3 c3 A4 c4 B3 d3 B4 d4 W hx hy (h.below hb) (h'.below hb) (hT.below hb)
  have hz : (checkJ x == 0) = true → fmJ x = true := by
    intro e
    have e' : checkJ x = 0 := by simpa using e
    unfold checkJ at e'
    cases hf : fmJ x with
    | true => rfl
    | false => rw [hf, if_neg (by simp)] at e'; cases e'
  unfold HoldsJ
  generalize fmJ x = fx at hz hH
  generalize checkJ x = c at hC hz
  generalize fmJ y = fy at hF hH
  generalize holdsJ 6 x y = r at hH
  have HB0 := Lib.hid hb0; clear hb0
  have HK0 := Lib.hid hk0; clear hk0
  have HK1 := Lib.hid hk1; clear hk1
  have HF := Lib.hid hF; clear hF
  have HH := Lib.hid hH; clear hH
  have HZ := Lib.hid hz; clear hz
  clear h h' hT
  obtain ⟨x0, x1, x2, x3, x4⟩ := x
  obtain ⟨y0, y1, y2, y3, y4⟩ := y
  simp only at HH HF hC ⊢
  cases b1 : c == 0 with
  | false =>
    clear HF HH HZ
    go_enter Tryd.func13, Tryd.ntmps13
    go_wp2_with fail
    refine hC.mono ?_; rintro e w1 ⟨rfl, hb⟩
    have HB := Lib.hid hb; clear hb hC
    go_wp2_with fail
    go_ret
    exact ⟨by simp, HB0.out.trans (HB.out.mono HB0.out.size)⟩
  | true =>
  have hfx := HZ.out b1
  subst hfx
  clear HZ
  cases b2 : y0 == 6 with
  | false =>
    clear HF HH
    go_enter Tryd.func13, Tryd.ntmps13
    go_wp2_with fail
    refine hC.mono ?_; rintro e w1 ⟨rfl, hb⟩
    have k1 := blk_below HK1.out hb
    have g0 : w1.cell? ⟨w.heap.size + 1, 0, none⟩ = some (.int .i64 y0) := (blk_cell k1 0).trans rfl
    have HB := Lib.hid hb; clear hb hC k1
    go_wp2_with fail
    go_ret
    exact ⟨by simp, HB0.out.trans (HB.out.mono HB0.out.size)⟩
  | true =>
    go_enter Tryd.func13, Tryd.ntmps13
    go_wp2_with fail
    refine hC.mono ?_; rintro e w1 ⟨rfl, hb⟩
    have k1 := blk_below HK1.out hb
    have k0 := blk_below HK0.out hb
    have hB1 := HB0.out.trans (hb.mono HB0.out.size)
    have hF := HF.out w1 hB1
    have g0 : w1.cell? ⟨w.heap.size + 1, 0, none⟩ = some (.int .i64 y0) := (blk_cell k1 0).trans rfl
    have g1 : w1.cell? ⟨w.heap.size + 1, 1, none⟩ = some (.int .i64 y1) := (blk_cell k1 1).trans rfl
    have g2 : w1.cell? ⟨w.heap.size + 1, 2, none⟩ = some (.string y2) := (blk_cell k1 2).trans rfl
    have g3 : w1.cell? ⟨w.heap.size + 1, 3, none⟩ = some (.slice B3 y3.length d3) := (blk_cell k1 3).trans rfl
    have g4 : w1.cell? ⟨w.heap.size + 1, 4, none⟩ = some (.slice B4 y4.length d4) := (blk_cell k1 4).trans rfl
    have HB1 := Lib.hid hB1; clear hB1 hb hC HK0 HK1 HF HB0
    have HK0 := Lib.hid k0; clear k0
    have HK1 := Lib.hid k1; clear k1
    cases fy with
    | false =>
      clear HH
      go_wp2_with fail
      refine hF.mono ?_; rintro e w2 ⟨rfl, hb⟩
      have HB := Lib.hid hb; clear hb hF g0 g1 g2 g3 g4
      go_wp2_with fail
      go_ret
      exact ⟨by simp, HB1.out.trans (HB.out.mono HB1.out.size)⟩
    | true =>
      go_wp2_with fail
      refine hF.mono ?_; rintro e w2 ⟨rfl, hb⟩
      have k1 := blk_below HK1.out hb
      have k0 := blk_below HK0.out hb
      have hB2 := HB1.out.trans (hb.mono HB1.out.size)
      have hH := HH.out w2 hB2 (by trivial) (by trivial)
      clear hF g0 g1 g2 g3 g4 HH HB1 HK0 HK1 hb
      have HB2 := Lib.hid hB2; clear hB2
      have f0 : w2.cell? ⟨w.heap.size, 0, none⟩ = some (.int .i64 x0) := (blk_cell k0 0).trans rfl
      have f1 : w2.cell? ⟨w.heap.size, 1, none⟩ = some (.int .i64 x1) := (blk_cell k0 1).trans rfl
      have f2 : w2.cell? ⟨w.heap.size, 2, none⟩ = some (.string x2) := (blk_cell k0 2).trans rfl
      have f3 : w2.cell? ⟨w.heap.size, 3, none⟩ = some (.slice A3 x3.length c3) := (blk_cell k0 3).trans rfl
      have f4 : w2.cell? ⟨w.heap.size, 4, none⟩ = some (.slice A4 x4.length c4) := (blk_cell k0 4).trans rfl
      have g0 : w2.cell? ⟨w.heap.size + 1, 0, none⟩ = some (.int .i64 y0) := (blk_cell k1 0).trans rfl
      have g1 : w2.cell? ⟨w.heap.size + 1, 1, none⟩ = some (.int .i64 y1) := (blk_cell k1 1).trans rfl
      have g2 : w2.cell? ⟨w.heap.size + 1, 2, none⟩ = some (.string y2) := (blk_cell k1 2).trans rfl
      have g3 : w2.cell? ⟨w.heap.size + 1, 3, none⟩ = some (.slice B3 y3.length d3) := (blk_cell k1 3).trans rfl
      have g4 : w2.cell? ⟨w.heap.size + 1, 4, none⟩ = some (.slice B4 y4.length d4) := (blk_cell k1 4).trans rfl
      clear k0 k1
      go_wp2_with fail
      refine hH.mono ?_; rintro e w3 ⟨rfl, hb⟩
      have HB := Lib.hid hb; clear hb hH f0 f1 f2 f3 f4 g0 g1 g2 g3 g4
      go_wp2_with fail
      go_ret
      exact ⟨by simp, HB2.out.trans (HB.out.mono HB2.out.size)⟩
end Go.Proofs.YtehdnjegipcpfaaDoor
