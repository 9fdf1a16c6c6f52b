/-
  The law FilterHolds is walked: it answers true; under utf8's tables.
-/
import Derived.Test.YtehdnjegipcpfaaDoorRefh
import Derived.Test.YtehdnjegipcpfaaDoorMade
namespace Go.Proofs.YtehdnjegipcpfaaDoor
open Go.RowKit Go.Proofs.YtehdnjegipcpfaaDoorW.PrintWords Go.Proofs.YtehdnjegipcpfaaDoorW.PrintLast Go.Proofs.YtehdnjegipcpfaaDoorW.PrintMore
open PFilterHolds Go.Shelf

/-- What is known of the memory in the law: both arguments' boxes. -/
structure Hk (w : World) (f x : S25) (F3 : Option Addr) (f3 : Nat) (F4 : Option Addr) (f4 : Nat) (X3 : Option Addr) (x3 : Nat) (X4 : Option Addr) (x4 : Nat) (W : World) : Prop where
  b : Below w.heap.size w W
  k0 : W.heap[w.heap.size]? = some (.cells (cs25 f F3 f3 F4 f4) 25 (0, 0))
  k1 : W.heap[w.heap.size + 1]? = some (.cells (cs25 x X3 x3 X4 x4) 25 (0, 0))

theorem Hk.below {w : World} {f x : S25} {F3 : Option Addr} {f3 : Nat} {F4 : Option Addr} {f4 : Nat} {X3 : Option Addr} {x3 : Nat} {X4 : Option Addr} {x4 : Nat} {W W' : World} (h : Hk w f x F3 f3 F4 f4 X3 x3 X4 x4 W) (hb : Below W.heap.size W W') : Hk w f x F3 f3 F4 f4 X3 x3 X4 x4 W' :=
  ⟨h.b.trans (hb.mono h.b.size), blk_below h.k0 hb, blk_below h.k1 hb⟩

set_option maxRecDepth 100000 in
set_option maxHeartbeats 4000000 in
theorem holdsL_any (f x : S25) (F3 : Option Addr) (f3 : Nat) (F4 : Option Addr) (f4 : Nat) (X3 : Option Addr) (x3 : Nat) (X4 : Option Addr) (x4 : Nat) (w : World) (hf : Rd w F3 f3 F4 f4 f) (hx : Rd w X3 x3 X4 x4 x) (hT : Tabs w) :
    Calls Tryd.prog 3 #[av f F3 f3 F4 f4, av x X3 x3 X4 x4] w fun e w' => e = .returned (.bool true) ∧ Below w.heap.size w w' := by
  have hb0 := two_boxes w (.cells (cs25 f F3 f3 F4 f4) 25) (.cells (cs25 x X3 x3 X4 x4) 25)
  have hk0 := two_boxes_0 w (.cells (cs25 f F3 f3 F4 f4) 25) (.cells (cs25 x X3 x3 X4 x4) 25)
  have hk1 := two_boxes_1 w (.cells (cs25 f F3 f3 F4 f4) 25) (.cells (cs25 x X3 x3 X4 x4) 25)
  have hAw := fun W (hb : Below w.heap.size w W) => awake_any W (hT.below hb)
  obtain ⟨rf, hFew⟩ := fewL_any [f, x] (by simp)
  have hA0 := hAw _ hb0
  have hH1 := fun W (hb : Below w.heap.size w W) => Holds_any f x F3 f3 F4 f4 X3 x3 X4 x4 W (hf.below hb) (hx.below hb) (hT.below hb)
  have hH2 := fun W (hb : Below w.heap.size w W) => Holds_ref f x F3 f3 F4 f4 X3 x3 X4 x4 W (hf.below hb) (hx.below hb)
  generalize HoldsJ f x = r at hH1 hH2
  have HB0 := Lib.hid hb0; clear hb0
  have HK0 := Lib.hid hk0; clear hk0
  have HK1 := Lib.hid hk1; clear hk1
  have HAW := Lib.hid hAw; clear hAw
  have HFEW := Lib.hid hFew; clear hFew
  have HC1 := Lib.hid hH1; clear hH1
  have HC2 := Lib.hid hH2; clear hH2
  have HF := Lib.hid hf; clear hf
  have HX := Lib.hid hx; clear hx
  clear hT
  obtain ⟨a0, a1, a2, a3, a4⟩ := f
  obtain ⟨x0, x1, x2, xs3, xs4⟩ := x
  go_enter Tryd.func3, Tryd.ntmps3
  go_wp2_with fail
  refine hA0.mono ?_; rintro e w1 ⟨rfl, hb⟩
  have hB1 := HB0.out.trans (hb.mono HB0.out.size)
  have k0 := blk_below HK0.out hb
  have k1 := blk_below HK1.out hb
  have HB1 := Lib.hid hB1; clear hB1 hA0
  clear hb HK0 HK1 HB0
  have p0 : w1.cell? ⟨w.heap.size, 0, none⟩ = some (.int .i64 a0) := (blk_cell k0 0).trans rfl
  have p1 : w1.cell? ⟨w.heap.size, 1, none⟩ = some (.int .i64 a1) := (blk_cell k0 1).trans rfl
  have p2 : w1.cell? ⟨w.heap.size, 2, none⟩ = some (.string a2) := (blk_cell k0 2).trans rfl
  have p3 : w1.cell? ⟨w.heap.size, 3, none⟩ = some (.slice F3 a3.length f3) := (blk_cell k0 3).trans rfl
  have p4 : w1.cell? ⟨w.heap.size, 4, none⟩ = some (.slice F4 a4.length f4) := (blk_cell k0 4).trans rfl
  have q0 : w1.cell? ⟨w.heap.size + 1, 0, none⟩ = some (.int .i64 x0) := (blk_cell k1 0).trans rfl
  have q1 : w1.cell? ⟨w.heap.size + 1, 1, none⟩ = some (.int .i64 x1) := (blk_cell k1 1).trans rfl
  have q2 : w1.cell? ⟨w.heap.size + 1, 2, none⟩ = some (.string x2) := (blk_cell k1 2).trans rfl
  have q3 : w1.cell? ⟨w.heap.size + 1, 3, none⟩ = some (.slice X3 xs3.length x3) := (blk_cell k1 3).trans rfl
  have q4 : w1.cell? ⟨w.heap.size + 1, 4, none⟩ = some (.slice X4 xs4.length x4) := (blk_cell k1 4).trans rfl
  have hNew := new_blk w1 (.cells #[.int .i64 a0, .int .i64 a1, .string a2, .slice F3 a3.length f3, .slice F4 a4.length f4, .int .i64 x0, .int .i64 x1, .string x2, .slice X3 xs3.length x3, .slice X4 xs4.length x4] 25)
  have hBn : Below w.heap.size w (w1.alloc (.cells #[.int .i64 a0, .int .i64 a1, .string a2, .slice F3 a3.length f3, .slice F4 a4.length f4, .int .i64 x0, .int .i64 x1, .string x2, .slice X3 xs3.length x3, .slice X4 xs4.length x4] 25)) := below_alloc HB1.out _
  have hF1 := HFEW.out _ 2 _ (c_two hNew (HF.out.below hBn) (HX.out.below hBn)) (by simp)
  have hsl : ([⟨a0, a1, a2, a3, a4⟩, ⟨x0, x1, x2, xs3, xs4⟩] : List S25).length = 2 := rfl
  rw [hsl] at hF1
  clear hsl hNew
  have K0 := Lib.hid (blk_alloc k0 (.cells #[.int .i64 a0, .int .i64 a1, .string a2, .slice F3 a3.length f3, .slice F4 a4.length f4, .int .i64 x0, .int .i64 x1, .string x2, .slice X3 xs3.length x3, .slice X4 xs4.length x4] 25))
  have K1 := Lib.hid (blk_alloc k1 (.cells #[.int .i64 a0, .int .i64 a1, .string a2, .slice F3 a3.length f3, .slice F4 a4.length f4, .int .i64 x0, .int .i64 x1, .string x2, .slice X3 xs3.length x3, .slice X4 xs4.length x4] 25))
  have HBN := Lib.hid hBn; clear hBn k0 k1
  go_wp2_with fail
  refine hF1.mono ?_; rintro e w2 ⟨rfl, hb⟩
  have hB2 := HBN.out.trans (hb.mono HBN.out.size)
  have k0 := blk_below K0.out hb
  have k1 := blk_below K1.out hb
  have hL : Hk w ⟨a0, a1, a2, a3, a4⟩ ⟨x0, x1, x2, xs3, xs4⟩ F3 f3 F4 f4 X3 x3 X4 x4 w2 := ⟨hB2, k0, k1⟩
  have HL := Lib.hid hL; clear hL hF1 hb hB2 k0 k1
  clear p0 p1 p2 p3 p4 q0 q1 q2 q3 q4 K0 K1 HBN HB1
  cases rf with
  | false =>
    have hA := HAW.out w2 HL.out.b
    go_wp2_with fail
    refine hA.mono ?_; rintro e w3 ⟨rfl, hb⟩
    have HB3 := Lib.hid hb; clear hb hA
    go_wp2_with fail
    go_ret
    exact ⟨rfl, HL.out.b.trans (HB3.out.mono HL.out.b.size)⟩
  | true =>
    have hC1 := HC1.out w2.drew HL.out.b.drew
    have p0 : w2.cell? ⟨w.heap.size, 0, none⟩ = some (.int .i64 a0) := (blk_cell HL.out.k0 0).trans rfl
    have p1 : w2.cell? ⟨w.heap.size, 1, none⟩ = some (.int .i64 a1) := (blk_cell HL.out.k0 1).trans rfl
    have p2 : w2.cell? ⟨w.heap.size, 2, none⟩ = some (.string a2) := (blk_cell HL.out.k0 2).trans rfl
    have p3 : w2.cell? ⟨w.heap.size, 3, none⟩ = some (.slice F3 a3.length f3) := (blk_cell HL.out.k0 3).trans rfl
    have p4 : w2.cell? ⟨w.heap.size, 4, none⟩ = some (.slice F4 a4.length f4) := (blk_cell HL.out.k0 4).trans rfl
    have q0 : w2.cell? ⟨w.heap.size + 1, 0, none⟩ = some (.int .i64 x0) := (blk_cell HL.out.k1 0).trans rfl
    have q1 : w2.cell? ⟨w.heap.size + 1, 1, none⟩ = some (.int .i64 x1) := (blk_cell HL.out.k1 1).trans rfl
    have q2 : w2.cell? ⟨w.heap.size + 1, 2, none⟩ = some (.string x2) := (blk_cell HL.out.k1 2).trans rfl
    have q3 : w2.cell? ⟨w.heap.size + 1, 3, none⟩ = some (.slice X3 xs3.length x3) := (blk_cell HL.out.k1 3).trans rfl
    have q4 : w2.cell? ⟨w.heap.size + 1, 4, none⟩ = some (.slice X4 xs4.length x4) := (blk_cell HL.out.k1 4).trans rfl
    go_upto_region 3 with fail
    refine start_ (n := 8) (S := fun w' => w'.cell? ⟨w.heap.size, 0, none⟩ = some (.int .i64 a0) ∧ w'.cell? ⟨w.heap.size, 1, none⟩ = some (.int .i64 a1) ∧ w'.cell? ⟨w.heap.size, 2, none⟩ = some (.string a2) ∧ w'.cell? ⟨w.heap.size, 3, none⟩ = some (.slice F3 a3.length f3) ∧ w'.cell? ⟨w.heap.size, 4, none⟩ = some (.slice F4 a4.length f4) ∧ w'.cell? ⟨w.heap.size + 1, 0, none⟩ = some (.int .i64 x0) ∧ w'.cell? ⟨w.heap.size + 1, 1, none⟩ = some (.int .i64 x1) ∧ w'.cell? ⟨w.heap.size + 1, 2, none⟩ = some (.string x2) ∧ w'.cell? ⟨w.heap.size + 1, 3, none⟩ = some (.slice X3 xs3.length x3) ∧ w'.cell? ⟨w.heap.size + 1, 4, none⟩ = some (.slice X4 xs4.length x4)) (ds := []) #[false, false, false, false, false, false, false, false] (by kernel_rfl) rfl rfl ⟨p0, p1, p2, p3, p4, q0, q1, q2, q3, q4⟩ (fun hHeld => ?_)
    refine take_ (i := 0) (N := some 15) (v := ?_) (a' := ?_) #[true, false, false, false, false, false, false, false] rfl rfl (by kernel_rfl) (fun _ _ _ h => h) (Or.inl ⟨by rfl, ?_⟩) hHeld ?_ ?_
    rotate_left
    · rintro w' ⟨s0, s1, s2, s3, s4, s5, s6, s7, s8, s9⟩
      go_simp
      with_reducible rfl
    rotate_left
    · simp only [Act.put, List.setIfInBounds_toArray, List.set_cons_zero, List.set_cons_succ]
      rfl
    refine take_ (i := 1) (N := some 16) (v := ?_) (a' := ?_) #[true, true, false, false, false, false, false, false] rfl rfl (by kernel_rfl) (fun _ _ _ h => h) (Or.inl ⟨by rfl, ?_⟩) hHeld ?_ ?_
    rotate_left
    · rintro w' ⟨s0, s1, s2, s3, s4, s5, s6, s7, s8, s9⟩
      go_simp
      with_reducible rfl
    rotate_left
    · simp only [Act.put, List.setIfInBounds_toArray, List.set_cons_zero, List.set_cons_succ]
      rfl
    refine take_ (i := 3) (N := some 18) (v := ?_) (a' := ?_) #[true, true, false, true, false, false, false, false] rfl rfl (by kernel_rfl) (fun _ _ _ h => h) (Or.inl ⟨by rfl, ?_⟩) hHeld ?_ ?_
    rotate_left
    · rintro w' ⟨s0, s1, s2, s3, s4, s5, s6, s7, s8, s9⟩
      go_simp
      with_reducible rfl
    rotate_left
    · simp only [Act.put, List.setIfInBounds_toArray, List.set_cons_zero, List.set_cons_succ]
      rfl
    refine take_ (i := 4) (N := some 19) (v := ?_) (a' := ?_) #[true, true, false, true, true, false, false, false] rfl rfl (by kernel_rfl) (fun _ _ _ h => h) (Or.inl ⟨by rfl, ?_⟩) hHeld ?_ ?_
    rotate_left
    · rintro w' ⟨s0, s1, s2, s3, s4, s5, s6, s7, s8, s9⟩
      go_simp
      with_reducible rfl
    rotate_left
    · simp only [Act.put, List.setIfInBounds_toArray, List.set_cons_zero, List.set_cons_succ]
      rfl
    refine one_ (i := 2) (N := some 17) #[true, true, true, true, true, false, false, false] rfl rfl (by kernel_rfl) (by decide) (fun K hK => ?_)
    refine goes_ Tryd.func13 (by kernel_rfl) rfl #[.agg #[.int .i64 a0, .int .i64 a1, .string a2, .slice F3 a3.length f3, .slice F4 a4.length f4], .agg #[.int .i64 x0, .int .i64 x1, .string x2, .slice X3 xs3.length x3, .slice X4 xs4.length x4]] (by rfl) rfl rfl (by simp only [List.map_toArray, List.map_cons, List.map_nil]; rfl) ?_
    with_reducible refine (hC1).mono ?_
    rintro e w4 ⟨rfl, hb⟩
    refine ⟨_, rfl, ?_⟩
    have hL4 := HL.out.below ((Below.refl _ w2).drew.trans hb)
    have HL4 := Lib.hid hL4
    clear hb hL4
    have hC2 := HC2.out w4 HL4.out.b
    refine hK.out _ _ ⟨((blk_cell HL4.out.k0 0).trans rfl), ((blk_cell HL4.out.k0 1).trans rfl), ((blk_cell HL4.out.k0 2).trans rfl), ((blk_cell HL4.out.k0 3).trans rfl), ((blk_cell HL4.out.k0 4).trans rfl), ((blk_cell HL4.out.k1 0).trans rfl), ((blk_cell HL4.out.k1 1).trans rfl), ((blk_cell HL4.out.k1 2).trans rfl), ((blk_cell HL4.out.k1 3).trans rfl), ((blk_cell HL4.out.k1 4).trans rfl)⟩ (fun hHeld => ?_)
    clear hK K
    refine norm_ (a' := ?_) ?_ ?_
    rotate_left
    · show Act.put _ (some 17) _ = _
      simp only [Act.put, List.setIfInBounds_toArray, List.set_cons_zero, List.set_cons_succ]
      rfl
    refine one_ (i := 5) (N := some 20) #[true, true, true, true, true, true, false, false] rfl rfl (by kernel_rfl) (by decide) (fun K hK => ?_)
    refine goes_ Tryd.func14 (by kernel_rfl) rfl #[.agg #[.int .i64 a0, .int .i64 a1, .string a2, .slice F3 a3.length f3, .slice F4 a4.length f4], .agg #[.int .i64 x0, .int .i64 x1, .string x2, .slice X3 xs3.length x3, .slice X4 xs4.length x4]] (by rfl) rfl rfl (by simp only [List.map_toArray, List.map_cons, List.map_nil]; rfl) ?_
    with_reducible refine (hC2).mono ?_
    rintro e w5 ⟨rfl, hb⟩
    refine ⟨_, rfl, ?_⟩
    have hL5 := HL4.out.below hb
    have HL5 := Lib.hid hL5
    clear hb hL5
    refine hK.out _ _ ⟨((blk_cell HL5.out.k0 0).trans rfl), ((blk_cell HL5.out.k0 1).trans rfl), ((blk_cell HL5.out.k0 2).trans rfl), ((blk_cell HL5.out.k0 3).trans rfl), ((blk_cell HL5.out.k0 4).trans rfl), ((blk_cell HL5.out.k1 0).trans rfl), ((blk_cell HL5.out.k1 1).trans rfl), ((blk_cell HL5.out.k1 2).trans rfl), ((blk_cell HL5.out.k1 3).trans rfl), ((blk_cell HL5.out.k1 4).trans rfl)⟩ (fun hHeld => ?_)
    clear hK K
    refine norm_ (a' := ?_) ?_ ?_
    rotate_left
    · show Act.put _ (some 20) _ = _
      simp only [Act.put, List.setIfInBounds_toArray, List.set_cons_zero, List.set_cons_succ]
      rfl
    refine pure_ (i := 6) (N := some 21) (v := ?_) (a' := ?_) #[true, true, true, true, true, true, true, false] rfl rfl (by kernel_rfl) (fun _ _ _ h => h) (Or.inl ⟨by rfl, ?_⟩) ?_ ?_
    rotate_left
    · intro w'
      go_simp
      with_reducible rfl
    rotate_left
    · simp only [Act.put, List.setIfInBounds_toArray, List.set_cons_zero, List.set_cons_succ]
      rfl
    refine pure_ (i := 7) (N := some 4) (v := ?_) (a' := ?_) #[true, true, true, true, true, true, true, true] rfl rfl (by kernel_rfl) (fun _ _ _ h => h) (Or.inl ⟨by rfl, ?_⟩) ?_ ?_
    rotate_left
    · intro w'
      go_simp
      with_reducible rfl
    rotate_left
    · simp only [Act.put, List.setIfInBounds_toArray, List.set_cons_zero, List.set_cons_succ]
      rfl
    refine done_ (by kernel_rfl) ?_

    go_wp2_with fail
    go_ret
    exact ⟨by simp, HL5.out.b⟩

end Go.Proofs.YtehdnjegipcpfaaDoor
