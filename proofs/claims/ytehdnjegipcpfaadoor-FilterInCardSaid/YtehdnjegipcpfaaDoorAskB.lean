/-
  The contract of the laws' ask: whether a test of a path holds of a document, and whether it is a filter; under utf8's tables.
-/
import Derived.Test.YtehdnjegipcpfaaDoorLogic
namespace Go.Proofs.YtehdnjegipcpfaaDoor
open Go.RowKit Go.Proofs.YtehdnjegipcpfaaDoorW.PrintWords Go.Proofs.YtehdnjegipcpfaaDoorW.PrintLast Go.Proofs.YtehdnjegipcpfaaDoorW.PrintMore
open PFilterHolds Go.Shelf

structure Ak (w : World) (p t : ByteArray) (v x : S25) (V3 : Option Addr) (v3 : Nat) (V4 : Option Addr) (v4 : Nat) (X3 : Option Addr) (x3 : Nat) (X4 : Option Addr) (x4 : Nat) (W : World) : Prop where
  b : Below w.heap.size w W
  k0 : W.heap[w.heap.size]? = some (.cells (cs25 x X3 x3 X4 x4) 25 (0, 0))
  k7 : W.heap[w.heap.size + 1 + 1 + 1 + 1 + 1 + 1 + 1]? = some (.cells (cs25 (ob p (ob t v)) (some ⟨w.heap.size + 1 + 1 + 1 + 1 + 1, 0, none⟩) 1 (some ⟨w.heap.size + 1 + 1 + 1 + 1 + 1 + 1, 0, none⟩) 1) 25 (0, 0))
  r : Rd W (some ⟨w.heap.size + 1 + 1 + 1 + 1 + 1, 0, none⟩) 1 (some ⟨w.heap.size + 1 + 1 + 1 + 1 + 1 + 1, 0, none⟩) 1 (ob p (ob t v))

theorem Ak.below {w : World} {p t : ByteArray} {v x : S25} {V3 : Option Addr} {v3 : Nat} {V4 : Option Addr} {v4 : Nat} {X3 : Option Addr} {x3 : Nat} {X4 : Option Addr} {x4 : Nat} {W W' : World} (h : Ak w p t v x V3 v3 V4 v4 X3 x3 X4 x4 W) (hb : Below W.heap.size W W') : Ak w p t v x V3 v3 V4 v4 X3 x3 X4 x4 W' :=
  ⟨h.b.trans (hb.mono h.b.size), blk_below h.k0 hb, blk_below h.k7 hb, h.r.below hb⟩

theorem ak_made (w : World) (p t : ByteArray) (v x : S25) (V3 : Option Addr) (v3 : Nat) (V4 : Option Addr) (v4 : Nat) (X3 : Option Addr) (x3 : Nat) (X4 : Option Addr) (x4 : Nat) (hv : Rd w V3 v3 V4 v4 v) :
    Ak w p t v x V3 v3 V4 v4 X3 x3 X4 x4 (allocs w [.cells (cs25 x X3 x3 X4 x4) 25, .cells (cs25 v V3 v3 V4 v4) 25, .cells #[.string t] 9, .cells (cs25 v V3 v3 V4 v4) 25,
      .cells (cs25 (ob t v) (some ⟨w.heap.size + 1 + 1, 0, none⟩) 1 (some ⟨w.heap.size + 1 + 1 + 1, 0, none⟩) 1) 25, .cells #[.string p] 9,
      .cells (cs25 (ob t v) (some ⟨w.heap.size + 1 + 1, 0, none⟩) 1 (some ⟨w.heap.size + 1 + 1 + 1, 0, none⟩) 1) 25,
      .cells (cs25 (ob p (ob t v)) (some ⟨w.heap.size + 1 + 1 + 1 + 1 + 1, 0, none⟩) 1 (some ⟨w.heap.size + 1 + 1 + 1 + 1 + 1 + 1, 0, none⟩) 1) 25]) := by
  generalize hl : ([_, _, _, _, _, _, _, _] : List Obj) = l
  have hB := allocs_below l w
  have g0 := allocs_get l w 0 _ (by rw [← hl]; rfl)
  have g2 := allocs_get l w 2 _ (by rw [← hl]; rfl)
  have g3 := allocs_get l w 3 _ (by rw [← hl]; rfl)
  have g5 := allocs_get l w 5 _ (by rw [← hl]; rfl)
  have g6 := allocs_get l w 6 _ (by rw [← hl]; rfl)
  have g7 := allocs_get l w 7 _ (by rw [← hl]; rfl)
  exact ⟨hB, g0, g7, rd_ob g5 g6 (rd_ob g2 g3 (hv.below hB))⟩

set_option maxRecDepth 100000 in
set_option maxHeartbeats 4000000 in
theorem ask_any (p t : ByteArray) (x v : S25) (X3 : Option Addr) (x3 : Nat) (X4 : Option Addr) (x4 : Nat) (V3 : Option Addr) (v3 : Nat) (V4 : Option Addr) (v4 : Nat) (w : World) (hx : Rd w X3 x3 X4 x4 x) (hv : Rd w V3 v3 V4 v4 v) (hT : Tabs w) :
    Calls Tryd.prog 17 #[av x X3 x3 X4 x4, .string p, .string t, av v V3 v3 V4 v4] w fun e w' => e = .returned (.tuple #[.bool (HoldsJ (ob p (ob t v)) x), .bool (checkJ (ob p (ob t v)) == 0)]) ∧ Below w.heap.size w w' := by
  have hL := ak_made w p t v x V3 v3 V4 v4 X3 x3 X4 x4 hv
  have HL := Lib.hid hL; clear hL
  have HX := Lib.hid hx; clear hx
  have HT := Lib.hid hT; clear hT
  clear hv
  obtain ⟨x0, x1, x2, xs3, xs4⟩ := x
  obtain ⟨u0, u1, u2, u3, u4⟩ := v
  obtain ⟨A, hA⟩ : ∃ A, HoldsJ (ob p (ob t ⟨u0, u1, u2, u3, u4⟩)) ⟨x0, x1, x2, xs3, xs4⟩ = A := ⟨_, rfl⟩
  obtain ⟨c, hc⟩ : ∃ c, checkJ (ob p (ob t ⟨u0, u1, u2, u3, u4⟩)) = c := ⟨_, rfl⟩
  rw [hA, hc]
  have HA := Lib.hid hA; clear hA
  have HC := Lib.hid hc; clear hc
  go_enter Tryd.func17, Tryd.ntmps17
  go_upto_region 3 with fail
  refine any_world (fun W => Ak w p t ⟨u0, u1, u2, u3, u4⟩ ⟨x0, x1, x2, xs3, xs4⟩ V3 v3 V4 v4 X3 x3 X4 x4 W) HL.out ?_
  intro W hLW
  have HLW := Lib.hid hLW
  have m0 : W.cell? ⟨w.heap.size + 1 + 1 + 1 + 1 + 1 + 1 + 1, 0, none⟩ = some (.int .i64 6) := (blk_cell hLW.k7 0).trans rfl
  have m1 : W.cell? ⟨w.heap.size + 1 + 1 + 1 + 1 + 1 + 1 + 1, 1, none⟩ = some (.int .i64 0) := (blk_cell hLW.k7 1).trans rfl
  have m2 : W.cell? ⟨w.heap.size + 1 + 1 + 1 + 1 + 1 + 1 + 1, 2, none⟩ = some (.string ⟨#[]⟩) := (blk_cell hLW.k7 2).trans rfl
  have m3 : W.cell? ⟨w.heap.size + 1 + 1 + 1 + 1 + 1 + 1 + 1, 3, none⟩ = some (.slice (some ⟨w.heap.size + 1 + 1 + 1 + 1 + 1, 0, none⟩) 1 1) := (blk_cell hLW.k7 3).trans rfl
  have m4 : W.cell? ⟨w.heap.size + 1 + 1 + 1 + 1 + 1 + 1 + 1, 4, none⟩ = some (.slice (some ⟨w.heap.size + 1 + 1 + 1 + 1 + 1 + 1, 0, none⟩) 1 1) := (blk_cell hLW.k7 4).trans rfl
  have r0 : W.cell? ⟨w.heap.size, 0, none⟩ = some (.int .i64 x0) := (blk_cell hLW.k0 0).trans rfl
  have r1 : W.cell? ⟨w.heap.size, 1, none⟩ = some (.int .i64 x1) := (blk_cell hLW.k0 1).trans rfl
  have r2 : W.cell? ⟨w.heap.size, 2, none⟩ = some (.string x2) := (blk_cell hLW.k0 2).trans rfl
  have r3 : W.cell? ⟨w.heap.size, 3, none⟩ = some (.slice X3 xs3.length x3) := (blk_cell hLW.k0 3).trans rfl
  have r4 : W.cell? ⟨w.heap.size, 4, none⟩ = some (.slice X4 xs4.length x4) := (blk_cell hLW.k0 4).trans rfl
  clear hLW HL
  have hC1 := Holds_any (ob p (ob t ⟨u0, u1, u2, u3, u4⟩)) ⟨x0, x1, x2, xs3, xs4⟩ _ _ _ _ X3 x3 X4 x4 W.drew (HLW.out.r.below (Below.refl _ W).drew) (HX.out.below HLW.out.b.drew) (HT.out.below HLW.out.b.drew)
  have hC2 := fun W' (hW : Ak w p t ⟨u0, u1, u2, u3, u4⟩ ⟨x0, x1, x2, xs3, xs4⟩ V3 v3 V4 v4 X3 x3 X4 x4 W') => check_any (ob p (ob t ⟨u0, u1, u2, u3, u4⟩)) _ _ _ _ W' hW.r (HT.out.below hW.b)
  rw [HA.out] at hC1
  rw [HC.out] at hC2
  have HC2 := Lib.hid hC2; clear hC2
  refine start_ (n := 8) (S := fun w' => w'.cell? ⟨w.heap.size + 1 + 1 + 1 + 1 + 1 + 1 + 1, 0, none⟩ = some (.int .i64 6) ∧ w'.cell? ⟨w.heap.size + 1 + 1 + 1 + 1 + 1 + 1 + 1, 1, none⟩ = some (.int .i64 0) ∧ w'.cell? ⟨w.heap.size + 1 + 1 + 1 + 1 + 1 + 1 + 1, 2, none⟩ = some (.string ⟨#[]⟩) ∧ w'.cell? ⟨w.heap.size + 1 + 1 + 1 + 1 + 1 + 1 + 1, 3, none⟩ = some (.slice (some ⟨w.heap.size + 1 + 1 + 1 + 1 + 1, 0, none⟩) 1 1) ∧ w'.cell? ⟨w.heap.size + 1 + 1 + 1 + 1 + 1 + 1 + 1, 4, none⟩ = some (.slice (some ⟨w.heap.size + 1 + 1 + 1 + 1 + 1 + 1, 0, none⟩) 1 1) ∧ w'.cell? ⟨w.heap.size, 0, none⟩ = some (.int .i64 x0) ∧ w'.cell? ⟨w.heap.size, 1, none⟩ = some (.int .i64 x1) ∧ w'.cell? ⟨w.heap.size, 2, none⟩ = some (.string x2) ∧ w'.cell? ⟨w.heap.size, 3, none⟩ = some (.slice X3 xs3.length x3) ∧ w'.cell? ⟨w.heap.size, 4, none⟩ = some (.slice X4 xs4.length x4)) (ds := []) #[false, false, false, false, false, false, false, false] (by kernel_rfl) rfl rfl ⟨m0, m1, m2, m3, m4, r0, r1, r2, r3, r4⟩ (fun hHeld => ?_)
  refine take_ (i := 0) (N := some 22) (v := ?_) (a' := ?_) #[true, false, false, false, false, false, false, false] rfl rfl (by kernel_rfl) (fun _ _ _ h => h) (Or.inl ⟨by rfl, ?_⟩) hHeld ?_ ?_
  rotate_left
  · rintro w' ⟨s0, s1, s2, s3, s4, s5, s6, s7, s8, s9⟩
    go_simp
    with_reducible rfl
  rotate_left
  · simp only [Act.put, List.setIfInBounds_toArray, List.set_cons_zero, List.set_cons_succ]
    rfl
  refine take_ (i := 1) (N := some 23) (v := ?_) (a' := ?_) #[true, true, false, false, false, false, false, false] rfl rfl (by kernel_rfl) (fun _ _ _ h => h) (Or.inl ⟨by rfl, ?_⟩) hHeld ?_ ?_
  rotate_left
  · rintro w' ⟨s0, s1, s2, s3, s4, s5, s6, s7, s8, s9⟩
    go_simp
    with_reducible rfl
  rotate_left
  · simp only [Act.put, List.setIfInBounds_toArray, List.set_cons_zero, List.set_cons_succ]
    rfl
  refine take_ (i := 3) (N := some 25) (v := ?_) (a' := ?_) #[true, true, false, true, false, false, false, false] rfl rfl (by kernel_rfl) (fun _ _ _ h => h) (Or.inl ⟨by rfl, ?_⟩) hHeld ?_ ?_
  rotate_left
  · rintro w' ⟨s0, s1, s2, s3, s4, s5, s6, s7, s8, s9⟩
    go_simp
    with_reducible rfl
  rotate_left
  · simp only [Act.put, List.setIfInBounds_toArray, List.set_cons_zero, List.set_cons_succ]
    rfl
  refine one_ (i := 2) (N := some 24) #[true, true, true, true, false, false, false, false] rfl rfl (by kernel_rfl) (by decide) (fun K hK => ?_)
  refine goes_ Tryd.func13 (by kernel_rfl) rfl #[.agg #[.int .i64 6, .int .i64 0, .string ⟨#[]⟩, .slice (some ⟨w.heap.size + 1 + 1 + 1 + 1 + 1, 0, none⟩) 1 1, .slice (some ⟨w.heap.size + 1 + 1 + 1 + 1 + 1 + 1, 0, none⟩) 1 1], .agg #[.int .i64 x0, .int .i64 x1, .string x2, .slice X3 xs3.length x3, .slice X4 xs4.length x4]] (by rfl) rfl rfl (by simp only [List.map_toArray, List.map_cons, List.map_nil]; rfl) ?_
  refine (hC1).mono ?_
  rintro e w4 ⟨rfl, hb⟩
  refine ⟨_, rfl, ?_⟩
  have hL4 := HLW.out.below ((Below.refl _ W).drew.trans hb)
  have HL4 := Lib.hid hL4
  have hC2 := HC2.out w4 hL4
  clear hb hL4
  refine hK.out _ _ ⟨((blk_cell HL4.out.k7 0).trans rfl), ((blk_cell HL4.out.k7 1).trans rfl), ((blk_cell HL4.out.k7 2).trans rfl), ((blk_cell HL4.out.k7 3).trans rfl), ((blk_cell HL4.out.k7 4).trans rfl), ((blk_cell HL4.out.k0 0).trans rfl), ((blk_cell HL4.out.k0 1).trans rfl), ((blk_cell HL4.out.k0 2).trans rfl), ((blk_cell HL4.out.k0 3).trans rfl), ((blk_cell HL4.out.k0 4).trans rfl)⟩ (fun hHeld => ?_)
  clear hK K
  refine norm_ (a' := ?_) ?_ ?_
  rotate_left
  · show Act.put _ (some 24) _ = _
    simp only [Act.put, List.setIfInBounds_toArray, List.set_cons_zero, List.set_cons_succ]
    rfl
  refine one_ (i := 4) (N := some 26) #[true, true, true, true, true, false, false, false] rfl rfl (by kernel_rfl) (by decide) (fun K hK => ?_)
  refine goes_ Tryd.func16 (by kernel_rfl) rfl #[.agg #[.int .i64 6, .int .i64 0, .string ⟨#[]⟩, .slice (some ⟨w.heap.size + 1 + 1 + 1 + 1 + 1, 0, none⟩) 1 1, .slice (some ⟨w.heap.size + 1 + 1 + 1 + 1 + 1 + 1, 0, none⟩) 1 1]] (by rfl) rfl rfl (by simp only [List.map_toArray, List.map_cons, List.map_nil]; rfl) ?_
  refine (hC2).mono ?_
  rintro e w5 ⟨rfl, hb⟩
  refine ⟨_, rfl, ?_⟩
  have hL5 := HL4.out.below hb
  have HL5 := Lib.hid hL5
  clear hb hL5
  refine hK.out _ _ ⟨((blk_cell HL5.out.k7 0).trans rfl), ((blk_cell HL5.out.k7 1).trans rfl), ((blk_cell HL5.out.k7 2).trans rfl), ((blk_cell HL5.out.k7 3).trans rfl), ((blk_cell HL5.out.k7 4).trans rfl), ((blk_cell HL5.out.k0 0).trans rfl), ((blk_cell HL5.out.k0 1).trans rfl), ((blk_cell HL5.out.k0 2).trans rfl), ((blk_cell HL5.out.k0 3).trans rfl), ((blk_cell HL5.out.k0 4).trans rfl)⟩ (fun hHeld => ?_)
  clear hK K
  refine norm_ (a' := ?_) ?_ ?_
  rotate_left
  · show Act.put _ (some 26) _ = _
    simp only [Act.put, List.setIfInBounds_toArray, List.set_cons_zero, List.set_cons_succ]
    rfl
  refine pure_ (i := 5) (N := some 27) (v := ?_) (a' := ?_) #[true, true, true, true, true, true, false, false] rfl rfl (by kernel_rfl) (fun _ _ _ h => h) (Or.inl ⟨by rfl, ?_⟩) ?_ ?_
  rotate_left
  · intro w'
    go_simp
    with_reducible rfl
  rotate_left
  · simp only [Act.put, List.setIfInBounds_toArray, List.set_cons_zero, List.set_cons_succ]
    rfl
  refine pure_ (i := 6) (N := some 8) (v := ?_) (a' := ?_) #[true, true, true, true, true, true, true, false] rfl rfl (by kernel_rfl) (fun _ _ _ h => h) (Or.inl ⟨by rfl, ?_⟩) ?_ ?_
  rotate_left
  · intro w'
    go_simp
    with_reducible rfl
  rotate_left
  · simp only [Act.put, List.setIfInBounds_toArray, List.set_cons_zero, List.set_cons_succ]
    rfl
  refine pure_ (i := 7) (N := some 9) (v := ?_) (a' := ?_) #[true, true, true, true, true, true, true, true] rfl rfl (by kernel_rfl) (fun _ _ _ h => h) (Or.inl ⟨by rfl, ?_⟩) ?_ ?_
  rotate_left
  · intro w'
    go_simp
    with_reducible rfl
  rotate_left
  · simp only [Act.put, List.setIfInBounds_toArray, List.set_cons_zero, List.set_cons_succ]
    rfl
  refine done_ (by kernel_rfl) ?_

  clear m0 m1 m2 m3 m4 r0 r1 r2 r3 r4 hC1 hC2 HL4 HLW HC2
  go_wp2_with fail
  go_ret2
  exact ⟨rfl, HL5.out.b⟩

end Go.Proofs.YtehdnjegipcpfaaDoor
