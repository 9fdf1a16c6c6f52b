/-
  the reference's Few: printed by the kit's print.sh, laid over the filter's own words by a program of this session's.
-/
import Derived.Test.YtehdnjegipcpfaaDoorAx0
import Derived.Test.YtehdnjegipcpfaaDoorPFilterHoldsx5
namespace Go.Proofs.YtehdnjegipcpfaaDoor.PAns
open Go.RowKit Go.Proofs.YtehdnjegipcpfaaDoorW.PrintWords Go.Proofs.YtehdnjegipcpfaaDoorW.PrintLast Go.Proofs.YtehdnjegipcpfaaDoorW.PrintMore
open PFilterHolds
attribute [local go_sem] max2_int min2_int max_two min_two max_three min_three max_four min_four
set_option linter.unusedVariables false
set_option linter.unusedSimpArgs false
mutual
def munimentref16_Few.j0 : Nat → List (S72) → Bool → Int → Int → ByteArray → List ByteArray → List (S25) → List (S83) → List ByteArray → Int → Int → Option (Bool)
  | 0, _, _, _, _, _, _, _, _, _, _, _ => none
  | k + 1, x1, x28, x261000, x261001, x261002, x261003, x261004, x261005, x261006, x261007, x261008 => if x28 = true then (some false) else (munimentref16_Few.l0 k x1 0 x261000 x261001 x261002 x261003 x261004 x261005 x261006 x261007 x261008)
def munimentref16_Few.l0 : Nat → List (S72) → Int → Int → Int → ByteArray → List ByteArray → List (S25) → List (S83) → List ByteArray → Int → Int → Option (Bool)
  | 0, _, _, _, _, _, _, _, _, _, _, _ => none
  | k + 1, x1, x5, x261000, x261001, x261002, x261003, x261004, x261005, x261006, x261007, x261008 => if x5 < (x261005.length : Int) then (if 0 ≤ x5 then (if (((rd_T83 x261005 x5).f0).size : Int) > 1000 then (some false) else (munimentref16_Few.l0 k x1 (wrap64 (x5 + 1)) x261000 x261001 x261002 x261003 x261004 x261005 x261006 x261007 x261008)) else (none)) else (munimentref16_Few.l1 k x1 0 x261000 x261001 x261002 x261003 x261004 x261005 x261006 x261007 x261008)
def munimentref16_Few.l1 : Nat → List (S72) → Int → Int → Int → ByteArray → List ByteArray → List (S25) → List (S83) → List ByteArray → Int → Int → Option (Bool)
  | 0, _, _, _, _, _, _, _, _, _, _, _ => none
  | k + 1, x1, x6, x261000, x261001, x261002, x261003, x261004, x261005, x261006, x261007, x261008 => if x6 < (x261006.length : Int) then (if 0 ≤ x6 then (if ((rdOf ByteArray.empty x261006 x6).size : Int) > 1000 then (some false) else (munimentref16_Few.l1 k x1 (wrap64 (x6 + 1)) x261000 x261001 x261002 x261003 x261004 x261005 x261006 x261007 x261008)) else (none)) else (munimentref16_Few.l2 k x1 0)
def munimentref16_Few.l2 : Nat → List (S72) → Int → Option (Bool)
  | 0, _, _ => none
  | k + 1, x1, x7 => if x7 < (x1.length : Int) then (if 0 ≤ x7 then ((munimentref01_Few.f k ((rd_T72 x1 x7).f1.f0) ((rd_T72 x1 x7).f1.f1) ((rd_T72 x1 x7).f1.f2) ((rd_T72 x1 x7).f1.f3) ((rd_T72 x1 x7).f1.f4)).bind fun t265 => (if t265 = true then (if (((rd_T72 x1 x7).f0).size : Int) > 1000 then (some false) else (munimentref16_Few.l2 k x1 (wrap64 (x7 + 1)))) else (some false))) else (none)) else (some true)
end
def munimentref16_Few.f (k : Nat) (a0_0 : Int) (a0_1 : Int) (a0_2 : ByteArray) (l0_3 : List ByteArray) (l0_4 : List (S25)) (l0_5 : List (S83)) (l0_6 : List ByteArray) (a0_7 : Int) (a0_8 : Int) (l1 : List (S72)) : Option (Bool) := (munimentref01_Few.f k a0_0 a0_1 a0_2 l0_3 l0_4).bind fun t261 => (if t261 = true then (if (l0_5.length : Int) > 20 then (munimentref16_Few.j0 k l1 true a0_0 a0_1 a0_2 l0_3 l0_4 l0_5 l0_6 a0_7 a0_8) else (if (l0_6.length : Int) > 20 then (munimentref16_Few.j0 k l1 true a0_0 a0_1 a0_2 l0_3 l0_4 l0_5 l0_6 a0_7 a0_8) else (munimentref16_Few.j0 k l1 (decide ((l1.length : Int) > 40)) a0_0 a0_1 a0_2 l0_3 l0_4 l0_5 l0_6 a0_7 a0_8))) else (munimentref16_Few.j0 k l1 true a0_0 a0_1 a0_2 l0_3 l0_4 l0_5 l0_6 a0_7 a0_8))
theorem munimentref16_Few.mono_l : ∀ k, (∀ y0 y1 y2 y3 y4 y5 y6 y7 y8 y9 y10, LeO (munimentref16_Few.j0 k y0 y1 y2 y3 y4 y5 y6 y7 y8 y9 y10) (munimentref16_Few.j0 (k + 1) y0 y1 y2 y3 y4 y5 y6 y7 y8 y9 y10)) ∧ (∀ y0 y1 y2 y3 y4 y5 y6 y7 y8 y9 y10, LeO (munimentref16_Few.l0 k y0 y1 y2 y3 y4 y5 y6 y7 y8 y9 y10) (munimentref16_Few.l0 (k + 1) y0 y1 y2 y3 y4 y5 y6 y7 y8 y9 y10)) ∧ (∀ y0 y1 y2 y3 y4 y5 y6 y7 y8 y9 y10, LeO (munimentref16_Few.l1 k y0 y1 y2 y3 y4 y5 y6 y7 y8 y9 y10) (munimentref16_Few.l1 (k + 1) y0 y1 y2 y3 y4 y5 y6 y7 y8 y9 y10)) ∧ (∀ y0 y1, LeO (munimentref16_Few.l2 k y0 y1) (munimentref16_Few.l2 (k + 1) y0 y1))
  | 0 => ⟨fun _ _ _ _ _ _ _ _ _ _ _ r h => by simp [munimentref16_Few.j0] at h, fun _ _ _ _ _ _ _ _ _ _ _ r h => by simp [munimentref16_Few.l0] at h, fun _ _ _ _ _ _ _ _ _ _ _ r h => by simp [munimentref16_Few.l1] at h, fun _ _ r h => by simp [munimentref16_Few.l2] at h⟩
  | k + 1 => by
    obtain ⟨ih0, ih1, ih2, ih3⟩ := munimentref16_Few.mono_l k
    refine ⟨?_, ?_, ?_, ?_⟩
    · intro y0 y1 y2 y3 y4 y5 y6 y7 y8 y9 y10
      unfold munimentref16_Few.j0
      repeat' first
      | (with_reducible exact ih0 _ _ _ _ _ _ _ _ _ _ _)
      | (with_reducible exact ih1 _ _ _ _ _ _ _ _ _ _ _)
      | (with_reducible exact ih2 _ _ _ _ _ _ _ _ _ _ _)
      | (with_reducible exact ih3 _ _)
      | (with_reducible exact munimentref01_Few.mono _ _ _ _ _ _)
      | (with_reducible exact LeO.refl _)
      | (with_reducible exact LeO.none _)
      | (with_reducible refine LeO.ite ?_ ?_)
      | (with_reducible refine LeO.bind ?_ (fun _ => ?_))
      | exact ih0 _ _ _ _ _ _ _ _ _ _ _
      | exact ih1 _ _ _ _ _ _ _ _ _ _ _
      | exact ih2 _ _ _ _ _ _ _ _ _ _ _
      | exact ih3 _ _
      | exact munimentref01_Few.mono _ _ _ _ _ _
      | exact LeO.none _
      | refine LeO.ite ?_ ?_
      | refine LeO.bind ?_ (fun _ => ?_)
    · intro y0 y1 y2 y3 y4 y5 y6 y7 y8 y9 y10
      unfold munimentref16_Few.l0
      repeat' first
      | (with_reducible exact ih0 _ _ _ _ _ _ _ _ _ _ _)
      | (with_reducible exact ih1 _ _ _ _ _ _ _ _ _ _ _)
      | (with_reducible exact ih2 _ _ _ _ _ _ _ _ _ _ _)
      | (with_reducible exact ih3 _ _)
      | (with_reducible exact munimentref01_Few.mono _ _ _ _ _ _)
      | (with_reducible exact LeO.refl _)
      | (with_reducible exact LeO.none _)
      | (with_reducible refine LeO.ite ?_ ?_)
      | (with_reducible refine LeO.bind ?_ (fun _ => ?_))
      | exact ih0 _ _ _ _ _ _ _ _ _ _ _
      | exact ih1 _ _ _ _ _ _ _ _ _ _ _
      | exact ih2 _ _ _ _ _ _ _ _ _ _ _
      | exact ih3 _ _
      | exact munimentref01_Few.mono _ _ _ _ _ _
      | exact LeO.none _
      | refine LeO.ite ?_ ?_
      | refine LeO.bind ?_ (fun _ => ?_)
    · intro y0 y1 y2 y3 y4 y5 y6 y7 y8 y9 y10
      unfold munimentref16_Few.l1
      repeat' first
      | (with_reducible exact ih0 _ _ _ _ _ _ _ _ _ _ _)
      | (with_reducible exact ih1 _ _ _ _ _ _ _ _ _ _ _)
      | (with_reducible exact ih2 _ _ _ _ _ _ _ _ _ _ _)
      | (with_reducible exact ih3 _ _)
      | (with_reducible exact munimentref01_Few.mono _ _ _ _ _ _)
      | (with_reducible exact LeO.refl _)
      | (with_reducible exact LeO.none _)
      | (with_reducible refine LeO.ite ?_ ?_)
      | (with_reducible refine LeO.bind ?_ (fun _ => ?_))
      | exact ih0 _ _ _ _ _ _ _ _ _ _ _
      | exact ih1 _ _ _ _ _ _ _ _ _ _ _
      | exact ih2 _ _ _ _ _ _ _ _ _ _ _
      | exact ih3 _ _
      | exact munimentref01_Few.mono _ _ _ _ _ _
      | exact LeO.none _
      | refine LeO.ite ?_ ?_
      | refine LeO.bind ?_ (fun _ => ?_)
    · intro y0 y1
      unfold munimentref16_Few.l2
      repeat' first
      | (with_reducible exact ih0 _ _ _ _ _ _ _ _ _ _ _)
      | (with_reducible exact ih1 _ _ _ _ _ _ _ _ _ _ _)
      | (with_reducible exact ih2 _ _ _ _ _ _ _ _ _ _ _)
      | (with_reducible exact ih3 _ _)
      | (with_reducible exact munimentref01_Few.mono _ _ _ _ _ _)
      | (with_reducible exact LeO.refl _)
      | (with_reducible exact LeO.none _)
      | (with_reducible refine LeO.ite ?_ ?_)
      | (with_reducible refine LeO.bind ?_ (fun _ => ?_))
      | exact ih0 _ _ _ _ _ _ _ _ _ _ _
      | exact ih1 _ _ _ _ _ _ _ _ _ _ _
      | exact ih2 _ _ _ _ _ _ _ _ _ _ _
      | exact ih3 _ _
      | exact munimentref01_Few.mono _ _ _ _ _ _
      | exact LeO.none _
      | refine LeO.ite ?_ ?_
      | refine LeO.bind ?_ (fun _ => ?_)
theorem munimentref16_Few.mono : ∀ a0 a1 a2 a3 a4 a5 a6 a7 a8 a9 k, LeO (munimentref16_Few.f k a0 a1 a2 a3 a4 a5 a6 a7 a8 a9) (munimentref16_Few.f (k + 1) a0 a1 a2 a3 a4 a5 a6 a7 a8 a9) := by
  intro a0 a1 a2 a3 a4 a5 a6 a7 a8 a9 k
  obtain ⟨ih0, ih1, ih2, ih3⟩ := munimentref16_Few.mono_l k
  unfold munimentref16_Few.f
  repeat' first
      | (with_reducible exact ih0 _ _ _ _ _ _ _ _ _ _ _)
      | (with_reducible exact ih1 _ _ _ _ _ _ _ _ _ _ _)
      | (with_reducible exact ih2 _ _ _ _ _ _ _ _ _ _ _)
      | (with_reducible exact ih3 _ _)
      | (with_reducible exact munimentref01_Few.mono _ _ _ _ _ _)
      | (with_reducible exact LeO.refl _)
      | (with_reducible exact LeO.none _)
      | (with_reducible refine LeO.ite ?_ ?_)
      | (with_reducible refine LeO.bind ?_ (fun _ => ?_))
      | exact ih0 _ _ _ _ _ _ _ _ _ _ _
      | exact ih1 _ _ _ _ _ _ _ _ _ _ _
      | exact ih2 _ _ _ _ _ _ _ _ _ _ _
      | exact ih3 _ _
      | exact munimentref01_Few.mono _ _ _ _ _ _
      | exact LeO.none _
      | refine LeO.ite ?_ ?_
      | refine LeO.bind ?_ (fun _ => ?_)
set_option maxHeartbeats 8000000 in
set_option maxRecDepth 100000 in
theorem munimentref16_Few.calls (k : Nat) (a0_0 : Int) (a0_1 : Int) (a0_2 : ByteArray) (A0_3 : Option Addr) (c0_3 : Nat) (l0_3 : List ByteArray) (A0_4 : Option Addr) (c0_4 : Nat) (l0_4 : List (S25)) (A0_5 : Option Addr) (c0_5 : Nat) (l0_5 : List (S83)) (A0_6 : Option Addr) (c0_6 : Nat) (l0_6 : List ByteArray) (a0_7 : Int) (a0_8 : Int) (A1 : Option Addr) (c1 : Nat) (l1 : List (S72)) (r : Bool) (w : World) (hr0_3 : Kd.C Kd.string w A0_3 l0_3.length l0_3) (hc0_3 : l0_3.length ≤ c0_3) (hr0_4 : Kd.C k25 w A0_4 l0_4.length l0_4) (hc0_4 : l0_4.length ≤ c0_4) (hr0_5 : Kd.C k83 w A0_5 l0_5.length l0_5) (hc0_5 : l0_5.length ≤ c0_5) (hr0_6 : Kd.C Kd.string w A0_6 l0_6.length l0_6) (hc0_6 : l0_6.length ≤ c0_6) (hr1 : Kd.C k72 w A1 l1.length l1) (hc1 : l1.length ≤ c1) (h : munimentref16_Few.f k a0_0 a0_1 a0_2 l0_3 l0_4 l0_5 l0_6 a0_7 a0_8 l1 = some r) :
    Calls Tryd.prog 43 #[.agg #[.int .i64 a0_0, .int .i64 a0_1, .string a0_2, .slice A0_3 l0_3.length c0_3, .slice A0_4 l0_4.length c0_4, .slice A0_5 l0_5.length c0_5, .slice A0_6 l0_6.length c0_6, .int .i64 a0_7, .int .i64 a0_8], .slice A1 l1.length c1] w fun e w' => e = .returned (.bool r) ∧ Below w.heap.size w w' := by
  have hu63 := Tryd.underlying63
  have hu25 := Tryd.underlying25
  have HR0_3 := Aside0.mk hr0_3
  have HC0_3 := Aside0.mk hc0_3
  clear hr0_3 hc0_3
  have HR0_4 := Aside0.mk hr0_4
  have HC0_4 := Aside0.mk hc0_4
  clear hr0_4 hc0_4
  have HR0_5 := Aside0.mk hr0_5
  have HC0_5 := Aside0.mk hc0_5
  clear hr0_5 hc0_5
  have HR0_6 := Aside0.mk hr0_6
  have HC0_6 := Aside0.mk hc0_6
  clear hr0_6 hc0_6
  have HR1 := Aside0.mk hr1
  have HC1 := Aside0.mk hc1
  clear hr1 hc1
  have HB := Aside0.mk (Below.refl w.heap.size w)
  have H : ((munimentref01_Few.f k a0_0 a0_1 a0_2 l0_3 l0_4).bind fun t261 => (if t261 = true then (if (l0_5.length : Int) > 20 then (munimentref16_Few.j0 k l1 true a0_0 a0_1 a0_2 l0_3 l0_4 l0_5 l0_6 a0_7 a0_8) else (if (l0_6.length : Int) > 20 then (munimentref16_Few.j0 k l1 true a0_0 a0_1 a0_2 l0_3 l0_4 l0_5 l0_6 a0_7 a0_8) else (munimentref16_Few.j0 k l1 (decide ((l1.length : Int) > 40)) a0_0 a0_1 a0_2 l0_3 l0_4 l0_5 l0_6 a0_7 a0_8))) else (munimentref16_Few.j0 k l1 true a0_0 a0_1 a0_2 l0_3 l0_4 l0_5 l0_6 a0_7 a0_8))) = some r := h
  clear h
  have HC3 := Aside0.mk H
  clear H
  go_enter Tryd.func43, Tryd.ntmps43
  go_upto_region 1 with (first | ((with_reducible refine gate_dst (N := 2) rfl ?_); (try (refine gate_guard (by rfl) ?_; dsimp only)); refine box_event ?hg (N := 2) ?hd (cs := #[.int .i64 a0_0, .int .i64 a0_1, .string a0_2, .slice A0_3 l0_3.length c0_3, .slice A0_4 l0_4.length c0_4, .slice A0_5 l0_5.length c0_5, .slice A0_6 l0_6.length c0_6, .int .i64 a0_7, .int .i64 a0_8]) (t := 63) ?hr ?_; (case hd => rfl); (case hg => rfl); (case hr => first | (go_simp; done) | (go_simp; rfl)); intro gb260 hg w4 hbox hb; have n0_ := Aside0.mk (below_step (by repeat (first | (with_reducible first | exact HB.out | apply below_alloc | apply pw_below_drewN | apply below_drew1) | exact HB.out)) hb); have n1_ := Aside0.mk (hbox); have n2_ := Aside0.mk ((by rw [hg]; exact (below_size (by repeat (first | (with_reducible first | exact HB.out | apply below_alloc | apply pw_below_drewN | apply below_drew1) | exact HB.out))) : w.heap.size ≤ gb260)); have n3_ := Aside0.mk ((by rw [hg]; exact (below_size (by repeat (first | (with_reducible first | exact HB.out | apply below_alloc | apply pw_below_drewN | apply below_drew1) | exact HB.out))) : w.heap.size ≤ gb260)); clear HB; have HB := n0_; have BK260 := n1_; have GW260 := n2_; have GE260 := n3_; clear n0_ n1_ n2_ n3_; clear hb hbox hg))
  (try simp only [Act.put, List.setIfInBounds_toArray, List.set_cons_zero, List.set_cons_succ])
  go_cut [28] (fun v28 wc => ∃ (kq : Nat) (x28_2 : Bool), v28 = .bool x28_2 ∧ Aside0 (munimentref16_Few.j0 kq l1 x28_2 a0_0 a0_1 a0_2 l0_3 l0_4 l0_5 l0_6 a0_7 a0_8 = some r) ∧ Aside0 (kq ≤ k) ∧ Aside0 (wc.heap[gb260]? = some (.cells #[.int .i64 a0_0, .int .i64 a0_1, .string a0_2, (.slice A0_3 l0_3.length c0_3), (.slice A0_4 l0_4.length c0_4), (.slice A0_5 l0_5.length c0_5), (.slice A0_6 l0_6.length c0_6), .int .i64 a0_7, .int .i64 a0_8] 63 (0, 0))) ∧ Aside0 (Below w.heap.size w wc))
  case first =>
    have H := HC3.out
    clear HC3
    replace H := Option.bind_eq_some_iff.mp H
    obtain ⟨t261, A50, H⟩ := H
    replace H : (if t261 = true then (if (l0_5.length : Int) > 20 then (munimentref16_Few.j0 k l1 true a0_0 a0_1 a0_2 l0_3 l0_4 l0_5 l0_6 a0_7 a0_8) else (if (l0_6.length : Int) > 20 then (munimentref16_Few.j0 k l1 true a0_0 a0_1 a0_2 l0_3 l0_4 l0_5 l0_6 a0_7 a0_8) else (munimentref16_Few.j0 k l1 (decide ((l1.length : Int) > 40)) a0_0 a0_1 a0_2 l0_3 l0_4 l0_5 l0_6 a0_7 a0_8))) else (munimentref16_Few.j0 k l1 true a0_0 a0_1 a0_2 l0_3 l0_4 l0_5 l0_6 a0_7 a0_8)) = some r := H
    have A5 := Aside0.mk A50
    clear A50
    by_cases c6 : t261 = true
    · subst c6
      have H1 : (if (l0_5.length : Int) > 20 then (munimentref16_Few.j0 k l1 true a0_0 a0_1 a0_2 l0_3 l0_4 l0_5 l0_6 a0_7 a0_8) else (if (l0_6.length : Int) > 20 then (munimentref16_Few.j0 k l1 true a0_0 a0_1 a0_2 l0_3 l0_4 l0_5 l0_6 a0_7 a0_8) else (munimentref16_Few.j0 k l1 (decide ((l1.length : Int) > 40)) a0_0 a0_1 a0_2 l0_3 l0_4 l0_5 l0_6 a0_7 a0_8))) = some r := by rw [if_pos rfl] at H; exact H
      clear H
      have H := H1
      clear H1
      by_cases c7 : (l0_5.length : Int) > 20
      · rw [if_pos c7] at H
        have c7b0 : decide (20 < (l0_5.length : Int)) = true := decide_eq_true c7
        have c7b1 : decide (20 < l0_5.length) = true := decide_eq_true (by omega)
        clear c7
        (first | rw [c7b0] | (simp only [i64_w, i32_w]; rw [c7b0]) | skip)
        have H' := Aside0.mk H
        clear H
        have hcz8_0 : w4.cell? ⟨gb260, 0, none⟩ = some (.int .i64 a0_0) := (blk_cell BK260.out 0).trans rfl
        have hcz8_1 : w4.cell? ⟨gb260, 1, none⟩ = some (.int .i64 a0_1) := (blk_cell BK260.out 1).trans rfl
        have hcz8_2 : w4.cell? ⟨gb260, 2, none⟩ = some (.string a0_2) := (blk_cell BK260.out 2).trans rfl
        have hcz8_3 : w4.cell? ⟨gb260, 3, none⟩ = some (.slice A0_3 l0_3.length c0_3) := (blk_cell BK260.out 3).trans rfl
        have hcz8_4 : w4.cell? ⟨gb260, 4, none⟩ = some (.slice A0_4 l0_4.length c0_4) := (blk_cell BK260.out 4).trans rfl
        have hcz8_5 : w4.cell? ⟨gb260, 5, none⟩ = some (.slice A0_5 l0_5.length c0_5) := (blk_cell BK260.out 5).trans rfl
        have hcz8_6 : w4.cell? ⟨gb260, 6, none⟩ = some (.slice A0_6 l0_6.length c0_6) := (blk_cell BK260.out 6).trans rfl
        have hcz8_7 : w4.cell? ⟨gb260, 7, none⟩ = some (.int .i64 a0_7) := (blk_cell BK260.out 7).trans rfl
        have hcz8_8 : w4.cell? ⟨gb260, 8, none⟩ = some (.int .i64 a0_8) := (blk_cell BK260.out 8).trans rfl
        have hfz8_0 := blk_frozen BK260.out 0
        have hfz8_1 := blk_frozen BK260.out 1
        have hfz8_2 := blk_frozen BK260.out 2
        have hfz8_3 := blk_frozen BK260.out 3
        have hfz8_4 := blk_frozen BK260.out 4
        have hfz8_5 := blk_frozen BK260.out 5
        have hfz8_6 := blk_frozen BK260.out 6
        have hfz8_7 := blk_frozen BK260.out 7
        have hfz8_8 := blk_frozen BK260.out 8
        go_wp2_with (first | ((with_reducible refine gate_callee (f := 30) rfl ?_); refine goesL_ (some 10) rfl rfl Tryd.func30 (by kernel_rfl) rfl #[.agg #[.int .i64 a0_0, .int .i64 a0_1, .string a0_2, .slice A0_3 l0_3.length c0_3, .slice A0_4 l0_4.length c0_4]] rfl (by (try simp only [List.map_toArray, List.map_cons, List.map_nil]); first | done | rfl | (simp only [List.length_drop, List.length_take]; rfl)) ?_; (with_reducible refine (munimentref01_Few.calls k a0_0 a0_1 a0_2 _ _ l0_3 _ _ l0_4 true _ ?side1 ?side2 ?side3 ?side4 A5.out).mono ?_); (case side1 => repeat (first | exact (Kd.C_below HR0_3.out HB.out) | (with_reducible refine Kd.C_alloc ?_ _) | (with_reducible refine Kd.C_drewN ?_ _) | (with_reducible refine Kd.C_drew ?_))); (case side2 => exact HC0_3.out); (case side3 => repeat (first | exact (Kd.C_below HR0_4.out HB.out) | (with_reducible refine Kd.C_alloc ?_ _) | (with_reducible refine Kd.C_drewN ?_ _) | (with_reducible refine Kd.C_drew ?_))); (case side4 => exact HC0_4.out); rintro e w9 ⟨rfl, hb⟩; refine ⟨_, rfl, ?_⟩; have n0_ := Aside0.mk (blk_below (g := gb260) (o := .cells #[.int .i64 a0_0, .int .i64 a0_1, .string a0_2, .slice A0_3 l0_3.length c0_3, .slice A0_4 l0_4.length c0_4, .slice A0_5 l0_5.length c0_5, .slice A0_6 l0_6.length c0_6, .int .i64 a0_7, .int .i64 a0_8] 63 (0, 0)) (by (with_reducible repeat (first | refine blk_drewN ?_ _ | refine blk_drew ?_ | refine blk_alloc ?_ _)); exact BK260.out) hb); have n1_ := Aside0.mk (below_step (by repeat (first | (with_reducible first | exact HB.out | apply below_alloc | apply pw_below_drewN | apply below_drew1 | refine below_set ?_ GE260.out) | exact HB.out)) hb); clear BK260; clear HB; have BK260 := n0_; have HB := n1_; clear n0_ n1_; (try clear hb); (try clear hb2); (try clear hk); (try clear hi); have hcz10_0 : w9.cell? ⟨gb260, 0, none⟩ = some (.int .i64 a0_0) := (blk_cell BK260.out 0).trans rfl; have hcz10_1 : w9.cell? ⟨gb260, 1, none⟩ = some (.int .i64 a0_1) := (blk_cell BK260.out 1).trans rfl; have hcz10_2 : w9.cell? ⟨gb260, 2, none⟩ = some (.string a0_2) := (blk_cell BK260.out 2).trans rfl; have hcz10_3 : w9.cell? ⟨gb260, 3, none⟩ = some (.slice A0_3 l0_3.length c0_3) := (blk_cell BK260.out 3).trans rfl; have hcz10_4 : w9.cell? ⟨gb260, 4, none⟩ = some (.slice A0_4 l0_4.length c0_4) := (blk_cell BK260.out 4).trans rfl; have hcz10_5 : w9.cell? ⟨gb260, 5, none⟩ = some (.slice A0_5 l0_5.length c0_5) := (blk_cell BK260.out 5).trans rfl; have hcz10_6 : w9.cell? ⟨gb260, 6, none⟩ = some (.slice A0_6 l0_6.length c0_6) := (blk_cell BK260.out 6).trans rfl; have hcz10_7 : w9.cell? ⟨gb260, 7, none⟩ = some (.int .i64 a0_7) := (blk_cell BK260.out 7).trans rfl; have hcz10_8 : w9.cell? ⟨gb260, 8, none⟩ = some (.int .i64 a0_8) := (blk_cell BK260.out 8).trans rfl; have hfz10_0 := blk_frozen BK260.out 0; have hfz10_1 := blk_frozen BK260.out 1; have hfz10_2 := blk_frozen BK260.out 2; have hfz10_3 := blk_frozen BK260.out 3; have hfz10_4 := blk_frozen BK260.out 4; have hfz10_5 := blk_frozen BK260.out 5; have hfz10_6 := blk_frozen BK260.out 6; have hfz10_7 := blk_frozen BK260.out 7; have hfz10_8 := blk_frozen BK260.out 8))
        go_meet
        case rel => exact ⟨_, (true), (by first | rfl | (simp; done) | (simp [*]; done)), H', ⟨by first | omega | exact Nat.le_refl _⟩, ⟨by (with_reducible repeat (first | refine blk_drewN ?_ _ | refine blk_drew ?_ | refine blk_alloc ?_ _)); exact BK260.out⟩, ⟨by repeat (first | (with_reducible first | exact HB.out | apply below_alloc | apply pw_below_drewN | apply below_drew1 | refine below_set ?_ GE260.out) | exact HB.out)⟩⟩
      · rw [if_neg c7] at H
        have c7b0 : decide (20 < (l0_5.length : Int)) = false := decide_eq_false c7
        have c7b1 : decide (20 < l0_5.length) = false := decide_eq_false (by omega)
        clear c7
        (first | rw [c7b0] | (simp only [i64_w, i32_w]; rw [c7b0]) | skip)
        by_cases c11 : (l0_6.length : Int) > 20
        · rw [if_pos c11] at H
          have c11b0 : decide (20 < (l0_6.length : Int)) = true := decide_eq_true c11
          have c11b1 : decide (20 < l0_6.length) = true := decide_eq_true (by omega)
          clear c11
          have H' := Aside0.mk H
          clear H
          have hcz12_0 : w4.cell? ⟨gb260, 0, none⟩ = some (.int .i64 a0_0) := (blk_cell BK260.out 0).trans rfl
          have hcz12_1 : w4.cell? ⟨gb260, 1, none⟩ = some (.int .i64 a0_1) := (blk_cell BK260.out 1).trans rfl
          have hcz12_2 : w4.cell? ⟨gb260, 2, none⟩ = some (.string a0_2) := (blk_cell BK260.out 2).trans rfl
          have hcz12_3 : w4.cell? ⟨gb260, 3, none⟩ = some (.slice A0_3 l0_3.length c0_3) := (blk_cell BK260.out 3).trans rfl
          have hcz12_4 : w4.cell? ⟨gb260, 4, none⟩ = some (.slice A0_4 l0_4.length c0_4) := (blk_cell BK260.out 4).trans rfl
          have hcz12_5 : w4.cell? ⟨gb260, 5, none⟩ = some (.slice A0_5 l0_5.length c0_5) := (blk_cell BK260.out 5).trans rfl
          have hcz12_6 : w4.cell? ⟨gb260, 6, none⟩ = some (.slice A0_6 l0_6.length c0_6) := (blk_cell BK260.out 6).trans rfl
          have hcz12_7 : w4.cell? ⟨gb260, 7, none⟩ = some (.int .i64 a0_7) := (blk_cell BK260.out 7).trans rfl
          have hcz12_8 : w4.cell? ⟨gb260, 8, none⟩ = some (.int .i64 a0_8) := (blk_cell BK260.out 8).trans rfl
          have hfz12_0 := blk_frozen BK260.out 0
          have hfz12_1 := blk_frozen BK260.out 1
          have hfz12_2 := blk_frozen BK260.out 2
          have hfz12_3 := blk_frozen BK260.out 3
          have hfz12_4 := blk_frozen BK260.out 4
          have hfz12_5 := blk_frozen BK260.out 5
          have hfz12_6 := blk_frozen BK260.out 6
          have hfz12_7 := blk_frozen BK260.out 7
          have hfz12_8 := blk_frozen BK260.out 8
          go_wp2_with (first | ((with_reducible refine gate_callee (f := 30) rfl ?_); refine goesL_ (some 10) rfl rfl Tryd.func30 (by kernel_rfl) rfl #[.agg #[.int .i64 a0_0, .int .i64 a0_1, .string a0_2, .slice A0_3 l0_3.length c0_3, .slice A0_4 l0_4.length c0_4]] rfl (by (try simp only [List.map_toArray, List.map_cons, List.map_nil]); first | done | rfl | (simp only [List.length_drop, List.length_take]; rfl)) ?_; (with_reducible refine (munimentref01_Few.calls k a0_0 a0_1 a0_2 _ _ l0_3 _ _ l0_4 true _ ?side1 ?side2 ?side3 ?side4 A5.out).mono ?_); (case side1 => repeat (first | exact (Kd.C_below HR0_3.out HB.out) | (with_reducible refine Kd.C_alloc ?_ _) | (with_reducible refine Kd.C_drewN ?_ _) | (with_reducible refine Kd.C_drew ?_))); (case side2 => exact HC0_3.out); (case side3 => repeat (first | exact (Kd.C_below HR0_4.out HB.out) | (with_reducible refine Kd.C_alloc ?_ _) | (with_reducible refine Kd.C_drewN ?_ _) | (with_reducible refine Kd.C_drew ?_))); (case side4 => exact HC0_4.out); rintro e w13 ⟨rfl, hb⟩; refine ⟨_, rfl, ?_⟩; have n0_ := Aside0.mk (blk_below (g := gb260) (o := .cells #[.int .i64 a0_0, .int .i64 a0_1, .string a0_2, .slice A0_3 l0_3.length c0_3, .slice A0_4 l0_4.length c0_4, .slice A0_5 l0_5.length c0_5, .slice A0_6 l0_6.length c0_6, .int .i64 a0_7, .int .i64 a0_8] 63 (0, 0)) (by (with_reducible repeat (first | refine blk_drewN ?_ _ | refine blk_drew ?_ | refine blk_alloc ?_ _)); exact BK260.out) hb); have n1_ := Aside0.mk (below_step (by repeat (first | (with_reducible first | exact HB.out | apply below_alloc | apply pw_below_drewN | apply below_drew1 | refine below_set ?_ GE260.out) | exact HB.out)) hb); clear BK260; clear HB; have BK260 := n0_; have HB := n1_; clear n0_ n1_; (try clear hb); (try clear hb2); (try clear hk); (try clear hi); have hcz14_0 : w13.cell? ⟨gb260, 0, none⟩ = some (.int .i64 a0_0) := (blk_cell BK260.out 0).trans rfl; have hcz14_1 : w13.cell? ⟨gb260, 1, none⟩ = some (.int .i64 a0_1) := (blk_cell BK260.out 1).trans rfl; have hcz14_2 : w13.cell? ⟨gb260, 2, none⟩ = some (.string a0_2) := (blk_cell BK260.out 2).trans rfl; have hcz14_3 : w13.cell? ⟨gb260, 3, none⟩ = some (.slice A0_3 l0_3.length c0_3) := (blk_cell BK260.out 3).trans rfl; have hcz14_4 : w13.cell? ⟨gb260, 4, none⟩ = some (.slice A0_4 l0_4.length c0_4) := (blk_cell BK260.out 4).trans rfl; have hcz14_5 : w13.cell? ⟨gb260, 5, none⟩ = some (.slice A0_5 l0_5.length c0_5) := (blk_cell BK260.out 5).trans rfl; have hcz14_6 : w13.cell? ⟨gb260, 6, none⟩ = some (.slice A0_6 l0_6.length c0_6) := (blk_cell BK260.out 6).trans rfl; have hcz14_7 : w13.cell? ⟨gb260, 7, none⟩ = some (.int .i64 a0_7) := (blk_cell BK260.out 7).trans rfl; have hcz14_8 : w13.cell? ⟨gb260, 8, none⟩ = some (.int .i64 a0_8) := (blk_cell BK260.out 8).trans rfl; have hfz14_0 := blk_frozen BK260.out 0; have hfz14_1 := blk_frozen BK260.out 1; have hfz14_2 := blk_frozen BK260.out 2; have hfz14_3 := blk_frozen BK260.out 3; have hfz14_4 := blk_frozen BK260.out 4; have hfz14_5 := blk_frozen BK260.out 5; have hfz14_6 := blk_frozen BK260.out 6; have hfz14_7 := blk_frozen BK260.out 7; have hfz14_8 := blk_frozen BK260.out 8))
          go_meet
          case rel => exact ⟨_, (true), (by first | rfl | (simp; done) | (simp [*]; done)), H', ⟨by first | omega | exact Nat.le_refl _⟩, ⟨by (with_reducible repeat (first | refine blk_drewN ?_ _ | refine blk_drew ?_ | refine blk_alloc ?_ _)); exact BK260.out⟩, ⟨by repeat (first | (with_reducible first | exact HB.out | apply below_alloc | apply pw_below_drewN | apply below_drew1 | refine below_set ?_ GE260.out) | exact HB.out)⟩⟩
        · rw [if_neg c11] at H
          have c11b0 : decide (20 < (l0_6.length : Int)) = false := decide_eq_false c11
          have c11b1 : decide (20 < l0_6.length) = false := decide_eq_false (by omega)
          clear c11
          have H' := Aside0.mk H
          clear H
          have hcz15_0 : w4.cell? ⟨gb260, 0, none⟩ = some (.int .i64 a0_0) := (blk_cell BK260.out 0).trans rfl
          have hcz15_1 : w4.cell? ⟨gb260, 1, none⟩ = some (.int .i64 a0_1) := (blk_cell BK260.out 1).trans rfl
          have hcz15_2 : w4.cell? ⟨gb260, 2, none⟩ = some (.string a0_2) := (blk_cell BK260.out 2).trans rfl
          have hcz15_3 : w4.cell? ⟨gb260, 3, none⟩ = some (.slice A0_3 l0_3.length c0_3) := (blk_cell BK260.out 3).trans rfl
          have hcz15_4 : w4.cell? ⟨gb260, 4, none⟩ = some (.slice A0_4 l0_4.length c0_4) := (blk_cell BK260.out 4).trans rfl
          have hcz15_5 : w4.cell? ⟨gb260, 5, none⟩ = some (.slice A0_5 l0_5.length c0_5) := (blk_cell BK260.out 5).trans rfl
          have hcz15_6 : w4.cell? ⟨gb260, 6, none⟩ = some (.slice A0_6 l0_6.length c0_6) := (blk_cell BK260.out 6).trans rfl
          have hcz15_7 : w4.cell? ⟨gb260, 7, none⟩ = some (.int .i64 a0_7) := (blk_cell BK260.out 7).trans rfl
          have hcz15_8 : w4.cell? ⟨gb260, 8, none⟩ = some (.int .i64 a0_8) := (blk_cell BK260.out 8).trans rfl
          have hfz15_0 := blk_frozen BK260.out 0
          have hfz15_1 := blk_frozen BK260.out 1
          have hfz15_2 := blk_frozen BK260.out 2
          have hfz15_3 := blk_frozen BK260.out 3
          have hfz15_4 := blk_frozen BK260.out 4
          have hfz15_5 := blk_frozen BK260.out 5
          have hfz15_6 := blk_frozen BK260.out 6
          have hfz15_7 := blk_frozen BK260.out 7
          have hfz15_8 := blk_frozen BK260.out 8
          go_wp2_with (first | ((with_reducible refine gate_callee (f := 30) rfl ?_); refine goesL_ (some 10) rfl rfl Tryd.func30 (by kernel_rfl) rfl #[.agg #[.int .i64 a0_0, .int .i64 a0_1, .string a0_2, .slice A0_3 l0_3.length c0_3, .slice A0_4 l0_4.length c0_4]] rfl (by (try simp only [List.map_toArray, List.map_cons, List.map_nil]); first | done | rfl | (simp only [List.length_drop, List.length_take]; rfl)) ?_; (with_reducible refine (munimentref01_Few.calls k a0_0 a0_1 a0_2 _ _ l0_3 _ _ l0_4 true _ ?side1 ?side2 ?side3 ?side4 A5.out).mono ?_); (case side1 => repeat (first | exact (Kd.C_below HR0_3.out HB.out) | (with_reducible refine Kd.C_alloc ?_ _) | (with_reducible refine Kd.C_drewN ?_ _) | (with_reducible refine Kd.C_drew ?_))); (case side2 => exact HC0_3.out); (case side3 => repeat (first | exact (Kd.C_below HR0_4.out HB.out) | (with_reducible refine Kd.C_alloc ?_ _) | (with_reducible refine Kd.C_drewN ?_ _) | (with_reducible refine Kd.C_drew ?_))); (case side4 => exact HC0_4.out); rintro e w16 ⟨rfl, hb⟩; refine ⟨_, rfl, ?_⟩; have n0_ := Aside0.mk (blk_below (g := gb260) (o := .cells #[.int .i64 a0_0, .int .i64 a0_1, .string a0_2, .slice A0_3 l0_3.length c0_3, .slice A0_4 l0_4.length c0_4, .slice A0_5 l0_5.length c0_5, .slice A0_6 l0_6.length c0_6, .int .i64 a0_7, .int .i64 a0_8] 63 (0, 0)) (by (with_reducible repeat (first | refine blk_drewN ?_ _ | refine blk_drew ?_ | refine blk_alloc ?_ _)); exact BK260.out) hb); have n1_ := Aside0.mk (below_step (by repeat (first | (with_reducible first | exact HB.out | apply below_alloc | apply pw_below_drewN | apply below_drew1 | refine below_set ?_ GE260.out) | exact HB.out)) hb); clear BK260; clear HB; have BK260 := n0_; have HB := n1_; clear n0_ n1_; (try clear hb); (try clear hb2); (try clear hk); (try clear hi); have hcz17_0 : w16.cell? ⟨gb260, 0, none⟩ = some (.int .i64 a0_0) := (blk_cell BK260.out 0).trans rfl; have hcz17_1 : w16.cell? ⟨gb260, 1, none⟩ = some (.int .i64 a0_1) := (blk_cell BK260.out 1).trans rfl; have hcz17_2 : w16.cell? ⟨gb260, 2, none⟩ = some (.string a0_2) := (blk_cell BK260.out 2).trans rfl; have hcz17_3 : w16.cell? ⟨gb260, 3, none⟩ = some (.slice A0_3 l0_3.length c0_3) := (blk_cell BK260.out 3).trans rfl; have hcz17_4 : w16.cell? ⟨gb260, 4, none⟩ = some (.slice A0_4 l0_4.length c0_4) := (blk_cell BK260.out 4).trans rfl; have hcz17_5 : w16.cell? ⟨gb260, 5, none⟩ = some (.slice A0_5 l0_5.length c0_5) := (blk_cell BK260.out 5).trans rfl; have hcz17_6 : w16.cell? ⟨gb260, 6, none⟩ = some (.slice A0_6 l0_6.length c0_6) := (blk_cell BK260.out 6).trans rfl; have hcz17_7 : w16.cell? ⟨gb260, 7, none⟩ = some (.int .i64 a0_7) := (blk_cell BK260.out 7).trans rfl; have hcz17_8 : w16.cell? ⟨gb260, 8, none⟩ = some (.int .i64 a0_8) := (blk_cell BK260.out 8).trans rfl; have hfz17_0 := blk_frozen BK260.out 0; have hfz17_1 := blk_frozen BK260.out 1; have hfz17_2 := blk_frozen BK260.out 2; have hfz17_3 := blk_frozen BK260.out 3; have hfz17_4 := blk_frozen BK260.out 4; have hfz17_5 := blk_frozen BK260.out 5; have hfz17_6 := blk_frozen BK260.out 6; have hfz17_7 := blk_frozen BK260.out 7; have hfz17_8 := blk_frozen BK260.out 8))
          go_meet
          case rel => exact ⟨_, (decide ((l1.length : Int) > 40)), (by first | rfl | (simp; done) | (simp [*]; done)), H', ⟨by first | omega | exact Nat.le_refl _⟩, ⟨by (with_reducible repeat (first | refine blk_drewN ?_ _ | refine blk_drew ?_ | refine blk_alloc ?_ _)); exact BK260.out⟩, ⟨by repeat (first | (with_reducible first | exact HB.out | apply below_alloc | apply pw_below_drewN | apply below_drew1 | refine below_set ?_ GE260.out) | exact HB.out)⟩⟩
    · replace c6 := Bool.eq_false_iff.mpr c6
      subst c6
      have H1 : (munimentref16_Few.j0 k l1 true a0_0 a0_1 a0_2 l0_3 l0_4 l0_5 l0_6 a0_7 a0_8) = some r := by rw [if_neg (show ¬ (false = true) by decide)] at H; exact H
      clear H
      have H := H1
      clear H1
      have H' := Aside0.mk H
      clear H
      have hcz18_0 : w4.cell? ⟨gb260, 0, none⟩ = some (.int .i64 a0_0) := (blk_cell BK260.out 0).trans rfl
      have hcz18_1 : w4.cell? ⟨gb260, 1, none⟩ = some (.int .i64 a0_1) := (blk_cell BK260.out 1).trans rfl
      have hcz18_2 : w4.cell? ⟨gb260, 2, none⟩ = some (.string a0_2) := (blk_cell BK260.out 2).trans rfl
      have hcz18_3 : w4.cell? ⟨gb260, 3, none⟩ = some (.slice A0_3 l0_3.length c0_3) := (blk_cell BK260.out 3).trans rfl
      have hcz18_4 : w4.cell? ⟨gb260, 4, none⟩ = some (.slice A0_4 l0_4.length c0_4) := (blk_cell BK260.out 4).trans rfl
      have hcz18_5 : w4.cell? ⟨gb260, 5, none⟩ = some (.slice A0_5 l0_5.length c0_5) := (blk_cell BK260.out 5).trans rfl
      have hcz18_6 : w4.cell? ⟨gb260, 6, none⟩ = some (.slice A0_6 l0_6.length c0_6) := (blk_cell BK260.out 6).trans rfl
      have hcz18_7 : w4.cell? ⟨gb260, 7, none⟩ = some (.int .i64 a0_7) := (blk_cell BK260.out 7).trans rfl
      have hcz18_8 : w4.cell? ⟨gb260, 8, none⟩ = some (.int .i64 a0_8) := (blk_cell BK260.out 8).trans rfl
      have hfz18_0 := blk_frozen BK260.out 0
      have hfz18_1 := blk_frozen BK260.out 1
      have hfz18_2 := blk_frozen BK260.out 2
      have hfz18_3 := blk_frozen BK260.out 3
      have hfz18_4 := blk_frozen BK260.out 4
      have hfz18_5 := blk_frozen BK260.out 5
      have hfz18_6 := blk_frozen BK260.out 6
      have hfz18_7 := blk_frozen BK260.out 7
      have hfz18_8 := blk_frozen BK260.out 8
      go_wp2_with (first | ((with_reducible refine gate_callee (f := 30) rfl ?_); refine goesL_ (some 10) rfl rfl Tryd.func30 (by kernel_rfl) rfl #[.agg #[.int .i64 a0_0, .int .i64 a0_1, .string a0_2, .slice A0_3 l0_3.length c0_3, .slice A0_4 l0_4.length c0_4]] rfl (by (try simp only [List.map_toArray, List.map_cons, List.map_nil]); first | done | rfl | (simp only [List.length_drop, List.length_take]; rfl)) ?_; (with_reducible refine (munimentref01_Few.calls k a0_0 a0_1 a0_2 _ _ l0_3 _ _ l0_4 false _ ?side1 ?side2 ?side3 ?side4 A5.out).mono ?_); (case side1 => repeat (first | exact (Kd.C_below HR0_3.out HB.out) | (with_reducible refine Kd.C_alloc ?_ _) | (with_reducible refine Kd.C_drewN ?_ _) | (with_reducible refine Kd.C_drew ?_))); (case side2 => exact HC0_3.out); (case side3 => repeat (first | exact (Kd.C_below HR0_4.out HB.out) | (with_reducible refine Kd.C_alloc ?_ _) | (with_reducible refine Kd.C_drewN ?_ _) | (with_reducible refine Kd.C_drew ?_))); (case side4 => exact HC0_4.out); rintro e w19 ⟨rfl, hb⟩; refine ⟨_, rfl, ?_⟩; have n0_ := Aside0.mk (blk_below (g := gb260) (o := .cells #[.int .i64 a0_0, .int .i64 a0_1, .string a0_2, .slice A0_3 l0_3.length c0_3, .slice A0_4 l0_4.length c0_4, .slice A0_5 l0_5.length c0_5, .slice A0_6 l0_6.length c0_6, .int .i64 a0_7, .int .i64 a0_8] 63 (0, 0)) (by (with_reducible repeat (first | refine blk_drewN ?_ _ | refine blk_drew ?_ | refine blk_alloc ?_ _)); exact BK260.out) hb); have n1_ := Aside0.mk (below_step (by repeat (first | (with_reducible first | exact HB.out | apply below_alloc | apply pw_below_drewN | apply below_drew1 | refine below_set ?_ GE260.out) | exact HB.out)) hb); clear BK260; clear HB; have BK260 := n0_; have HB := n1_; clear n0_ n1_; (try clear hb); (try clear hb2); (try clear hk); (try clear hi)))
      go_meet
      case rel => exact ⟨_, (true), (by first | rfl | (simp; done) | (simp [*]; done)), H', ⟨by first | omega | exact Nat.le_refl _⟩, ⟨by (with_reducible repeat (first | refine blk_drewN ?_ _ | refine blk_drew ?_ | refine blk_alloc ?_ _)); exact BK260.out⟩, ⟨by repeat (first | (with_reducible first | exact HB.out | apply below_alloc | apply pw_below_drewN | apply below_drew1 | refine below_set ?_ GE260.out) | exact HB.out)⟩⟩
  case rest =>
    clear HC3
    try clear c1
    try clear p2
    try clear c3
    try clear c4
    try clear c6
    try clear c7
    try clear c7b0
    try clear c7b1
    try clear c11
    try clear c11b0
    try clear c11b1
    try clear hcz10_0
    try clear hcz10_1
    try clear hcz10_2
    try clear hcz10_3
    try clear hcz10_4
    try clear hcz10_5
    try clear hcz10_6
    try clear hcz10_7
    try clear hcz10_8
    try clear hcz12_0
    try clear hcz12_1
    try clear hcz12_2
    try clear hcz12_3
    try clear hcz12_4
    try clear hcz12_5
    try clear hcz12_6
    try clear hcz12_7
    try clear hcz12_8
    try clear hcz14_0
    try clear hcz14_1
    try clear hcz14_2
    try clear hcz14_3
    try clear hcz14_4
    try clear hcz14_5
    try clear hcz14_6
    try clear hcz14_7
    try clear hcz14_8
    try clear hcz15_0
    try clear hcz15_1
    try clear hcz15_2
    try clear hcz15_3
    try clear hcz15_4
    try clear hcz15_5
    try clear hcz15_6
    try clear hcz15_7
    try clear hcz15_8
    try clear hcz17_0
    try clear hcz17_1
    try clear hcz17_2
    try clear hcz17_3
    try clear hcz17_4
    try clear hcz17_5
    try clear hcz17_6
    try clear hcz17_7
    try clear hcz17_8
    try clear hcz18_0
    try clear hcz18_1
    try clear hcz18_2
    try clear hcz18_3
    try clear hcz18_4
    try clear hcz18_5
    try clear hcz18_6
    try clear hcz18_7
    try clear hcz18_8
    try clear hcz8_0
    try clear hcz8_1
    try clear hcz8_2
    try clear hcz8_3
    try clear hcz8_4
    try clear hcz8_5
    try clear hcz8_6
    try clear hcz8_7
    try clear hcz8_8
    try clear hfz10_0
    try clear hfz10_1
    try clear hfz10_2
    try clear hfz10_3
    try clear hfz10_4
    try clear hfz10_5
    try clear hfz10_6
    try clear hfz10_7
    try clear hfz10_8
    try clear hfz12_0
    try clear hfz12_1
    try clear hfz12_2
    try clear hfz12_3
    try clear hfz12_4
    try clear hfz12_5
    try clear hfz12_6
    try clear hfz12_7
    try clear hfz12_8
    try clear hfz14_0
    try clear hfz14_1
    try clear hfz14_2
    try clear hfz14_3
    try clear hfz14_4
    try clear hfz14_5
    try clear hfz14_6
    try clear hfz14_7
    try clear hfz14_8
    try clear hfz15_0
    try clear hfz15_1
    try clear hfz15_2
    try clear hfz15_3
    try clear hfz15_4
    try clear hfz15_5
    try clear hfz15_6
    try clear hfz15_7
    try clear hfz15_8
    try clear hfz17_0
    try clear hfz17_1
    try clear hfz17_2
    try clear hfz17_3
    try clear hfz17_4
    try clear hfz17_5
    try clear hfz17_6
    try clear hfz17_7
    try clear hfz17_8
    try clear hfz18_0
    try clear hfz18_1
    try clear hfz18_2
    try clear hfz18_3
    try clear hfz18_4
    try clear hfz18_5
    try clear hfz18_6
    try clear hfz18_7
    try clear hfz18_8
    try clear hfz8_0
    try clear hfz8_1
    try clear hfz8_2
    try clear hfz8_3
    try clear hfz8_4
    try clear hfz8_5
    try clear hfz8_6
    try clear hfz8_7
    try clear hfz8_8
    obtain ⟨kq, x28_2, rfl, HA, HJ2, BK260, HB⟩ := hcut
    cases kq with
    | zero => exact absurd HA.out (by simp [munimentref16_Few.j0])
    | succ kj2 =>
      have H := HA.out
      clear HA
      simp only [munimentref16_Few.j0] at H
      by_cases c20 : x28_2 = true
      · subst c20
        have H1 : (some false) = some r := by rw [if_pos rfl] at H; exact H
        clear H
        have H := H1
        clear H1
        obtain rfl := Option.some.inj H
        go_wp2
        go_ret
        exact ⟨by first | rfl | (simp [errW_none, errW_some] <;> rfl) | (simp [*, errW_none, errW_some] <;> rfl), by repeat (first | (with_reducible first | exact HB.out | apply below_alloc | apply pw_below_drewN | apply below_drew1 | refine below_set ?_ GE260.out) | exact HB.out)⟩
      · replace c20 := Bool.eq_false_iff.mpr c20
        subst c20
        have H1 : (munimentref16_Few.l0 kj2 l1 0 a0_0 a0_1 a0_2 l0_3 l0_4 l0_5 l0_6 a0_7 a0_8) = some r := by rw [if_neg (show ¬ (false = true) by decide)] at H; exact H
        clear H
        have H := H1
        clear H1
        have H' := Aside0.mk H
        clear H
        go_wp2
        go_loopg [5] kj2 (fun kq v5 w' => ∃ (x5_2 : Int), v5 = .int .i64 x5_2 ∧ Aside0 (munimentref16_Few.l0 kq l1 x5_2 a0_0 a0_1 a0_2 l0_3 l0_4 l0_5 l0_6 a0_7 a0_8 = some r) ∧ Aside0 (kq ≤ kj2) ∧ Aside0 (w'.heap[gb260]? = some (.cells #[.int .i64 a0_0, .int .i64 a0_1, .string a0_2, (.slice A0_3 l0_3.length c0_3), (.slice A0_4 l0_4.length c0_4), (.slice A0_5 l0_5.length c0_5), (.slice A0_6 l0_6.length c0_6), .int .i64 a0_7, .int .i64 a0_8] 63 (0, 0))) ∧ Aside0 (Below w.heap.size w w'))
        case atStart => exact ⟨(0), (by first | rfl | (simp; done) | (simp [*]; done)), H', ⟨Nat.le_refl _⟩, ⟨by (with_reducible repeat (first | refine blk_drewN ?_ _ | refine blk_drew ?_ | refine blk_alloc ?_ _)); exact BK260.out⟩, ⟨by repeat (first | (with_reducible first | exact HB.out | apply below_alloc | apply pw_below_drewN | apply below_drew1 | refine below_set ?_ GE260.out) | exact HB.out)⟩⟩
        case round =>
          clear H'
          try clear c1
          try clear c2
          try clear p2
          try clear c3
          try clear c4
          try clear c6
          try clear c7
          try clear c7b0
          try clear c7b1
          try clear c11
          try clear c11b0
          try clear c11b1
          try clear c20
          try clear hcz10_0
          try clear hcz10_1
          try clear hcz10_2
          try clear hcz10_3
          try clear hcz10_4
          try clear hcz10_5
          try clear hcz10_6
          try clear hcz10_7
          try clear hcz10_8
          try clear hcz12_0
          try clear hcz12_1
          try clear hcz12_2
          try clear hcz12_3
          try clear hcz12_4
          try clear hcz12_5
          try clear hcz12_6
          try clear hcz12_7
          try clear hcz12_8
          try clear hcz14_0
          try clear hcz14_1
          try clear hcz14_2
          try clear hcz14_3
          try clear hcz14_4
          try clear hcz14_5
          try clear hcz14_6
          try clear hcz14_7
          try clear hcz14_8
          try clear hcz15_0
          try clear hcz15_1
          try clear hcz15_2
          try clear hcz15_3
          try clear hcz15_4
          try clear hcz15_5
          try clear hcz15_6
          try clear hcz15_7
          try clear hcz15_8
          try clear hcz17_0
          try clear hcz17_1
          try clear hcz17_2
          try clear hcz17_3
          try clear hcz17_4
          try clear hcz17_5
          try clear hcz17_6
          try clear hcz17_7
          try clear hcz17_8
          try clear hcz18_0
          try clear hcz18_1
          try clear hcz18_2
          try clear hcz18_3
          try clear hcz18_4
          try clear hcz18_5
          try clear hcz18_6
          try clear hcz18_7
          try clear hcz18_8
          try clear hcz8_0
          try clear hcz8_1
          try clear hcz8_2
          try clear hcz8_3
          try clear hcz8_4
          try clear hcz8_5
          try clear hcz8_6
          try clear hcz8_7
          try clear hcz8_8
          try clear hfz10_0
          try clear hfz10_1
          try clear hfz10_2
          try clear hfz10_3
          try clear hfz10_4
          try clear hfz10_5
          try clear hfz10_6
          try clear hfz10_7
          try clear hfz10_8
          try clear hfz12_0
          try clear hfz12_1
          try clear hfz12_2
          try clear hfz12_3
          try clear hfz12_4
          try clear hfz12_5
          try clear hfz12_6
          try clear hfz12_7
          try clear hfz12_8
          try clear hfz14_0
          try clear hfz14_1
          try clear hfz14_2
          try clear hfz14_3
          try clear hfz14_4
          try clear hfz14_5
          try clear hfz14_6
          try clear hfz14_7
          try clear hfz14_8
          try clear hfz15_0
          try clear hfz15_1
          try clear hfz15_2
          try clear hfz15_3
          try clear hfz15_4
          try clear hfz15_5
          try clear hfz15_6
          try clear hfz15_7
          try clear hfz15_8
          try clear hfz17_0
          try clear hfz17_1
          try clear hfz17_2
          try clear hfz17_3
          try clear hfz17_4
          try clear hfz17_5
          try clear hfz17_6
          try clear hfz17_7
          try clear hfz17_8
          try clear hfz18_0
          try clear hfz18_1
          try clear hfz18_2
          try clear hfz18_3
          try clear hfz18_4
          try clear hfz18_5
          try clear hfz18_6
          try clear hfz18_7
          try clear hfz18_8
          try clear hfz8_0
          try clear hfz8_1
          try clear hfz8_2
          try clear hfz8_3
          try clear hfz8_4
          try clear hfz8_5
          try clear hfz8_6
          try clear hfz8_7
          try clear hfz8_8
          try clear p2
          obtain ⟨x5_2, rfl, HA, HK2, BK260, HB⟩ := hrel
          cases gk with
          | zero => exact absurd HA.out (by simp [munimentref16_Few.l0])
          | succ k2 =>
            have H := HA.out
            clear HA
            simp only [munimentref16_Few.l0] at H
            by_cases c21 : x5_2 < (l0_5.length : Int)
            · rw [if_pos c21] at H
              have c21b0 : decide (x5_2 < (l0_5.length : Int)) = true := decide_eq_true c21
              clear c21
              by_cases c22 : 0 ≤ x5_2
              · rw [if_pos c22] at H
                have c22b0 : decide (0 ≤ x5_2) = true := decide_eq_true c22
                clear c22
                by_cases c23 : (((rd_T83 l0_5 x5_2).f0).size : Int) > 1000
                · rw [if_pos c23] at H
                  have c23b0 : decide (1000 < (((rd_T83 l0_5 x5_2).f0).size : Int)) = true := decide_eq_true c23
                  have c23b1 : decide (1000 < ((rd_T83 l0_5 x5_2).f0).size) = true := decide_eq_true (by omega)
                  clear c23
                  obtain rfl := Option.some.inj H
                  have hcz24_0 : wr.cell? ⟨gb260, 0, none⟩ = some (.int .i64 a0_0) := (blk_cell BK260.out 0).trans rfl
                  have hcz24_1 : wr.cell? ⟨gb260, 1, none⟩ = some (.int .i64 a0_1) := (blk_cell BK260.out 1).trans rfl
                  have hcz24_2 : wr.cell? ⟨gb260, 2, none⟩ = some (.string a0_2) := (blk_cell BK260.out 2).trans rfl
                  have hcz24_3 : wr.cell? ⟨gb260, 3, none⟩ = some (.slice A0_3 l0_3.length c0_3) := (blk_cell BK260.out 3).trans rfl
                  have hcz24_4 : wr.cell? ⟨gb260, 4, none⟩ = some (.slice A0_4 l0_4.length c0_4) := (blk_cell BK260.out 4).trans rfl
                  have hcz24_5 : wr.cell? ⟨gb260, 5, none⟩ = some (.slice A0_5 l0_5.length c0_5) := (blk_cell BK260.out 5).trans rfl
                  have hcz24_6 : wr.cell? ⟨gb260, 6, none⟩ = some (.slice A0_6 l0_6.length c0_6) := (blk_cell BK260.out 6).trans rfl
                  have hcz24_7 : wr.cell? ⟨gb260, 7, none⟩ = some (.int .i64 a0_7) := (blk_cell BK260.out 7).trans rfl
                  have hcz24_8 : wr.cell? ⟨gb260, 8, none⟩ = some (.int .i64 a0_8) := (blk_cell BK260.out 8).trans rfl
                  have hfz24_0 := blk_frozen BK260.out 0
                  have hfz24_1 := blk_frozen BK260.out 1
                  have hfz24_2 := blk_frozen BK260.out 2
                  have hfz24_3 := blk_frozen BK260.out 3
                  have hfz24_4 := blk_frozen BK260.out 4
                  have hfz24_5 := blk_frozen BK260.out 5
                  have hfz24_6 := blk_frozen BK260.out 6
                  have hfz24_7 := blk_frozen BK260.out 7
                  have hfz24_8 := blk_frozen BK260.out 8
                  have p262 : 0 ≤ (x5_2 : Int) := of_decide_eq_true (by first | (with_reducible assumption) | assumption)
                  have q262 : x5_2 < (l0_5.length : Int) := of_decide_eq_true (by first | (with_reducible assumption) | assumption)
                  obtain ⟨ad262, e262, hx262_0, hx262_1⟩ := at_T83 HR0_5.out x5_2 p262 q262
                  cases e262
                  replace hx262_0 := (HB.out.cell (World.block_lt_of_cell? w _ hx262_0)).trans hx262_0
                  replace hx262_1 := (HB.out.cell (World.block_lt_of_cell? w _ hx262_1)).trans hx262_1
                  replace p262 := eq_true p262
                  replace q262 := eq_true q262
                  go_wp2
                  go_ret
                  exact ⟨by first | rfl | (simp [errW_none, errW_some] <;> rfl) | (simp [*, errW_none, errW_some] <;> rfl), by repeat (first | (with_reducible first | exact HB.out | apply below_alloc | apply pw_below_drewN | apply below_drew1 | refine below_set ?_ GE260.out) | exact HB.out)⟩
                · rw [if_neg c23] at H
                  have c23b0 : decide (1000 < (((rd_T83 l0_5 x5_2).f0).size : Int)) = false := decide_eq_false c23
                  have c23b1 : decide (1000 < ((rd_T83 l0_5 x5_2).f0).size) = false := decide_eq_false (by omega)
                  clear c23
                  have H' := Aside0.mk H
                  clear H
                  have hcz25_0 : wr.cell? ⟨gb260, 0, none⟩ = some (.int .i64 a0_0) := (blk_cell BK260.out 0).trans rfl
                  have hcz25_1 : wr.cell? ⟨gb260, 1, none⟩ = some (.int .i64 a0_1) := (blk_cell BK260.out 1).trans rfl
                  have hcz25_2 : wr.cell? ⟨gb260, 2, none⟩ = some (.string a0_2) := (blk_cell BK260.out 2).trans rfl
                  have hcz25_3 : wr.cell? ⟨gb260, 3, none⟩ = some (.slice A0_3 l0_3.length c0_3) := (blk_cell BK260.out 3).trans rfl
                  have hcz25_4 : wr.cell? ⟨gb260, 4, none⟩ = some (.slice A0_4 l0_4.length c0_4) := (blk_cell BK260.out 4).trans rfl
                  have hcz25_5 : wr.cell? ⟨gb260, 5, none⟩ = some (.slice A0_5 l0_5.length c0_5) := (blk_cell BK260.out 5).trans rfl
                  have hcz25_6 : wr.cell? ⟨gb260, 6, none⟩ = some (.slice A0_6 l0_6.length c0_6) := (blk_cell BK260.out 6).trans rfl
                  have hcz25_7 : wr.cell? ⟨gb260, 7, none⟩ = some (.int .i64 a0_7) := (blk_cell BK260.out 7).trans rfl
                  have hcz25_8 : wr.cell? ⟨gb260, 8, none⟩ = some (.int .i64 a0_8) := (blk_cell BK260.out 8).trans rfl
                  have hfz25_0 := blk_frozen BK260.out 0
                  have hfz25_1 := blk_frozen BK260.out 1
                  have hfz25_2 := blk_frozen BK260.out 2
                  have hfz25_3 := blk_frozen BK260.out 3
                  have hfz25_4 := blk_frozen BK260.out 4
                  have hfz25_5 := blk_frozen BK260.out 5
                  have hfz25_6 := blk_frozen BK260.out 6
                  have hfz25_7 := blk_frozen BK260.out 7
                  have hfz25_8 := blk_frozen BK260.out 8
                  have p262 : 0 ≤ (x5_2 : Int) := of_decide_eq_true (by first | (with_reducible assumption) | assumption)
                  have q262 : x5_2 < (l0_5.length : Int) := of_decide_eq_true (by first | (with_reducible assumption) | assumption)
                  obtain ⟨ad262, e262, hx262_0, hx262_1⟩ := at_T83 HR0_5.out x5_2 p262 q262
                  cases e262
                  replace hx262_0 := (HB.out.cell (World.block_lt_of_cell? w _ hx262_0)).trans hx262_0
                  replace hx262_1 := (HB.out.cell (World.block_lt_of_cell? w _ hx262_1)).trans hx262_1
                  replace p262 := eq_true p262
                  replace q262 := eq_true q262
                  go_wp2
                  go_roundg k2
                  case measure => have := HJ2.out; have := HK2.out; omega
                  case rel => exact ⟨(wrap64 (x5_2 + 1)), (by first | rfl | (simp; done) | (simp [*]; done)), H', ⟨by have := HJ2.out; have := HK2.out; omega⟩, ⟨by (with_reducible repeat (first | refine blk_drewN ?_ _ | refine blk_drew ?_ | refine blk_alloc ?_ _)); exact BK260.out⟩, ⟨by repeat (first | (with_reducible first | exact HB.out | apply below_alloc | apply pw_below_drewN | apply below_drew1 | refine below_set ?_ GE260.out) | exact HB.out)⟩⟩
              · rw [if_neg c22] at H
                exact absurd H (by simp)
            · rw [if_neg c21] at H
              have c21b0 : decide (x5_2 < (l0_5.length : Int)) = false := decide_eq_false c21
              clear c21
              have H' := Aside0.mk H
              clear H
              have hcz26_0 : wr.cell? ⟨gb260, 0, none⟩ = some (.int .i64 a0_0) := (blk_cell BK260.out 0).trans rfl
              have hcz26_1 : wr.cell? ⟨gb260, 1, none⟩ = some (.int .i64 a0_1) := (blk_cell BK260.out 1).trans rfl
              have hcz26_2 : wr.cell? ⟨gb260, 2, none⟩ = some (.string a0_2) := (blk_cell BK260.out 2).trans rfl
              have hcz26_3 : wr.cell? ⟨gb260, 3, none⟩ = some (.slice A0_3 l0_3.length c0_3) := (blk_cell BK260.out 3).trans rfl
              have hcz26_4 : wr.cell? ⟨gb260, 4, none⟩ = some (.slice A0_4 l0_4.length c0_4) := (blk_cell BK260.out 4).trans rfl
              have hcz26_5 : wr.cell? ⟨gb260, 5, none⟩ = some (.slice A0_5 l0_5.length c0_5) := (blk_cell BK260.out 5).trans rfl
              have hcz26_6 : wr.cell? ⟨gb260, 6, none⟩ = some (.slice A0_6 l0_6.length c0_6) := (blk_cell BK260.out 6).trans rfl
              have hcz26_7 : wr.cell? ⟨gb260, 7, none⟩ = some (.int .i64 a0_7) := (blk_cell BK260.out 7).trans rfl
              have hcz26_8 : wr.cell? ⟨gb260, 8, none⟩ = some (.int .i64 a0_8) := (blk_cell BK260.out 8).trans rfl
              have hfz26_0 := blk_frozen BK260.out 0
              have hfz26_1 := blk_frozen BK260.out 1
              have hfz26_2 := blk_frozen BK260.out 2
              have hfz26_3 := blk_frozen BK260.out 3
              have hfz26_4 := blk_frozen BK260.out 4
              have hfz26_5 := blk_frozen BK260.out 5
              have hfz26_6 := blk_frozen BK260.out 6
              have hfz26_7 := blk_frozen BK260.out 7
              have hfz26_8 := blk_frozen BK260.out 8
              go_wp2
              go_loopg [6] k2 (fun kq v6 w' => ∃ (x6_3 : Int), v6 = .int .i64 x6_3 ∧ Aside0 (munimentref16_Few.l1 kq l1 x6_3 a0_0 a0_1 a0_2 l0_3 l0_4 l0_5 l0_6 a0_7 a0_8 = some r) ∧ Aside0 (kq ≤ k2) ∧ Aside0 (w'.heap[gb260]? = some (.cells #[.int .i64 a0_0, .int .i64 a0_1, .string a0_2, (.slice A0_3 l0_3.length c0_3), (.slice A0_4 l0_4.length c0_4), (.slice A0_5 l0_5.length c0_5), (.slice A0_6 l0_6.length c0_6), .int .i64 a0_7, .int .i64 a0_8] 63 (0, 0))) ∧ Aside0 (Below w.heap.size w w'))
              case atStart => exact ⟨(0), (by first | rfl | (simp; done) | (simp [*]; done)), H', ⟨Nat.le_refl _⟩, ⟨by (with_reducible repeat (first | refine blk_drewN ?_ _ | refine blk_drew ?_ | refine blk_alloc ?_ _)); exact BK260.out⟩, ⟨by repeat (first | (with_reducible first | exact HB.out | apply below_alloc | apply pw_below_drewN | apply below_drew1 | refine below_set ?_ GE260.out) | exact HB.out)⟩⟩
              case round =>
                clear H'
                try clear c1
                try clear c2
                try clear p2
                try clear q2
                try clear hx2
                try clear c3
                try clear c4
                try clear c6
                try clear p6
                try clear c7
                try clear c7b0
                try clear c7b1
                try clear c11
                try clear c11b0
                try clear c11b1
                try clear c20
                try clear c21
                try clear c21b0
                try clear c22
                try clear c22b0
                try clear c23
                try clear c23b0
                try clear c23b1
                try clear p26
                try clear q26
                try clear hx26
                try clear hcz10_0
                try clear hcz10_1
                try clear hcz10_2
                try clear hcz10_3
                try clear hcz10_4
                try clear hcz10_5
                try clear hcz10_6
                try clear hcz10_7
                try clear hcz10_8
                try clear hcz12_0
                try clear hcz12_1
                try clear hcz12_2
                try clear hcz12_3
                try clear hcz12_4
                try clear hcz12_5
                try clear hcz12_6
                try clear hcz12_7
                try clear hcz12_8
                try clear hcz14_0
                try clear hcz14_1
                try clear hcz14_2
                try clear hcz14_3
                try clear hcz14_4
                try clear hcz14_5
                try clear hcz14_6
                try clear hcz14_7
                try clear hcz14_8
                try clear hcz15_0
                try clear hcz15_1
                try clear hcz15_2
                try clear hcz15_3
                try clear hcz15_4
                try clear hcz15_5
                try clear hcz15_6
                try clear hcz15_7
                try clear hcz15_8
                try clear hcz17_0
                try clear hcz17_1
                try clear hcz17_2
                try clear hcz17_3
                try clear hcz17_4
                try clear hcz17_5
                try clear hcz17_6
                try clear hcz17_7
                try clear hcz17_8
                try clear hcz18_0
                try clear hcz18_1
                try clear hcz18_2
                try clear hcz18_3
                try clear hcz18_4
                try clear hcz18_5
                try clear hcz18_6
                try clear hcz18_7
                try clear hcz18_8
                try clear hcz24_0
                try clear hcz24_1
                try clear hcz24_2
                try clear hcz24_3
                try clear hcz24_4
                try clear hcz24_5
                try clear hcz24_6
                try clear hcz24_7
                try clear hcz24_8
                try clear hcz25_0
                try clear hcz25_1
                try clear hcz25_2
                try clear hcz25_3
                try clear hcz25_4
                try clear hcz25_5
                try clear hcz25_6
                try clear hcz25_7
                try clear hcz25_8
                try clear hcz26_0
                try clear hcz26_1
                try clear hcz26_2
                try clear hcz26_3
                try clear hcz26_4
                try clear hcz26_5
                try clear hcz26_6
                try clear hcz26_7
                try clear hcz26_8
                try clear hcz8_0
                try clear hcz8_1
                try clear hcz8_2
                try clear hcz8_3
                try clear hcz8_4
                try clear hcz8_5
                try clear hcz8_6
                try clear hcz8_7
                try clear hcz8_8
                try clear hfz10_0
                try clear hfz10_1
                try clear hfz10_2
                try clear hfz10_3
                try clear hfz10_4
                try clear hfz10_5
                try clear hfz10_6
                try clear hfz10_7
                try clear hfz10_8
                try clear hfz12_0
                try clear hfz12_1
                try clear hfz12_2
                try clear hfz12_3
                try clear hfz12_4
                try clear hfz12_5
                try clear hfz12_6
                try clear hfz12_7
                try clear hfz12_8
                try clear hfz14_0
                try clear hfz14_1
                try clear hfz14_2
                try clear hfz14_3
                try clear hfz14_4
                try clear hfz14_5
                try clear hfz14_6
                try clear hfz14_7
                try clear hfz14_8
                try clear hfz15_0
                try clear hfz15_1
                try clear hfz15_2
                try clear hfz15_3
                try clear hfz15_4
                try clear hfz15_5
                try clear hfz15_6
                try clear hfz15_7
                try clear hfz15_8
                try clear hfz17_0
                try clear hfz17_1
                try clear hfz17_2
                try clear hfz17_3
                try clear hfz17_4
                try clear hfz17_5
                try clear hfz17_6
                try clear hfz17_7
                try clear hfz17_8
                try clear hfz18_0
                try clear hfz18_1
                try clear hfz18_2
                try clear hfz18_3
                try clear hfz18_4
                try clear hfz18_5
                try clear hfz18_6
                try clear hfz18_7
                try clear hfz18_8
                try clear hfz24_0
                try clear hfz24_1
                try clear hfz24_2
                try clear hfz24_3
                try clear hfz24_4
                try clear hfz24_5
                try clear hfz24_6
                try clear hfz24_7
                try clear hfz24_8
                try clear hfz25_0
                try clear hfz25_1
                try clear hfz25_2
                try clear hfz25_3
                try clear hfz25_4
                try clear hfz25_5
                try clear hfz25_6
                try clear hfz25_7
                try clear hfz25_8
                try clear hfz26_0
                try clear hfz26_1
                try clear hfz26_2
                try clear hfz26_3
                try clear hfz26_4
                try clear hfz26_5
                try clear hfz26_6
                try clear hfz26_7
                try clear hfz26_8
                try clear hfz8_0
                try clear hfz8_1
                try clear hfz8_2
                try clear hfz8_3
                try clear hfz8_4
                try clear hfz8_5
                try clear hfz8_6
                try clear hfz8_7
                try clear hfz8_8
                try clear hx262_0
                try clear hx262_1
                try clear p2
                try clear p262
                try clear q262
                obtain ⟨x6_3, rfl, HA, HK3, BK260, HB⟩ := hrel
                cases gk with
                | zero => exact absurd HA.out (by simp [munimentref16_Few.l1])
                | succ k3 =>
                  have H := HA.out
                  clear HA
                  simp only [munimentref16_Few.l1] at H
                  by_cases c27 : x6_3 < (l0_6.length : Int)
                  · rw [if_pos c27] at H
                    have c27b0 : decide (x6_3 < (l0_6.length : Int)) = true := decide_eq_true c27
                    clear c27
                    by_cases c28 : 0 ≤ x6_3
                    · rw [if_pos c28] at H
                      have c28b0 : decide (0 ≤ x6_3) = true := decide_eq_true c28
                      clear c28
                      by_cases c29 : ((rdOf ByteArray.empty l0_6 x6_3).size : Int) > 1000
                      · rw [if_pos c29] at H
                        have c29b0 : decide (1000 < ((rdOf ByteArray.empty l0_6 x6_3).size : Int)) = true := decide_eq_true c29
                        have c29b1 : decide (1000 < (rdOf ByteArray.empty l0_6 x6_3).size) = true := decide_eq_true (by omega)
                        clear c29
                        obtain rfl := Option.some.inj H
                        have hcz30_0 : wr.cell? ⟨gb260, 0, none⟩ = some (.int .i64 a0_0) := (blk_cell BK260.out 0).trans rfl
                        have hcz30_1 : wr.cell? ⟨gb260, 1, none⟩ = some (.int .i64 a0_1) := (blk_cell BK260.out 1).trans rfl
                        have hcz30_2 : wr.cell? ⟨gb260, 2, none⟩ = some (.string a0_2) := (blk_cell BK260.out 2).trans rfl
                        have hcz30_3 : wr.cell? ⟨gb260, 3, none⟩ = some (.slice A0_3 l0_3.length c0_3) := (blk_cell BK260.out 3).trans rfl
                        have hcz30_4 : wr.cell? ⟨gb260, 4, none⟩ = some (.slice A0_4 l0_4.length c0_4) := (blk_cell BK260.out 4).trans rfl
                        have hcz30_5 : wr.cell? ⟨gb260, 5, none⟩ = some (.slice A0_5 l0_5.length c0_5) := (blk_cell BK260.out 5).trans rfl
                        have hcz30_6 : wr.cell? ⟨gb260, 6, none⟩ = some (.slice A0_6 l0_6.length c0_6) := (blk_cell BK260.out 6).trans rfl
                        have hcz30_7 : wr.cell? ⟨gb260, 7, none⟩ = some (.int .i64 a0_7) := (blk_cell BK260.out 7).trans rfl
                        have hcz30_8 : wr.cell? ⟨gb260, 8, none⟩ = some (.int .i64 a0_8) := (blk_cell BK260.out 8).trans rfl
                        have hfz30_0 := blk_frozen BK260.out 0
                        have hfz30_1 := blk_frozen BK260.out 1
                        have hfz30_2 := blk_frozen BK260.out 2
                        have hfz30_3 := blk_frozen BK260.out 3
                        have hfz30_4 := blk_frozen BK260.out 4
                        have hfz30_5 := blk_frozen BK260.out 5
                        have hfz30_6 := blk_frozen BK260.out 6
                        have hfz30_7 := blk_frozen BK260.out 7
                        have hfz30_8 := blk_frozen BK260.out 8
                        have p263 : 0 ≤ (x6_3 : Int) := of_decide_eq_true (by first | (with_reducible assumption) | assumption)
                        have q263 : x6_3 < (l0_6.length : Int) := of_decide_eq_true (by first | (with_reducible assumption) | assumption)
                        obtain ⟨ad263, e263, hx263_0⟩ := Kd.at_string HR0_6.out x6_3 p263 q263
                        cases e263
                        replace hx263_0 := (HB.out.cell (World.block_lt_of_cell? w _ hx263_0)).trans hx263_0
                        replace p263 := eq_true p263
                        replace q263 := eq_true q263
                        go_wp2
                        go_ret
                        exact ⟨by first | rfl | (simp [errW_none, errW_some] <;> rfl) | (simp [*, errW_none, errW_some] <;> rfl), by repeat (first | (with_reducible first | exact HB.out | apply below_alloc | apply pw_below_drewN | apply below_drew1 | refine below_set ?_ GE260.out) | exact HB.out)⟩
                      · rw [if_neg c29] at H
                        have c29b0 : decide (1000 < ((rdOf ByteArray.empty l0_6 x6_3).size : Int)) = false := decide_eq_false c29
                        have c29b1 : decide (1000 < (rdOf ByteArray.empty l0_6 x6_3).size) = false := decide_eq_false (by omega)
                        clear c29
                        have H' := Aside0.mk H
                        clear H
                        have hcz31_0 : wr.cell? ⟨gb260, 0, none⟩ = some (.int .i64 a0_0) := (blk_cell BK260.out 0).trans rfl
                        have hcz31_1 : wr.cell? ⟨gb260, 1, none⟩ = some (.int .i64 a0_1) := (blk_cell BK260.out 1).trans rfl
                        have hcz31_2 : wr.cell? ⟨gb260, 2, none⟩ = some (.string a0_2) := (blk_cell BK260.out 2).trans rfl
                        have hcz31_3 : wr.cell? ⟨gb260, 3, none⟩ = some (.slice A0_3 l0_3.length c0_3) := (blk_cell BK260.out 3).trans rfl
                        have hcz31_4 : wr.cell? ⟨gb260, 4, none⟩ = some (.slice A0_4 l0_4.length c0_4) := (blk_cell BK260.out 4).trans rfl
                        have hcz31_5 : wr.cell? ⟨gb260, 5, none⟩ = some (.slice A0_5 l0_5.length c0_5) := (blk_cell BK260.out 5).trans rfl
                        have hcz31_6 : wr.cell? ⟨gb260, 6, none⟩ = some (.slice A0_6 l0_6.length c0_6) := (blk_cell BK260.out 6).trans rfl
                        have hcz31_7 : wr.cell? ⟨gb260, 7, none⟩ = some (.int .i64 a0_7) := (blk_cell BK260.out 7).trans rfl
                        have hcz31_8 : wr.cell? ⟨gb260, 8, none⟩ = some (.int .i64 a0_8) := (blk_cell BK260.out 8).trans rfl
                        have hfz31_0 := blk_frozen BK260.out 0
                        have hfz31_1 := blk_frozen BK260.out 1
                        have hfz31_2 := blk_frozen BK260.out 2
                        have hfz31_3 := blk_frozen BK260.out 3
                        have hfz31_4 := blk_frozen BK260.out 4
                        have hfz31_5 := blk_frozen BK260.out 5
                        have hfz31_6 := blk_frozen BK260.out 6
                        have hfz31_7 := blk_frozen BK260.out 7
                        have hfz31_8 := blk_frozen BK260.out 8
                        have p263 : 0 ≤ (x6_3 : Int) := of_decide_eq_true (by first | (with_reducible assumption) | assumption)
                        have q263 : x6_3 < (l0_6.length : Int) := of_decide_eq_true (by first | (with_reducible assumption) | assumption)
                        obtain ⟨ad263, e263, hx263_0⟩ := Kd.at_string HR0_6.out x6_3 p263 q263
                        cases e263
                        replace hx263_0 := (HB.out.cell (World.block_lt_of_cell? w _ hx263_0)).trans hx263_0
                        replace p263 := eq_true p263
                        replace q263 := eq_true q263
                        go_wp2
                        go_roundg k3
                        case measure => have := HJ2.out; have := HK2.out; have := HK3.out; omega
                        case rel => exact ⟨(wrap64 (x6_3 + 1)), (by first | rfl | (simp; done) | (simp [*]; done)), H', ⟨by have := HJ2.out; have := HK2.out; have := HK3.out; omega⟩, ⟨by (with_reducible repeat (first | refine blk_drewN ?_ _ | refine blk_drew ?_ | refine blk_alloc ?_ _)); exact BK260.out⟩, ⟨by repeat (first | (with_reducible first | exact HB.out | apply below_alloc | apply pw_below_drewN | apply below_drew1 | refine below_set ?_ GE260.out) | exact HB.out)⟩⟩
                    · rw [if_neg c28] at H
                      exact absurd H (by simp)
                  · rw [if_neg c27] at H
                    have c27b0 : decide (x6_3 < (l0_6.length : Int)) = false := decide_eq_false c27
                    clear c27
                    have H' := Aside0.mk H
                    clear H
                    have hcz32_0 : wr.cell? ⟨gb260, 0, none⟩ = some (.int .i64 a0_0) := (blk_cell BK260.out 0).trans rfl
                    have hcz32_1 : wr.cell? ⟨gb260, 1, none⟩ = some (.int .i64 a0_1) := (blk_cell BK260.out 1).trans rfl
                    have hcz32_2 : wr.cell? ⟨gb260, 2, none⟩ = some (.string a0_2) := (blk_cell BK260.out 2).trans rfl
                    have hcz32_3 : wr.cell? ⟨gb260, 3, none⟩ = some (.slice A0_3 l0_3.length c0_3) := (blk_cell BK260.out 3).trans rfl
                    have hcz32_4 : wr.cell? ⟨gb260, 4, none⟩ = some (.slice A0_4 l0_4.length c0_4) := (blk_cell BK260.out 4).trans rfl
                    have hcz32_5 : wr.cell? ⟨gb260, 5, none⟩ = some (.slice A0_5 l0_5.length c0_5) := (blk_cell BK260.out 5).trans rfl
                    have hcz32_6 : wr.cell? ⟨gb260, 6, none⟩ = some (.slice A0_6 l0_6.length c0_6) := (blk_cell BK260.out 6).trans rfl
                    have hcz32_7 : wr.cell? ⟨gb260, 7, none⟩ = some (.int .i64 a0_7) := (blk_cell BK260.out 7).trans rfl
                    have hcz32_8 : wr.cell? ⟨gb260, 8, none⟩ = some (.int .i64 a0_8) := (blk_cell BK260.out 8).trans rfl
                    have hfz32_0 := blk_frozen BK260.out 0
                    have hfz32_1 := blk_frozen BK260.out 1
                    have hfz32_2 := blk_frozen BK260.out 2
                    have hfz32_3 := blk_frozen BK260.out 3
                    have hfz32_4 := blk_frozen BK260.out 4
                    have hfz32_5 := blk_frozen BK260.out 5
                    have hfz32_6 := blk_frozen BK260.out 6
                    have hfz32_7 := blk_frozen BK260.out 7
                    have hfz32_8 := blk_frozen BK260.out 8
                    go_wp2
                    go_loopg [7] k3 (fun kq v7 w' => ∃ (x7_4 : Int), v7 = .int .i64 x7_4 ∧ Aside0 (munimentref16_Few.l2 kq l1 x7_4 = some r) ∧ Aside0 (kq ≤ k3) ∧ Aside0 (w'.heap[gb260]? = some (.cells #[.int .i64 a0_0, .int .i64 a0_1, .string a0_2, (.slice A0_3 l0_3.length c0_3), (.slice A0_4 l0_4.length c0_4), (.slice A0_5 l0_5.length c0_5), (.slice A0_6 l0_6.length c0_6), .int .i64 a0_7, .int .i64 a0_8] 63 (0, 0))) ∧ Aside0 (Below w.heap.size w w'))
                    case atStart => exact ⟨(0), (by first | rfl | (simp; done) | (simp [*]; done)), H', ⟨Nat.le_refl _⟩, ⟨by (with_reducible repeat (first | refine blk_drewN ?_ _ | refine blk_drew ?_ | refine blk_alloc ?_ _)); exact BK260.out⟩, ⟨by repeat (first | (with_reducible first | exact HB.out | apply below_alloc | apply pw_below_drewN | apply below_drew1 | refine below_set ?_ GE260.out) | exact HB.out)⟩⟩
                    case round =>
                      clear H'
                      try clear c1
                      try clear c2
                      try clear p2
                      try clear q2
                      try clear hx2
                      try clear c3
                      try clear c4
                      try clear c6
                      try clear p6
                      try clear c7
                      try clear c7b0
                      try clear c7b1
                      try clear c11
                      try clear c11b0
                      try clear c11b1
                      try clear c20
                      try clear c21
                      try clear c21b0
                      try clear c22
                      try clear c22b0
                      try clear c23
                      try clear c23b0
                      try clear c23b1
                      try clear p26
                      try clear q26
                      try clear hx26
                      try clear c27
                      try clear c27b0
                      try clear c28
                      try clear c28b0
                      try clear c29
                      try clear c29b0
                      try clear c29b1
                      try clear hcz10_0
                      try clear hcz10_1
                      try clear hcz10_2
                      try clear hcz10_3
                      try clear hcz10_4
                      try clear hcz10_5
                      try clear hcz10_6
                      try clear hcz10_7
                      try clear hcz10_8
                      try clear hcz12_0
                      try clear hcz12_1
                      try clear hcz12_2
                      try clear hcz12_3
                      try clear hcz12_4
                      try clear hcz12_5
                      try clear hcz12_6
                      try clear hcz12_7
                      try clear hcz12_8
                      try clear hcz14_0
                      try clear hcz14_1
                      try clear hcz14_2
                      try clear hcz14_3
                      try clear hcz14_4
                      try clear hcz14_5
                      try clear hcz14_6
                      try clear hcz14_7
                      try clear hcz14_8
                      try clear hcz15_0
                      try clear hcz15_1
                      try clear hcz15_2
                      try clear hcz15_3
                      try clear hcz15_4
                      try clear hcz15_5
                      try clear hcz15_6
                      try clear hcz15_7
                      try clear hcz15_8
                      try clear hcz17_0
                      try clear hcz17_1
                      try clear hcz17_2
                      try clear hcz17_3
                      try clear hcz17_4
                      try clear hcz17_5
                      try clear hcz17_6
                      try clear hcz17_7
                      try clear hcz17_8
                      try clear hcz18_0
                      try clear hcz18_1
                      try clear hcz18_2
                      try clear hcz18_3
                      try clear hcz18_4
                      try clear hcz18_5
                      try clear hcz18_6
                      try clear hcz18_7
                      try clear hcz18_8
                      try clear hcz24_0
                      try clear hcz24_1
                      try clear hcz24_2
                      try clear hcz24_3
                      try clear hcz24_4
                      try clear hcz24_5
                      try clear hcz24_6
                      try clear hcz24_7
                      try clear hcz24_8
                      try clear hcz25_0
                      try clear hcz25_1
                      try clear hcz25_2
                      try clear hcz25_3
                      try clear hcz25_4
                      try clear hcz25_5
                      try clear hcz25_6
                      try clear hcz25_7
                      try clear hcz25_8
                      try clear hcz26_0
                      try clear hcz26_1
                      try clear hcz26_2
                      try clear hcz26_3
                      try clear hcz26_4
                      try clear hcz26_5
                      try clear hcz26_6
                      try clear hcz26_7
                      try clear hcz26_8
                      try clear hcz30_0
                      try clear hcz30_1
                      try clear hcz30_2
                      try clear hcz30_3
                      try clear hcz30_4
                      try clear hcz30_5
                      try clear hcz30_6
                      try clear hcz30_7
                      try clear hcz30_8
                      try clear hcz31_0
                      try clear hcz31_1
                      try clear hcz31_2
                      try clear hcz31_3
                      try clear hcz31_4
                      try clear hcz31_5
                      try clear hcz31_6
                      try clear hcz31_7
                      try clear hcz31_8
                      try clear hcz32_0
                      try clear hcz32_1
                      try clear hcz32_2
                      try clear hcz32_3
                      try clear hcz32_4
                      try clear hcz32_5
                      try clear hcz32_6
                      try clear hcz32_7
                      try clear hcz32_8
                      try clear hcz8_0
                      try clear hcz8_1
                      try clear hcz8_2
                      try clear hcz8_3
                      try clear hcz8_4
                      try clear hcz8_5
                      try clear hcz8_6
                      try clear hcz8_7
                      try clear hcz8_8
                      try clear hfz10_0
                      try clear hfz10_1
                      try clear hfz10_2
                      try clear hfz10_3
                      try clear hfz10_4
                      try clear hfz10_5
                      try clear hfz10_6
                      try clear hfz10_7
                      try clear hfz10_8
                      try clear hfz12_0
                      try clear hfz12_1
                      try clear hfz12_2
                      try clear hfz12_3
                      try clear hfz12_4
                      try clear hfz12_5
                      try clear hfz12_6
                      try clear hfz12_7
                      try clear hfz12_8
                      try clear hfz14_0
                      try clear hfz14_1
                      try clear hfz14_2
                      try clear hfz14_3
                      try clear hfz14_4
                      try clear hfz14_5
                      try clear hfz14_6
                      try clear hfz14_7
                      try clear hfz14_8
                      try clear hfz15_0
                      try clear hfz15_1
                      try clear hfz15_2
                      try clear hfz15_3
                      try clear hfz15_4
                      try clear hfz15_5
                      try clear hfz15_6
                      try clear hfz15_7
                      try clear hfz15_8
                      try clear hfz17_0
                      try clear hfz17_1
                      try clear hfz17_2
                      try clear hfz17_3
                      try clear hfz17_4
                      try clear hfz17_5
                      try clear hfz17_6
                      try clear hfz17_7
                      try clear hfz17_8
                      try clear hfz18_0
                      try clear hfz18_1
                      try clear hfz18_2
                      try clear hfz18_3
                      try clear hfz18_4
                      try clear hfz18_5
                      try clear hfz18_6
                      try clear hfz18_7
                      try clear hfz18_8
                      try clear hfz24_0
                      try clear hfz24_1
                      try clear hfz24_2
                      try clear hfz24_3
                      try clear hfz24_4
                      try clear hfz24_5
                      try clear hfz24_6
                      try clear hfz24_7
                      try clear hfz24_8
                      try clear hfz25_0
                      try clear hfz25_1
                      try clear hfz25_2
                      try clear hfz25_3
                      try clear hfz25_4
                      try clear hfz25_5
                      try clear hfz25_6
                      try clear hfz25_7
                      try clear hfz25_8
                      try clear hfz26_0
                      try clear hfz26_1
                      try clear hfz26_2
                      try clear hfz26_3
                      try clear hfz26_4
                      try clear hfz26_5
                      try clear hfz26_6
                      try clear hfz26_7
                      try clear hfz26_8
                      try clear hfz30_0
                      try clear hfz30_1
                      try clear hfz30_2
                      try clear hfz30_3
                      try clear hfz30_4
                      try clear hfz30_5
                      try clear hfz30_6
                      try clear hfz30_7
                      try clear hfz30_8
                      try clear hfz31_0
                      try clear hfz31_1
                      try clear hfz31_2
                      try clear hfz31_3
                      try clear hfz31_4
                      try clear hfz31_5
                      try clear hfz31_6
                      try clear hfz31_7
                      try clear hfz31_8
                      try clear hfz32_0
                      try clear hfz32_1
                      try clear hfz32_2
                      try clear hfz32_3
                      try clear hfz32_4
                      try clear hfz32_5
                      try clear hfz32_6
                      try clear hfz32_7
                      try clear hfz32_8
                      try clear hfz8_0
                      try clear hfz8_1
                      try clear hfz8_2
                      try clear hfz8_3
                      try clear hfz8_4
                      try clear hfz8_5
                      try clear hfz8_6
                      try clear hfz8_7
                      try clear hfz8_8
                      try clear hx262_0
                      try clear hx262_1
                      try clear hx263_0
                      try clear p2
                      try clear p26
                      try clear p262
                      try clear p263
                      try clear p6
                      try clear q2
                      try clear q26
                      try clear q262
                      try clear q263
                      obtain ⟨x7_4, rfl, HA, HK4, BK260, HB⟩ := hrel
                      cases gk with
                      | zero => exact absurd HA.out (by simp [munimentref16_Few.l2])
                      | succ k4 =>
                        have H := HA.out
                        clear HA
                        simp only [munimentref16_Few.l2] at H
                        by_cases c33 : x7_4 < (l1.length : Int)
                        · rw [if_pos c33] at H
                          have c33b0 : decide (x7_4 < (l1.length : Int)) = true := decide_eq_true c33
                          clear c33
                          by_cases c34 : 0 ≤ x7_4
                          · rw [if_pos c34] at H
                            have c34b0 : decide (0 ≤ x7_4) = true := decide_eq_true c34
                            clear c34
                            replace H := Option.bind_eq_some_iff.mp H
                            obtain ⟨t265, A350, H⟩ := H
                            replace H : (if t265 = true then (if (((rd_T72 l1 x7_4).f0).size : Int) > 1000 then (some false) else (munimentref16_Few.l2 k4 l1 (wrap64 (x7_4 + 1)))) else (some false)) = some r := H
                            have A35 := Aside0.mk A350
                            clear A350
                            by_cases c36 : t265 = true
                            · subst c36
                              have H1 : (if (((rd_T72 l1 x7_4).f0).size : Int) > 1000 then (some false) else (munimentref16_Few.l2 k4 l1 (wrap64 (x7_4 + 1)))) = some r := by rw [if_pos rfl] at H; exact H
                              clear H
                              have H := H1
                              clear H1
                              by_cases c37 : (((rd_T72 l1 x7_4).f0).size : Int) > 1000
                              · rw [if_pos c37] at H
                                have c37b0 : decide (1000 < (((rd_T72 l1 x7_4).f0).size : Int)) = true := decide_eq_true c37
                                have c37b1 : decide (1000 < ((rd_T72 l1 x7_4).f0).size) = true := decide_eq_true (by omega)
                                clear c37
                                obtain rfl := Option.some.inj H
                                have p264 : 0 ≤ (x7_4 : Int) := of_decide_eq_true (by first | (with_reducible assumption) | assumption)
                                have q264 : x7_4 < (l1.length : Int) := of_decide_eq_true (by first | (with_reducible assumption) | assumption)
                                obtain ⟨ad264, A264_4, c264_4, A264_5, c264_5, e264, hx264_0, hx264_1, hx264_2, hx264_3, hx264_4, hx264_5, hl264_4, hi264_4, hl264_5, hi264_5⟩ := at_T72 HR1.out x7_4 p264 q264
                                cases e264
                                replace hx264_0 := (HB.out.cell (World.block_lt_of_cell? w _ hx264_0)).trans hx264_0
                                replace hx264_1 := (HB.out.cell (World.block_lt_of_cell? w _ hx264_1)).trans hx264_1
                                replace hx264_2 := (HB.out.cell (World.block_lt_of_cell? w _ hx264_2)).trans hx264_2
                                replace hx264_3 := (HB.out.cell (World.block_lt_of_cell? w _ hx264_3)).trans hx264_3
                                replace hx264_4 := (HB.out.cell (World.block_lt_of_cell? w _ hx264_4)).trans hx264_4
                                replace hx264_5 := (HB.out.cell (World.block_lt_of_cell? w _ hx264_5)).trans hx264_5
                                have HR264_4 := Aside0.mk hi264_4
                                have HC264_4 := Aside0.mk hl264_4
                                clear hi264_4 hl264_4
                                have HR264_5 := Aside0.mk hi264_5
                                have HC264_5 := Aside0.mk hl264_5
                                clear hi264_5 hl264_5
                                replace p264 := eq_true p264
                                replace q264 := eq_true q264
                                go_wp2_with (first | ((with_reducible refine gate_callee (f := 30) rfl ?_); refine goesL_ (some 69) rfl rfl Tryd.func30 (by kernel_rfl) rfl #[.agg #[.int .i64 ((rd_T72 l1 x7_4).f1.f0), .int .i64 ((rd_T72 l1 x7_4).f1.f1), .string ((rd_T72 l1 x7_4).f1.f2), .slice A264_4 ((rd_T72 l1 x7_4).f1.f3).length c264_4, .slice A264_5 ((rd_T72 l1 x7_4).f1.f4).length c264_5]] rfl (by (try simp only [List.map_toArray, List.map_cons, List.map_nil]); first | done | rfl | (simp only [List.length_drop, List.length_take]; rfl)) ?_; (with_reducible refine (munimentref01_Few.calls k4 ((rd_T72 l1 x7_4).f1.f0) ((rd_T72 l1 x7_4).f1.f1) ((rd_T72 l1 x7_4).f1.f2) _ _ ((rd_T72 l1 x7_4).f1.f3) _ _ ((rd_T72 l1 x7_4).f1.f4) true _ ?side1 ?side2 ?side3 ?side4 A35.out).mono ?_); (case side1 => repeat (first | exact (Kd.C_below HR264_4.out HB.out) | (with_reducible refine Kd.C_alloc ?_ _) | (with_reducible refine Kd.C_drewN ?_ _) | (with_reducible refine Kd.C_drew ?_))); (case side2 => exact HC264_4.out); (case side3 => repeat (first | exact (Kd.C_below HR264_5.out HB.out) | (with_reducible refine Kd.C_alloc ?_ _) | (with_reducible refine Kd.C_drewN ?_ _) | (with_reducible refine Kd.C_drew ?_))); (case side4 => exact HC264_5.out); rintro e w38 ⟨rfl, hb⟩; refine ⟨_, rfl, ?_⟩; have n0_ := Aside0.mk (blk_below (g := gb260) (o := .cells #[.int .i64 a0_0, .int .i64 a0_1, .string a0_2, .slice A0_3 l0_3.length c0_3, .slice A0_4 l0_4.length c0_4, .slice A0_5 l0_5.length c0_5, .slice A0_6 l0_6.length c0_6, .int .i64 a0_7, .int .i64 a0_8] 63 (0, 0)) (by (with_reducible repeat (first | refine blk_drewN ?_ _ | refine blk_drew ?_ | refine blk_alloc ?_ _)); exact BK260.out) hb); have n1_ := Aside0.mk (below_step (by repeat (first | (with_reducible first | exact HB.out | apply below_alloc | apply pw_below_drewN | apply below_drew1 | refine below_set ?_ GE260.out) | exact HB.out)) hb); clear BK260; clear HB; have BK260 := n0_; have HB := n1_; clear n0_ n1_; (try clear hb); (try clear hb2); (try clear hk); (try clear hi); have p266 : 0 ≤ (x7_4 : Int) := of_decide_eq_true (by first | (with_reducible assumption) | assumption); have q266 : x7_4 < (l1.length : Int) := of_decide_eq_true (by first | (with_reducible assumption) | assumption); obtain ⟨ad266, A266_4, c266_4, A266_5, c266_5, e266, hx266_0, hx266_1, hx266_2, hx266_3, hx266_4, hx266_5, hl266_4, hi266_4, hl266_5, hi266_5⟩ := at_T72 HR1.out x7_4 p266 q266; obtain rfl : ad264 = ad266 := (by injection e266); replace hx266_0 := (HB.out.cell (World.block_lt_of_cell? w _ hx266_0)).trans hx266_0; replace hx266_1 := (HB.out.cell (World.block_lt_of_cell? w _ hx266_1)).trans hx266_1; replace hx266_2 := (HB.out.cell (World.block_lt_of_cell? w _ hx266_2)).trans hx266_2; replace hx266_3 := (HB.out.cell (World.block_lt_of_cell? w _ hx266_3)).trans hx266_3; replace hx266_4 := (HB.out.cell (World.block_lt_of_cell? w _ hx266_4)).trans hx266_4; replace hx266_5 := (HB.out.cell (World.block_lt_of_cell? w _ hx266_5)).trans hx266_5; have HR266_4 := Aside0.mk hi266_4; have HC266_4 := Aside0.mk hl266_4; clear hi266_4 hl266_4; have HR266_5 := Aside0.mk hi266_5; have HC266_5 := Aside0.mk hl266_5; clear hi266_5 hl266_5; replace p266 := eq_true p266; replace q266 := eq_true q266))
                                go_ret
                                exact ⟨by first | rfl | (simp [errW_none, errW_some] <;> rfl) | (simp [*, errW_none, errW_some] <;> rfl), by repeat (first | (with_reducible first | exact HB.out | apply below_alloc | apply pw_below_drewN | apply below_drew1 | refine below_set ?_ GE260.out) | exact HB.out)⟩
                              · rw [if_neg c37] at H
                                have c37b0 : decide (1000 < (((rd_T72 l1 x7_4).f0).size : Int)) = false := decide_eq_false c37
                                have c37b1 : decide (1000 < ((rd_T72 l1 x7_4).f0).size) = false := decide_eq_false (by omega)
                                clear c37
                                have H' := Aside0.mk H
                                clear H
                                have p264 : 0 ≤ (x7_4 : Int) := of_decide_eq_true (by first | (with_reducible assumption) | assumption)
                                have q264 : x7_4 < (l1.length : Int) := of_decide_eq_true (by first | (with_reducible assumption) | assumption)
                                obtain ⟨ad264, A264_4, c264_4, A264_5, c264_5, e264, hx264_0, hx264_1, hx264_2, hx264_3, hx264_4, hx264_5, hl264_4, hi264_4, hl264_5, hi264_5⟩ := at_T72 HR1.out x7_4 p264 q264
                                cases e264
                                replace hx264_0 := (HB.out.cell (World.block_lt_of_cell? w _ hx264_0)).trans hx264_0
                                replace hx264_1 := (HB.out.cell (World.block_lt_of_cell? w _ hx264_1)).trans hx264_1
                                replace hx264_2 := (HB.out.cell (World.block_lt_of_cell? w _ hx264_2)).trans hx264_2
                                replace hx264_3 := (HB.out.cell (World.block_lt_of_cell? w _ hx264_3)).trans hx264_3
                                replace hx264_4 := (HB.out.cell (World.block_lt_of_cell? w _ hx264_4)).trans hx264_4
                                replace hx264_5 := (HB.out.cell (World.block_lt_of_cell? w _ hx264_5)).trans hx264_5
                                have HR264_4 := Aside0.mk hi264_4
                                have HC264_4 := Aside0.mk hl264_4
                                clear hi264_4 hl264_4
                                have HR264_5 := Aside0.mk hi264_5
                                have HC264_5 := Aside0.mk hl264_5
                                clear hi264_5 hl264_5
                                replace p264 := eq_true p264
                                replace q264 := eq_true q264
                                go_wp2_with (first | ((with_reducible refine gate_callee (f := 30) rfl ?_); refine goesL_ (some 69) rfl rfl Tryd.func30 (by kernel_rfl) rfl #[.agg #[.int .i64 ((rd_T72 l1 x7_4).f1.f0), .int .i64 ((rd_T72 l1 x7_4).f1.f1), .string ((rd_T72 l1 x7_4).f1.f2), .slice A264_4 ((rd_T72 l1 x7_4).f1.f3).length c264_4, .slice A264_5 ((rd_T72 l1 x7_4).f1.f4).length c264_5]] rfl (by (try simp only [List.map_toArray, List.map_cons, List.map_nil]); first | done | rfl | (simp only [List.length_drop, List.length_take]; rfl)) ?_; (with_reducible refine (munimentref01_Few.calls k4 ((rd_T72 l1 x7_4).f1.f0) ((rd_T72 l1 x7_4).f1.f1) ((rd_T72 l1 x7_4).f1.f2) _ _ ((rd_T72 l1 x7_4).f1.f3) _ _ ((rd_T72 l1 x7_4).f1.f4) true _ ?side1 ?side2 ?side3 ?side4 A35.out).mono ?_); (case side1 => repeat (first | exact (Kd.C_below HR264_4.out HB.out) | (with_reducible refine Kd.C_alloc ?_ _) | (with_reducible refine Kd.C_drewN ?_ _) | (with_reducible refine Kd.C_drew ?_))); (case side2 => exact HC264_4.out); (case side3 => repeat (first | exact (Kd.C_below HR264_5.out HB.out) | (with_reducible refine Kd.C_alloc ?_ _) | (with_reducible refine Kd.C_drewN ?_ _) | (with_reducible refine Kd.C_drew ?_))); (case side4 => exact HC264_5.out); rintro e w39 ⟨rfl, hb⟩; refine ⟨_, rfl, ?_⟩; have n0_ := Aside0.mk (blk_below (g := gb260) (o := .cells #[.int .i64 a0_0, .int .i64 a0_1, .string a0_2, .slice A0_3 l0_3.length c0_3, .slice A0_4 l0_4.length c0_4, .slice A0_5 l0_5.length c0_5, .slice A0_6 l0_6.length c0_6, .int .i64 a0_7, .int .i64 a0_8] 63 (0, 0)) (by (with_reducible repeat (first | refine blk_drewN ?_ _ | refine blk_drew ?_ | refine blk_alloc ?_ _)); exact BK260.out) hb); have n1_ := Aside0.mk (below_step (by repeat (first | (with_reducible first | exact HB.out | apply below_alloc | apply pw_below_drewN | apply below_drew1 | refine below_set ?_ GE260.out) | exact HB.out)) hb); clear BK260; clear HB; have BK260 := n0_; have HB := n1_; clear n0_ n1_; (try clear hb); (try clear hb2); (try clear hk); (try clear hi); have p266 : 0 ≤ (x7_4 : Int) := of_decide_eq_true (by first | (with_reducible assumption) | assumption); have q266 : x7_4 < (l1.length : Int) := of_decide_eq_true (by first | (with_reducible assumption) | assumption); obtain ⟨ad266, A266_4, c266_4, A266_5, c266_5, e266, hx266_0, hx266_1, hx266_2, hx266_3, hx266_4, hx266_5, hl266_4, hi266_4, hl266_5, hi266_5⟩ := at_T72 HR1.out x7_4 p266 q266; obtain rfl : ad264 = ad266 := (by injection e266); replace hx266_0 := (HB.out.cell (World.block_lt_of_cell? w _ hx266_0)).trans hx266_0; replace hx266_1 := (HB.out.cell (World.block_lt_of_cell? w _ hx266_1)).trans hx266_1; replace hx266_2 := (HB.out.cell (World.block_lt_of_cell? w _ hx266_2)).trans hx266_2; replace hx266_3 := (HB.out.cell (World.block_lt_of_cell? w _ hx266_3)).trans hx266_3; replace hx266_4 := (HB.out.cell (World.block_lt_of_cell? w _ hx266_4)).trans hx266_4; replace hx266_5 := (HB.out.cell (World.block_lt_of_cell? w _ hx266_5)).trans hx266_5; have HR266_4 := Aside0.mk hi266_4; have HC266_4 := Aside0.mk hl266_4; clear hi266_4 hl266_4; have HR266_5 := Aside0.mk hi266_5; have HC266_5 := Aside0.mk hl266_5; clear hi266_5 hl266_5; replace p266 := eq_true p266; replace q266 := eq_true q266))
                                go_roundg k4
                                case measure => have := HJ2.out; have := HK2.out; have := HK3.out; have := HK4.out; omega
                                case rel => exact ⟨(wrap64 (x7_4 + 1)), (by first | rfl | (simp; done) | (simp [*]; done)), H', ⟨by have := HJ2.out; have := HK2.out; have := HK3.out; have := HK4.out; omega⟩, ⟨by (with_reducible repeat (first | refine blk_drewN ?_ _ | refine blk_drew ?_ | refine blk_alloc ?_ _)); exact BK260.out⟩, ⟨by repeat (first | (with_reducible first | exact HB.out | apply below_alloc | apply pw_below_drewN | apply below_drew1 | refine below_set ?_ GE260.out) | exact HB.out)⟩⟩
                            · replace c36 := Bool.eq_false_iff.mpr c36
                              subst c36
                              have H1 : (some false) = some r := by rw [if_neg (show ¬ (false = true) by decide)] at H; exact H
                              clear H
                              have H := H1
                              clear H1
                              obtain rfl := Option.some.inj H
                              have p264 : 0 ≤ (x7_4 : Int) := of_decide_eq_true (by first | (with_reducible assumption) | assumption)
                              have q264 : x7_4 < (l1.length : Int) := of_decide_eq_true (by first | (with_reducible assumption) | assumption)
                              obtain ⟨ad264, A264_4, c264_4, A264_5, c264_5, e264, hx264_0, hx264_1, hx264_2, hx264_3, hx264_4, hx264_5, hl264_4, hi264_4, hl264_5, hi264_5⟩ := at_T72 HR1.out x7_4 p264 q264
                              cases e264
                              replace hx264_0 := (HB.out.cell (World.block_lt_of_cell? w _ hx264_0)).trans hx264_0
                              replace hx264_1 := (HB.out.cell (World.block_lt_of_cell? w _ hx264_1)).trans hx264_1
                              replace hx264_2 := (HB.out.cell (World.block_lt_of_cell? w _ hx264_2)).trans hx264_2
                              replace hx264_3 := (HB.out.cell (World.block_lt_of_cell? w _ hx264_3)).trans hx264_3
                              replace hx264_4 := (HB.out.cell (World.block_lt_of_cell? w _ hx264_4)).trans hx264_4
                              replace hx264_5 := (HB.out.cell (World.block_lt_of_cell? w _ hx264_5)).trans hx264_5
                              have HR264_4 := Aside0.mk hi264_4
                              have HC264_4 := Aside0.mk hl264_4
                              clear hi264_4 hl264_4
                              have HR264_5 := Aside0.mk hi264_5
                              have HC264_5 := Aside0.mk hl264_5
                              clear hi264_5 hl264_5
                              replace p264 := eq_true p264
                              replace q264 := eq_true q264
                              go_wp2_with (first | ((with_reducible refine gate_callee (f := 30) rfl ?_); refine goesL_ (some 69) rfl rfl Tryd.func30 (by kernel_rfl) rfl #[.agg #[.int .i64 ((rd_T72 l1 x7_4).f1.f0), .int .i64 ((rd_T72 l1 x7_4).f1.f1), .string ((rd_T72 l1 x7_4).f1.f2), .slice A264_4 ((rd_T72 l1 x7_4).f1.f3).length c264_4, .slice A264_5 ((rd_T72 l1 x7_4).f1.f4).length c264_5]] rfl (by (try simp only [List.map_toArray, List.map_cons, List.map_nil]); first | done | rfl | (simp only [List.length_drop, List.length_take]; rfl)) ?_; (with_reducible refine (munimentref01_Few.calls k4 ((rd_T72 l1 x7_4).f1.f0) ((rd_T72 l1 x7_4).f1.f1) ((rd_T72 l1 x7_4).f1.f2) _ _ ((rd_T72 l1 x7_4).f1.f3) _ _ ((rd_T72 l1 x7_4).f1.f4) false _ ?side1 ?side2 ?side3 ?side4 A35.out).mono ?_); (case side1 => repeat (first | exact (Kd.C_below HR264_4.out HB.out) | (with_reducible refine Kd.C_alloc ?_ _) | (with_reducible refine Kd.C_drewN ?_ _) | (with_reducible refine Kd.C_drew ?_))); (case side2 => exact HC264_4.out); (case side3 => repeat (first | exact (Kd.C_below HR264_5.out HB.out) | (with_reducible refine Kd.C_alloc ?_ _) | (with_reducible refine Kd.C_drewN ?_ _) | (with_reducible refine Kd.C_drew ?_))); (case side4 => exact HC264_5.out); rintro e w40 ⟨rfl, hb⟩; refine ⟨_, rfl, ?_⟩; have n0_ := Aside0.mk (blk_below (g := gb260) (o := .cells #[.int .i64 a0_0, .int .i64 a0_1, .string a0_2, .slice A0_3 l0_3.length c0_3, .slice A0_4 l0_4.length c0_4, .slice A0_5 l0_5.length c0_5, .slice A0_6 l0_6.length c0_6, .int .i64 a0_7, .int .i64 a0_8] 63 (0, 0)) (by (with_reducible repeat (first | refine blk_drewN ?_ _ | refine blk_drew ?_ | refine blk_alloc ?_ _)); exact BK260.out) hb); have n1_ := Aside0.mk (below_step (by repeat (first | (with_reducible first | exact HB.out | apply below_alloc | apply pw_below_drewN | apply below_drew1 | refine below_set ?_ GE260.out) | exact HB.out)) hb); clear BK260; clear HB; have BK260 := n0_; have HB := n1_; clear n0_ n1_; (try clear hb); (try clear hb2); (try clear hk); (try clear hi)))
                              go_ret
                              exact ⟨by first | rfl | (simp [errW_none, errW_some] <;> rfl) | (simp [*, errW_none, errW_some] <;> rfl), by repeat (first | (with_reducible first | exact HB.out | apply below_alloc | apply pw_below_drewN | apply below_drew1 | refine below_set ?_ GE260.out) | exact HB.out)⟩
                          · rw [if_neg c34] at H
                            exact absurd H (by simp)
                        · rw [if_neg c33] at H
                          have c33b0 : decide (x7_4 < (l1.length : Int)) = false := decide_eq_false c33
                          clear c33
                          obtain rfl := Option.some.inj H
                          go_wp2
                          go_ret
                          exact ⟨by first | rfl | (simp [errW_none, errW_some] <;> rfl) | (simp [*, errW_none, errW_some] <;> rfl), by repeat (first | (with_reducible first | exact HB.out | apply below_alloc | apply pw_below_drewN | apply below_drew1 | refine below_set ?_ GE260.out) | exact HB.out)⟩
end Go.Proofs.YtehdnjegipcpfaaDoor.PAns
