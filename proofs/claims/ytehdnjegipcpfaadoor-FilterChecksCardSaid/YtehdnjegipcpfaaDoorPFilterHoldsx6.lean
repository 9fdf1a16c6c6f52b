-- PRINTED BY print.sh 35421559b90ae4d0a3588c463048766b98c2df88dd9212a6774a882060cdf62d: not written by this session
import Derived.Test.YtehdnjegipcpfaaDoorPFilterHoldsx0
namespace Go.Proofs.YtehdnjegipcpfaaDoor.PFilterHolds
open Go.RowKit Go.Proofs.YtehdnjegipcpfaaDoorW.PrintWords Go.Proofs.YtehdnjegipcpfaaDoorW.PrintLast Go.Proofs.YtehdnjegipcpfaaDoorW.PrintMore
attribute [local go_sem] max2_int min2_int max_two min_two max_three min_three max_four min_four   -- for this text's walks alone
set_option linter.unusedVariables false
set_option linter.unusedSimpArgs false

/-! ### munimentref01_depth: function 80 -/
mutual
def munimentref01_depth.j0 : Nat → Int → Bool → Int → Int → ByteArray → List ByteArray → List (S25) → Option (Int)
  | 0, _, _, _, _, _, _, _ => none
  | k + 1, x1, x18, x200000, x200001, x200002, x200003, x200004 => if x18 = true then (some 1) else (munimentref01_depth.l0 k x1 0 0 x200000 x200001 x200002 x200003 x200004)
def munimentref01_depth.l0 : Nat → Int → Int → Int → Int → Int → ByteArray → List ByteArray → List (S25) → Option (Int)
  | 0, _, _, _, _, _, _, _, _ => none
  | k + 1, x1, x5, x6, x200000, x200001, x200002, x200003, x200004 => if x6 < (x200004.length : Int) then (if 0 ≤ x6 then ((munimentref01_depth.f k ((rd_T25 x200004 x6).f0) ((rd_T25 x200004 x6).f1) ((rd_T25 x200004 x6).f2) ((rd_T25 x200004 x6).f3) ((rd_T25 x200004 x6).f4) (wrap64 (x1 - 1))).bind fun t201 => (munimentref01_depth.l0 k x1 (mx x5 t201) (wrap64 (x6 + 1)) x200000 x200001 x200002 x200003 x200004)) else (none)) else (some (wrap64 (x5 + 1)))
def munimentref01_depth.f : Nat → Int → Int → ByteArray → List ByteArray → List (S25) → Int → Option (Int)
  | 0, _, _, _, _, _, _ => none
  | k + 1, a0_0, a0_1, a0_2, l0_3, l0_4, a1 => if a0_0 = 5 then (munimentref01_depth.j0 k a1 (a1 == 1) a0_0 a0_1 a0_2 l0_3 l0_4) else (if a0_0 = 6 then (munimentref01_depth.j0 k a1 (a1 == 1) a0_0 a0_1 a0_2 l0_3 l0_4) else (munimentref01_depth.j0 k a1 true a0_0 a0_1 a0_2 l0_3 l0_4))
end
theorem munimentref01_depth.mono_l : ∀ k, (∀ y0 y1 y2 y3 y4 y5, LeO (munimentref01_depth.f k y0 y1 y2 y3 y4 y5) (munimentref01_depth.f (k + 1) y0 y1 y2 y3 y4 y5)) ∧ (∀ y0 y1 y2 y3 y4 y5 y6, LeO (munimentref01_depth.j0 k y0 y1 y2 y3 y4 y5 y6) (munimentref01_depth.j0 (k + 1) y0 y1 y2 y3 y4 y5 y6)) ∧ (∀ y0 y1 y2 y3 y4 y5 y6 y7, LeO (munimentref01_depth.l0 k y0 y1 y2 y3 y4 y5 y6 y7) (munimentref01_depth.l0 (k + 1) y0 y1 y2 y3 y4 y5 y6 y7))
  | 0 => ⟨fun _ _ _ _ _ _ r h => by simp [munimentref01_depth.f] at h, fun _ _ _ _ _ _ _ r h => by simp [munimentref01_depth.j0] at h, fun _ _ _ _ _ _ _ _ r h => by simp [munimentref01_depth.l0] at h⟩
  | k + 1 => by
    obtain ⟨ih0, ih1, ih2⟩ := munimentref01_depth.mono_l k
    refine ⟨?_, ?_, ?_⟩
    · intro y0 y1 y2 y3 y4 y5
      unfold munimentref01_depth.f
      repeat' first
      | (with_reducible exact ih0 _ _ _ _ _ _)
      | (with_reducible exact ih1 _ _ _ _ _ _ _)
      | (with_reducible exact ih2 _ _ _ _ _ _ _ _)
      | (with_reducible exact LeO.refl _)
      | (with_reducible exact LeO.none _)
      | (with_reducible refine LeO.ite ?_ ?_)
      | (with_reducible refine LeO.bind ?_ (fun _ => ?_))
      | exact ih0 _ _ _ _ _ _
      | exact ih1 _ _ _ _ _ _ _
      | exact ih2 _ _ _ _ _ _ _ _
      | exact LeO.none _
      | refine LeO.ite ?_ ?_
      | refine LeO.bind ?_ (fun _ => ?_)
    · intro y0 y1 y2 y3 y4 y5 y6
      unfold munimentref01_depth.j0
      repeat' first
      | (with_reducible exact ih0 _ _ _ _ _ _)
      | (with_reducible exact ih1 _ _ _ _ _ _ _)
      | (with_reducible exact ih2 _ _ _ _ _ _ _ _)
      | (with_reducible exact LeO.refl _)
      | (with_reducible exact LeO.none _)
      | (with_reducible refine LeO.ite ?_ ?_)
      | (with_reducible refine LeO.bind ?_ (fun _ => ?_))
      | exact ih0 _ _ _ _ _ _
      | exact ih1 _ _ _ _ _ _ _
      | exact ih2 _ _ _ _ _ _ _ _
      | exact LeO.none _
      | refine LeO.ite ?_ ?_
      | refine LeO.bind ?_ (fun _ => ?_)
    · intro y0 y1 y2 y3 y4 y5 y6 y7
      unfold munimentref01_depth.l0
      repeat' first
      | (with_reducible exact ih0 _ _ _ _ _ _)
      | (with_reducible exact ih1 _ _ _ _ _ _ _)
      | (with_reducible exact ih2 _ _ _ _ _ _ _ _)
      | (with_reducible exact LeO.refl _)
      | (with_reducible exact LeO.none _)
      | (with_reducible refine LeO.ite ?_ ?_)
      | (with_reducible refine LeO.bind ?_ (fun _ => ?_))
      | exact ih0 _ _ _ _ _ _
      | exact ih1 _ _ _ _ _ _ _
      | exact ih2 _ _ _ _ _ _ _ _
      | exact LeO.none _
      | refine LeO.ite ?_ ?_
      | refine LeO.bind ?_ (fun _ => ?_)
theorem munimentref01_depth.mono : ∀ a0 a1 a2 a3 a4 a5 k, LeO (munimentref01_depth.f k a0 a1 a2 a3 a4 a5) (munimentref01_depth.f (k + 1) a0 a1 a2 a3 a4 a5) := by
  intro a0 a1 a2 a3 a4 a5 k
  obtain ⟨ih0, ih1, ih2⟩ := munimentref01_depth.mono_l k
  exact ih0 a0 a1 a2 a3 a4 a5
set_option maxHeartbeats 8000000 in
set_option maxRecDepth 100000 in
theorem munimentref01_depth.calls (k : Nat) : ∀ (a0_0 : Int) (a0_1 : Int) (a0_2 : ByteArray) (A0_3 : Option Addr) (c0_3 : Nat) (l0_3 : List ByteArray) (A0_4 : Option Addr) (c0_4 : Nat) (l0_4 : List (S25)) (a1 : Int) (r : Int) (w : World) (hr0_3 : Kd.C Kd.string w A0_3 l0_3.length l0_3) (hc0_3 : l0_3.length ≤ c0_3) (hr0_4 : Kd.C k25 w A0_4 l0_4.length l0_4) (hc0_4 : l0_4.length ≤ c0_4) (h : munimentref01_depth.f k a0_0 a0_1 a0_2 l0_3 l0_4 a1 = some r),
    Calls Tryd.prog 80 #[.agg #[.int .i64 a0_0, .int .i64 a0_1, .string a0_2, .slice A0_3 l0_3.length c0_3, .slice A0_4 l0_4.length c0_4], .int .i64 a1] w fun e w' => e = .returned (.int .i64 r) ∧ Below w.heap.size w w' := by
  induction k using Nat.strongRecOn with
  | _ k ih =>
  intro a0_0 a0_1 a0_2 A0_3 c0_3 l0_3 A0_4 c0_4 l0_4 a1 r w hr0_3 hc0_3 hr0_4 hc0_4 h
  cases k with
  | zero => exact absurd h (by simp [munimentref01_depth.f])
  | succ k =>
  simp only [munimentref01_depth.f] at h
  have hu25 := Tryd.underlying25
  have HR0_3 := Aside0.mk hr0_3
  have HC0_3 := Aside0.mk hc0_3
  clear hr0_3 hc0_3
  have HR0_4 := Aside0.mk hr0_4
  have HC0_4 := Aside0.mk hc0_4
  clear hr0_4 hc0_4
  have HB := Aside0.mk (Below.refl w.heap.size w)
  have H : (if a0_0 = 5 then (munimentref01_depth.j0 k a1 (a1 == 1) a0_0 a0_1 a0_2 l0_3 l0_4) else (if a0_0 = 6 then (munimentref01_depth.j0 k a1 (a1 == 1) a0_0 a0_1 a0_2 l0_3 l0_4) else (munimentref01_depth.j0 k a1 true a0_0 a0_1 a0_2 l0_3 l0_4))) = some r := h
  clear h
  have HC3 := Aside0.mk H
  clear H
  go_enter Tryd.func80, Tryd.ntmps80
  go_upto_region 1 with (first | ((with_reducible refine gate_dst (N := 2) rfl ?_); refine box_event ?hg (N := 2) ?hd (cs := #[.int .i64 a0_0, .int .i64 a0_1, .string a0_2, .slice A0_3 l0_3.length c0_3, .slice A0_4 l0_4.length c0_4]) (t := 25) ?hr ?_; (case hd => rfl); (case hg => rfl); (case hr => first | (go_simp; done) | (go_simp; rfl)); intro gb199 hg w4 hbox hb; have n0_ := Aside0.mk (below_step (by repeat (first | (with_reducible first | exact HB.out | apply below_alloc | apply pw_below_drewN | apply below_drew1) | exact HB.out)) hb); have n1_ := Aside0.mk (hbox); have n2_ := Aside0.mk ((by rw [hg]; exact (below_size (by repeat (first | (with_reducible first | exact HB.out | apply below_alloc | apply pw_below_drewN | apply below_drew1) | exact HB.out))) : w.heap.size ≤ gb199)); have n3_ := Aside0.mk ((by rw [hg]; exact (below_size (by repeat (first | (with_reducible first | exact HB.out | apply below_alloc | apply pw_below_drewN | apply below_drew1) | exact HB.out))) : w.heap.size ≤ gb199)); clear HB; have HB := n0_; have BK199 := n1_; have GW199 := n2_; have GE199 := n3_; clear n0_ n1_ n2_ n3_; clear hb hbox hg))
  (try simp only [Act.put, List.setIfInBounds_toArray, List.set_cons_zero, List.set_cons_succ])
  go_cut [18] (fun v18 wc => ∃ (kq : Nat) (x18_2 : Bool), v18 = .bool x18_2 ∧ Aside0 (munimentref01_depth.j0 kq a1 x18_2 a0_0 a0_1 a0_2 l0_3 l0_4 = some r) ∧ Aside0 (kq ≤ k) ∧ Aside0 (wc.heap[gb199]? = some (.cells #[.int .i64 a0_0, .int .i64 a0_1, .string a0_2, (.slice A0_3 l0_3.length c0_3), (.slice A0_4 l0_4.length c0_4)] 25 (0, 0))) ∧ Aside0 (Below w.heap.size w wc))
  case first =>
    have H := HC3.out
    clear HC3
    by_cases c5 : a0_0 = 5
    · rw [if_pos c5] at H
      have c5b0 : (a0_0 == 5) = true := beq_iff_eq.mpr c5
      have c5b1 : (a0_0 != 5) = false := bne_eq_false_iff_eq.mpr c5
      clear c5
      (first | rw [c5b0] | (simp only [i64_w, i32_w]; rw [c5b0]) | skip)
      have H' := Aside0.mk H
      clear H
      have hcz6_0 : w4.cell? ⟨gb199, 0, none⟩ = some (.int .i64 a0_0) := (blk_cell BK199.out 0).trans rfl
      have hcz6_1 : w4.cell? ⟨gb199, 1, none⟩ = some (.int .i64 a0_1) := (blk_cell BK199.out 1).trans rfl
      have hcz6_2 : w4.cell? ⟨gb199, 2, none⟩ = some (.string a0_2) := (blk_cell BK199.out 2).trans rfl
      have hcz6_3 : w4.cell? ⟨gb199, 3, none⟩ = some (.slice A0_3 l0_3.length c0_3) := (blk_cell BK199.out 3).trans rfl
      have hcz6_4 : w4.cell? ⟨gb199, 4, none⟩ = some (.slice A0_4 l0_4.length c0_4) := (blk_cell BK199.out 4).trans rfl
      have hfz6_0 := blk_frozen BK199.out 0
      have hfz6_1 := blk_frozen BK199.out 1
      have hfz6_2 := blk_frozen BK199.out 2
      have hfz6_3 := blk_frozen BK199.out 3
      have hfz6_4 := blk_frozen BK199.out 4
      go_wp2
      go_meet
      case rel => exact ⟨_, ((a1 == 1)), (by first | rfl | (simp; done) | (simp [*]; done)), H', ⟨by first | omega | exact Nat.le_refl _⟩, ⟨by (with_reducible repeat (first | refine blk_drewN ?_ _ | refine blk_drew ?_ | refine blk_alloc ?_ _)); exact BK199.out⟩, ⟨by repeat (first | (with_reducible first | exact HB.out | apply below_alloc | apply pw_below_drewN | apply below_drew1 | refine below_set ?_ GE199.out) | exact HB.out)⟩⟩
    · rw [if_neg c5] at H
      have c5b0 : (a0_0 == 5) = false := beq_eq_false_iff_ne.mpr c5
      have c5b1 : (a0_0 != 5) = true := bne_iff_ne.mpr c5
      (first | rw [c5b0] | (simp only [i64_w, i32_w]; rw [c5b0]) | skip)
      by_cases c7 : a0_0 = 6
      · rw [if_pos c7] at H
        have c7b0 : (a0_0 == 6) = true := beq_iff_eq.mpr c7
        have c7b1 : (a0_0 != 6) = false := bne_eq_false_iff_eq.mpr c7
        clear c7
        have H' := Aside0.mk H
        clear H
        have hcz8_0 : w4.cell? ⟨gb199, 0, none⟩ = some (.int .i64 a0_0) := (blk_cell BK199.out 0).trans rfl
        have hcz8_1 : w4.cell? ⟨gb199, 1, none⟩ = some (.int .i64 a0_1) := (blk_cell BK199.out 1).trans rfl
        have hcz8_2 : w4.cell? ⟨gb199, 2, none⟩ = some (.string a0_2) := (blk_cell BK199.out 2).trans rfl
        have hcz8_3 : w4.cell? ⟨gb199, 3, none⟩ = some (.slice A0_3 l0_3.length c0_3) := (blk_cell BK199.out 3).trans rfl
        have hcz8_4 : w4.cell? ⟨gb199, 4, none⟩ = some (.slice A0_4 l0_4.length c0_4) := (blk_cell BK199.out 4).trans rfl
        have hfz8_0 := blk_frozen BK199.out 0
        have hfz8_1 := blk_frozen BK199.out 1
        have hfz8_2 := blk_frozen BK199.out 2
        have hfz8_3 := blk_frozen BK199.out 3
        have hfz8_4 := blk_frozen BK199.out 4
        go_wp2
        go_meet
        case rel => exact ⟨_, ((a1 == 1)), (by first | rfl | (simp; done) | (simp [*]; done)), H', ⟨by first | omega | exact Nat.le_refl _⟩, ⟨by (with_reducible repeat (first | refine blk_drewN ?_ _ | refine blk_drew ?_ | refine blk_alloc ?_ _)); exact BK199.out⟩, ⟨by repeat (first | (with_reducible first | exact HB.out | apply below_alloc | apply pw_below_drewN | apply below_drew1 | refine below_set ?_ GE199.out) | exact HB.out)⟩⟩
      · rw [if_neg c7] at H
        have c7b0 : (a0_0 == 6) = false := beq_eq_false_iff_ne.mpr c7
        have c7b1 : (a0_0 != 6) = true := bne_iff_ne.mpr c7
        have H' := Aside0.mk H
        clear H
        have hcz9_0 : w4.cell? ⟨gb199, 0, none⟩ = some (.int .i64 a0_0) := (blk_cell BK199.out 0).trans rfl
        have hcz9_1 : w4.cell? ⟨gb199, 1, none⟩ = some (.int .i64 a0_1) := (blk_cell BK199.out 1).trans rfl
        have hcz9_2 : w4.cell? ⟨gb199, 2, none⟩ = some (.string a0_2) := (blk_cell BK199.out 2).trans rfl
        have hcz9_3 : w4.cell? ⟨gb199, 3, none⟩ = some (.slice A0_3 l0_3.length c0_3) := (blk_cell BK199.out 3).trans rfl
        have hcz9_4 : w4.cell? ⟨gb199, 4, none⟩ = some (.slice A0_4 l0_4.length c0_4) := (blk_cell BK199.out 4).trans rfl
        have hfz9_0 := blk_frozen BK199.out 0
        have hfz9_1 := blk_frozen BK199.out 1
        have hfz9_2 := blk_frozen BK199.out 2
        have hfz9_3 := blk_frozen BK199.out 3
        have hfz9_4 := blk_frozen BK199.out 4
        go_wp2
        go_meet
        case rel => exact ⟨_, (true), (by first | rfl | (simp; done) | (simp [*]; done)), H', ⟨by first | omega | exact Nat.le_refl _⟩, ⟨by (with_reducible repeat (first | refine blk_drewN ?_ _ | refine blk_drew ?_ | refine blk_alloc ?_ _)); exact BK199.out⟩, ⟨by repeat (first | (with_reducible first | exact HB.out | apply below_alloc | apply pw_below_drewN | apply below_drew1 | refine below_set ?_ GE199.out) | exact HB.out)⟩⟩
  case rest =>
    clear HC3
    try clear p2
    try clear c5
    try clear c5b0
    try clear c5b1
    try clear c7
    try clear c7b0
    try clear c7b1
    try clear c8
    try clear hcz6_0
    try clear hcz6_1
    try clear hcz6_2
    try clear hcz6_3
    try clear hcz6_4
    try clear hcz8_0
    try clear hcz8_1
    try clear hcz8_2
    try clear hcz8_3
    try clear hcz8_4
    try clear hcz9_0
    try clear hcz9_1
    try clear hcz9_2
    try clear hcz9_3
    try clear hcz9_4
    try clear hfz6_0
    try clear hfz6_1
    try clear hfz6_2
    try clear hfz6_3
    try clear hfz6_4
    try clear hfz8_0
    try clear hfz8_1
    try clear hfz8_2
    try clear hfz8_3
    try clear hfz8_4
    try clear hfz9_0
    try clear hfz9_1
    try clear hfz9_2
    try clear hfz9_3
    try clear hfz9_4
    obtain ⟨kq, x18_2, rfl, HA, HJ2, BK199, HB⟩ := hcut
    cases kq with
    | zero => exact absurd HA.out (by simp [munimentref01_depth.j0])
    | succ kj2 =>
      have H := HA.out
      clear HA
      simp only [munimentref01_depth.j0] at H
      by_cases c10 : x18_2 = true
      · subst c10
        have H1 : (some 1) = some r := by rw [if_pos rfl] at H; exact H
        clear H
        have H := H1
        clear H1
        obtain rfl := Option.some.inj H
        go_wp2
        go_ret
        exact ⟨by first | rfl | (simp [errW_none, errW_some] <;> rfl) | (simp [*, errW_none, errW_some] <;> rfl), by repeat (first | (with_reducible first | exact HB.out | apply below_alloc | apply pw_below_drewN | apply below_drew1 | refine below_set ?_ GE199.out) | exact HB.out)⟩
      · replace c10 := Bool.eq_false_iff.mpr c10
        subst c10
        have H1 : (munimentref01_depth.l0 kj2 a1 0 0 a0_0 a0_1 a0_2 l0_3 l0_4) = some r := by rw [if_neg (show ¬ (false = true) by decide)] at H; exact H
        clear H
        have H := H1
        clear H1
        have H' := Aside0.mk H
        clear H
        go_wp2
        go_loopg [5, 6] kj2 (fun kq v5 v6 w' => ∃ (x5_2 : Int) (x6_2 : Int), v5 = .int .i64 x5_2 ∧ v6 = .int .i64 x6_2 ∧ Aside0 (munimentref01_depth.l0 kq a1 x5_2 x6_2 a0_0 a0_1 a0_2 l0_3 l0_4 = some r) ∧ Aside0 (kq ≤ kj2) ∧ Aside0 (w'.heap[gb199]? = some (.cells #[.int .i64 a0_0, .int .i64 a0_1, .string a0_2, (.slice A0_3 l0_3.length c0_3), (.slice A0_4 l0_4.length c0_4)] 25 (0, 0))) ∧ Aside0 (Below w.heap.size w w'))
        case atStart => exact ⟨(0), (0), (by first | rfl | (simp; done) | (simp [*]; done)), (by first | rfl | (simp; done) | (simp [*]; done)), H', ⟨Nat.le_refl _⟩, ⟨by (with_reducible repeat (first | refine blk_drewN ?_ _ | refine blk_drew ?_ | refine blk_alloc ?_ _)); exact BK199.out⟩, ⟨by repeat (first | (with_reducible first | exact HB.out | apply below_alloc | apply pw_below_drewN | apply below_drew1 | refine below_set ?_ GE199.out) | exact HB.out)⟩⟩
        case round =>
          clear H'
          try clear c1
          try clear p2
          try clear c5
          try clear c5b0
          try clear c5b1
          try clear c7
          try clear c7b0
          try clear c7b1
          try clear c8
          try clear c10
          try clear hcz6_0
          try clear hcz6_1
          try clear hcz6_2
          try clear hcz6_3
          try clear hcz6_4
          try clear hcz8_0
          try clear hcz8_1
          try clear hcz8_2
          try clear hcz8_3
          try clear hcz8_4
          try clear hcz9_0
          try clear hcz9_1
          try clear hcz9_2
          try clear hcz9_3
          try clear hcz9_4
          try clear hfz6_0
          try clear hfz6_1
          try clear hfz6_2
          try clear hfz6_3
          try clear hfz6_4
          try clear hfz8_0
          try clear hfz8_1
          try clear hfz8_2
          try clear hfz8_3
          try clear hfz8_4
          try clear hfz9_0
          try clear hfz9_1
          try clear hfz9_2
          try clear hfz9_3
          try clear hfz9_4
          try clear p2
          obtain ⟨x5_2, x6_2, rfl, rfl, HA, HK2, BK199, HB⟩ := hrel
          cases gk with
          | zero => exact absurd HA.out (by simp [munimentref01_depth.l0])
          | succ k2 =>
            have H := HA.out
            clear HA
            simp only [munimentref01_depth.l0] at H
            by_cases c11 : x6_2 < (l0_4.length : Int)
            · rw [if_pos c11] at H
              have c11b0 : decide (x6_2 < (l0_4.length : Int)) = true := decide_eq_true c11
              clear c11
              by_cases c12 : 0 ≤ x6_2
              · rw [if_pos c12] at H
                have c12b0 : decide (0 ≤ x6_2) = true := decide_eq_true c12
                clear c12
                replace H := Option.bind_eq_some_iff.mp H
                obtain ⟨t201, A130, H⟩ := H
                replace H : (munimentref01_depth.l0 k2 a1 (mx x5_2 t201) (wrap64 (x6_2 + 1)) a0_0 a0_1 a0_2 l0_3 l0_4) = some r := H
                have A13 := Aside0.mk A130
                clear A130
                obtain ⟨ji14, hji14⟩ : ∃ j_ : Int, (mx x5_2 t201) = j_ := ⟨_, rfl⟩
                replace H : (munimentref01_depth.l0 k2 a1 ji14 (wrap64 (x6_2 + 1)) a0_0 a0_1 a0_2 l0_3 l0_4) = some r := by first | (rw [hji14] at H; exact H) | (simp only [hji14] at H ⊢; exact H)
                (try rw [hji14] at A13)
                have hji14_ : (if x5_2 < t201 then t201 else x5_2) = ji14 := hji14
                have H' := Aside0.mk H
                clear H
                have hcz15_0 : wr.cell? ⟨gb199, 0, none⟩ = some (.int .i64 a0_0) := (blk_cell BK199.out 0).trans rfl
                have hcz15_1 : wr.cell? ⟨gb199, 1, none⟩ = some (.int .i64 a0_1) := (blk_cell BK199.out 1).trans rfl
                have hcz15_2 : wr.cell? ⟨gb199, 2, none⟩ = some (.string a0_2) := (blk_cell BK199.out 2).trans rfl
                have hcz15_3 : wr.cell? ⟨gb199, 3, none⟩ = some (.slice A0_3 l0_3.length c0_3) := (blk_cell BK199.out 3).trans rfl
                have hcz15_4 : wr.cell? ⟨gb199, 4, none⟩ = some (.slice A0_4 l0_4.length c0_4) := (blk_cell BK199.out 4).trans rfl
                have hfz15_0 := blk_frozen BK199.out 0
                have hfz15_1 := blk_frozen BK199.out 1
                have hfz15_2 := blk_frozen BK199.out 2
                have hfz15_3 := blk_frozen BK199.out 3
                have hfz15_4 := blk_frozen BK199.out 4
                have p200 : 0 ≤ (x6_2 : Int) := of_decide_eq_true (by first | (with_reducible assumption) | assumption)
                have q200 : x6_2 < (l0_4.length : Int) := of_decide_eq_true (by first | (with_reducible assumption) | assumption)
                obtain ⟨ad200, A200_3, c200_3, A200_4, c200_4, e200, hx200_0, hx200_1, hx200_2, hx200_3, hx200_4, hl200_3, hi200_3, hl200_4, hi200_4⟩ := at_T25 HR0_4.out x6_2 p200 q200
                cases e200
                replace hx200_0 := (HB.out.cell (World.block_lt_of_cell? w _ hx200_0)).trans hx200_0
                replace hx200_1 := (HB.out.cell (World.block_lt_of_cell? w _ hx200_1)).trans hx200_1
                replace hx200_2 := (HB.out.cell (World.block_lt_of_cell? w _ hx200_2)).trans hx200_2
                replace hx200_3 := (HB.out.cell (World.block_lt_of_cell? w _ hx200_3)).trans hx200_3
                replace hx200_4 := (HB.out.cell (World.block_lt_of_cell? w _ hx200_4)).trans hx200_4
                have HR200_3 := Aside0.mk hi200_3
                have HC200_3 := Aside0.mk hl200_3
                clear hi200_3 hl200_3
                have HR200_4 := Aside0.mk hi200_4
                have HC200_4 := Aside0.mk hl200_4
                clear hi200_4 hl200_4
                replace p200 := eq_true p200
                replace q200 := eq_true q200
                go_wp2_with (first | ((with_reducible refine gate_callee (f := 80) rfl ?_); refine goesL_ (some 34) rfl rfl Tryd.func80 (by kernel_rfl) rfl #[.agg #[.int .i64 ((rd_T25 l0_4 x6_2).f0), .int .i64 ((rd_T25 l0_4 x6_2).f1), .string ((rd_T25 l0_4 x6_2).f2), .slice A200_3 ((rd_T25 l0_4 x6_2).f3).length c200_3, .slice A200_4 ((rd_T25 l0_4 x6_2).f4).length c200_4], .int .i64 (wrap64 (a1 - 1))] rfl (by (try simp only [List.map_toArray, List.map_cons, List.map_nil]); first | done | rfl | (simp only [List.length_drop, List.length_take]; rfl)) ?_; (with_reducible refine (ih k2 (by have := HJ2.out; have := HK2.out; omega) ((rd_T25 l0_4 x6_2).f0) ((rd_T25 l0_4 x6_2).f1) ((rd_T25 l0_4 x6_2).f2) _ _ ((rd_T25 l0_4 x6_2).f3) _ _ ((rd_T25 l0_4 x6_2).f4) (wrap64 (a1 - 1)) t201 _ ?side1 ?side2 ?side3 ?side4 A13.out).mono ?_); (case side1 => repeat (first | exact (Kd.C_below HR200_3.out HB.out) | (with_reducible refine Kd.C_alloc ?_ _) | (with_reducible refine Kd.C_drewN ?_ _) | (with_reducible refine Kd.C_drew ?_))); (case side2 => exact HC200_3.out); (case side3 => repeat (first | exact (Kd.C_below HR200_4.out HB.out) | (with_reducible refine Kd.C_alloc ?_ _) | (with_reducible refine Kd.C_drewN ?_ _) | (with_reducible refine Kd.C_drew ?_))); (case side4 => exact HC200_4.out); rintro e w16 ⟨rfl, hb⟩; refine ⟨_, rfl, ?_⟩; have n0_ := Aside0.mk (blk_below (g := gb199) (o := .cells #[.int .i64 a0_0, .int .i64 a0_1, .string a0_2, .slice A0_3 l0_3.length c0_3, .slice (some ad200) l0_4.length c0_4] 25 (0, 0)) (by (with_reducible repeat (first | refine blk_drewN ?_ _ | refine blk_drew ?_ | refine blk_alloc ?_ _)); exact BK199.out) hb); have n1_ := Aside0.mk (below_step (by repeat (first | (with_reducible first | exact HB.out | apply below_alloc | apply pw_below_drewN | apply below_drew1 | refine below_set ?_ GE199.out) | exact HB.out)) hb); clear BK199; clear HB; have BK199 := n0_; have HB := n1_; clear n0_ n1_; (try clear hb); (try clear hb2); (try clear hk); (try clear hi)))
                go_roundg k2
                case measure => have := HJ2.out; have := HK2.out; omega
                case rel => exact ⟨(ji14), (wrap64 (x6_2 + 1)), (by first | rfl | (simp; done) | (simp only [← hji14] <;> (first | rfl | simp)) | (simp [*]; done)), (by first | rfl | (simp; done) | (simp [*]; done)), H', ⟨by have := HJ2.out; have := HK2.out; omega⟩, ⟨by (with_reducible repeat (first | refine blk_drewN ?_ _ | refine blk_drew ?_ | refine blk_alloc ?_ _)); exact BK199.out⟩, ⟨by repeat (first | (with_reducible first | exact HB.out | apply below_alloc | apply pw_below_drewN | apply below_drew1 | refine below_set ?_ GE199.out) | exact HB.out)⟩⟩
              · rw [if_neg c12] at H
                exact absurd H (by simp)
            · rw [if_neg c11] at H
              have c11b0 : decide (x6_2 < (l0_4.length : Int)) = false := decide_eq_false c11
              clear c11
              obtain rfl := Option.some.inj H
              have hcz17_0 : wr.cell? ⟨gb199, 0, none⟩ = some (.int .i64 a0_0) := (blk_cell BK199.out 0).trans rfl
              have hcz17_1 : wr.cell? ⟨gb199, 1, none⟩ = some (.int .i64 a0_1) := (blk_cell BK199.out 1).trans rfl
              have hcz17_2 : wr.cell? ⟨gb199, 2, none⟩ = some (.string a0_2) := (blk_cell BK199.out 2).trans rfl
              have hcz17_3 : wr.cell? ⟨gb199, 3, none⟩ = some (.slice A0_3 l0_3.length c0_3) := (blk_cell BK199.out 3).trans rfl
              have hcz17_4 : wr.cell? ⟨gb199, 4, none⟩ = some (.slice A0_4 l0_4.length c0_4) := (blk_cell BK199.out 4).trans rfl
              have hfz17_0 := blk_frozen BK199.out 0
              have hfz17_1 := blk_frozen BK199.out 1
              have hfz17_2 := blk_frozen BK199.out 2
              have hfz17_3 := blk_frozen BK199.out 3
              have hfz17_4 := blk_frozen BK199.out 4
              go_wp2
              go_ret
              exact ⟨by first | rfl | (simp [errW_none, errW_some] <;> rfl) | (simp [*, errW_none, errW_some] <;> rfl), by repeat (first | (with_reducible first | exact HB.out | apply below_alloc | apply pw_below_drewN | apply below_drew1 | refine below_set ?_ GE199.out) | exact HB.out)⟩

/-! ### munimentref01_Depth: function 53 -/
def munimentref01_Depth.f (k : Nat) (a0_0 : Int) (a0_1 : Int) (a0_2 : ByteArray) (l0_3 : List ByteArray) (l0_4 : List (S25)) : Option (Int) := (munimentref01_depth.f k a0_0 a0_1 a0_2 l0_3 l0_4 7).bind fun t203 => (some t203)
theorem munimentref01_Depth.mono : ∀ a0 a1 a2 a3 a4 k, LeO (munimentref01_Depth.f k a0 a1 a2 a3 a4) (munimentref01_Depth.f (k + 1) a0 a1 a2 a3 a4) := by
  intro a0 a1 a2 a3 a4 k
  unfold munimentref01_Depth.f
  repeat' first
      | (with_reducible exact munimentref01_depth.mono _ _ _ _ _ _ _)
      | (with_reducible exact LeO.refl _)
      | (with_reducible exact LeO.none _)
      | (with_reducible refine LeO.ite ?_ ?_)
      | (with_reducible refine LeO.bind ?_ (fun _ => ?_))
      | exact munimentref01_depth.mono _ _ _ _ _ _ _
      | exact LeO.none _
      | refine LeO.ite ?_ ?_
      | refine LeO.bind ?_ (fun _ => ?_)
set_option maxHeartbeats 8000000 in
set_option maxRecDepth 100000 in
theorem munimentref01_Depth.calls (k : Nat) (a0_0 : Int) (a0_1 : Int) (a0_2 : ByteArray) (A0_3 : Option Addr) (c0_3 : Nat) (l0_3 : List ByteArray) (A0_4 : Option Addr) (c0_4 : Nat) (l0_4 : List (S25)) (r : Int) (w : World) (hr0_3 : Kd.C Kd.string w A0_3 l0_3.length l0_3) (hc0_3 : l0_3.length ≤ c0_3) (hr0_4 : Kd.C k25 w A0_4 l0_4.length l0_4) (hc0_4 : l0_4.length ≤ c0_4) (h : munimentref01_Depth.f k a0_0 a0_1 a0_2 l0_3 l0_4 = some r) :
    Calls Tryd.prog 53 #[.agg #[.int .i64 a0_0, .int .i64 a0_1, .string a0_2, .slice A0_3 l0_3.length c0_3, .slice A0_4 l0_4.length c0_4]] w fun e w' => e = .returned (.int .i64 r) ∧ Below w.heap.size w w' := by
  have hu25 := Tryd.underlying25
  have HR0_3 := Aside0.mk hr0_3
  have HC0_3 := Aside0.mk hc0_3
  clear hr0_3 hc0_3
  have HR0_4 := Aside0.mk hr0_4
  have HC0_4 := Aside0.mk hc0_4
  clear hr0_4 hc0_4
  have HB := Aside0.mk (Below.refl w.heap.size w)
  have H : ((munimentref01_depth.f k a0_0 a0_1 a0_2 l0_3 l0_4 7).bind fun t203 => (some t203)) = some r := h
  clear h
  replace H := Option.bind_eq_some_iff.mp H
  obtain ⟨t203, A20, H⟩ := H
  replace H : (some t203) = some r := H
  have A2 := Aside0.mk A20
  clear A20
  obtain rfl := Option.some.inj H
  go_enter Tryd.func53, Tryd.ntmps53
  go_wp2_with (first | ((with_reducible refine gate_dst (N := 1) rfl ?_); refine box_event ?hg (N := 1) ?hd (cs := #[.int .i64 a0_0, .int .i64 a0_1, .string a0_2, .slice A0_3 l0_3.length c0_3, .slice A0_4 l0_4.length c0_4]) (t := 25) ?hr ?_; (case hd => rfl); (case hg => rfl); (case hr => first | (go_simp; done) | (go_simp; rfl)); intro gb202 hg w3 hbox hb; have n0_ := Aside0.mk (below_step (by repeat (first | (with_reducible first | exact HB.out | apply below_alloc | apply pw_below_drewN | apply below_drew1) | exact HB.out)) hb); have n1_ := Aside0.mk (hbox); have n2_ := Aside0.mk ((by rw [hg]; exact (below_size (by repeat (first | (with_reducible first | exact HB.out | apply below_alloc | apply pw_below_drewN | apply below_drew1) | exact HB.out))) : w.heap.size ≤ gb202)); have n3_ := Aside0.mk ((by rw [hg]; exact (below_size (by repeat (first | (with_reducible first | exact HB.out | apply below_alloc | apply pw_below_drewN | apply below_drew1) | exact HB.out))) : w.heap.size ≤ gb202)); clear HB; have HB := n0_; have BK202 := n1_; have GW202 := n2_; have GE202 := n3_; clear n0_ n1_ n2_ n3_; clear hb hbox hg; have hcz4_0 : w3.cell? ⟨gb202, 0, none⟩ = some (.int .i64 a0_0) := (blk_cell BK202.out 0).trans rfl; have hcz4_1 : w3.cell? ⟨gb202, 1, none⟩ = some (.int .i64 a0_1) := (blk_cell BK202.out 1).trans rfl; have hcz4_2 : w3.cell? ⟨gb202, 2, none⟩ = some (.string a0_2) := (blk_cell BK202.out 2).trans rfl; have hcz4_3 : w3.cell? ⟨gb202, 3, none⟩ = some (.slice A0_3 l0_3.length c0_3) := (blk_cell BK202.out 3).trans rfl; have hcz4_4 : w3.cell? ⟨gb202, 4, none⟩ = some (.slice A0_4 l0_4.length c0_4) := (blk_cell BK202.out 4).trans rfl; have hfz4_0 := blk_frozen BK202.out 0; have hfz4_1 := blk_frozen BK202.out 1; have hfz4_2 := blk_frozen BK202.out 2; have hfz4_3 := blk_frozen BK202.out 3; have hfz4_4 := blk_frozen BK202.out 4) | ((with_reducible refine gate_callee (f := 80) rfl ?_); refine goesL_ (some 4) rfl rfl Tryd.func80 (by kernel_rfl) rfl #[.agg #[.int .i64 a0_0, .int .i64 a0_1, .string a0_2, .slice A0_3 l0_3.length c0_3, .slice A0_4 l0_4.length c0_4], .int .i64 7] rfl (by (try simp only [List.map_toArray, List.map_cons, List.map_nil]); first | done | rfl | (simp only [List.length_drop, List.length_take]; rfl)) ?_; (with_reducible refine (munimentref01_depth.calls k a0_0 a0_1 a0_2 _ _ l0_3 _ _ l0_4 7 t203 _ ?side1 ?side2 ?side3 ?side4 A2.out).mono ?_); (case side1 => repeat (first | exact (Kd.C_below HR0_3.out HB.out) | (with_reducible refine Kd.C_alloc ?_ _) | (with_reducible refine Kd.C_drewN ?_ _) | (with_reducible refine Kd.C_drew ?_))); (case side2 => exact HC0_3.out); (case side3 => repeat (first | exact (Kd.C_below HR0_4.out HB.out) | (with_reducible refine Kd.C_alloc ?_ _) | (with_reducible refine Kd.C_drewN ?_ _) | (with_reducible refine Kd.C_drew ?_))); (case side4 => exact HC0_4.out); rintro e w5 ⟨rfl, hb⟩; refine ⟨_, rfl, ?_⟩; have n0_ := Aside0.mk (blk_below (g := gb202) (o := .cells #[.int .i64 a0_0, .int .i64 a0_1, .string a0_2, .slice A0_3 l0_3.length c0_3, .slice A0_4 l0_4.length c0_4] 25 (0, 0)) (by (with_reducible repeat (first | refine blk_drewN ?_ _ | refine blk_drew ?_ | refine blk_alloc ?_ _)); exact BK202.out) hb); have n1_ := Aside0.mk (below_step (by repeat (first | (with_reducible first | exact HB.out | apply below_alloc | apply pw_below_drewN | apply below_drew1 | refine below_set ?_ GE202.out) | exact HB.out)) hb); clear BK202; clear HB; have BK202 := n0_; have HB := n1_; clear n0_ n1_; (try clear hb); (try clear hb2); (try clear hk); (try clear hi)))
  go_ret
  exact ⟨by first | rfl | (simp [errW_none, errW_some] <;> rfl) | (simp [*, errW_none, errW_some] <;> rfl), by repeat (first | (with_reducible first | exact HB.out | apply below_alloc | apply pw_below_drewN | apply below_drew1 | refine below_set ?_ GE202.out) | exact HB.out)⟩

-- NOT PRINTED: function 145 (munimentref01_broken)

-- NOT PRINTED: function 125 (munimentref01_Valid)

-- NOT PRINTED: function 81 (munimentref01_text)

-- NOT PRINTED: function 54 (munimentref01_formed)

-- NOT PRINTED: function 32 (munimentref01_Formed)

/-! ### munimentref15_sign: function 101 -/
def munimentref15_sign.f (a0 : ByteArray) : Option (Bool) := if (a0.size : Int) > 0 then (if 0 < (a0.size : Int) then (some ((bt a0 0) == 36)) else (none)) else (some false)
set_option maxHeartbeats 8000000 in
set_option maxRecDepth 100000 in
theorem munimentref15_sign.calls (a0 : ByteArray) (r : Bool) (w : World) (h : munimentref15_sign.f a0 = some r) :
    Calls Tryd.prog 101 #[.string a0] w fun e w' => e = .returned (.bool r) ∧ Drawn0 w w' := by
  have H : (if (a0.size : Int) > 0 then (if 0 < (a0.size : Int) then (some ((bt a0 0) == 36)) else (none)) else (some false)) = some r := h
  clear h
  by_cases c2 : (a0.size : Int) > 0
  · rw [if_pos c2] at H
    have c2b0 : decide (0 < (a0.size : Int)) = true := decide_eq_true c2
    have c2b1 : decide (0 < a0.size) = true := decide_eq_true (by omega)
    clear c2
    by_cases c3 : 0 < (a0.size : Int)
    · rw [if_pos c3] at H
      have c3b0 : decide (0 < (a0.size : Int)) = true := decide_eq_true c3
      have c3b1 : decide (0 < a0.size) = true := decide_eq_true (by omega)
      clear c3
      obtain rfl := Option.some.inj H
      have p4 : 0 ≤ (0 : Int) := (by omega)
      have q4 : 0 < a0.size := (by have : (0 : Int) < (a0.size : Int) := of_decide_eq_true (by first | (with_reducible assumption) | assumption); omega)
      have hx4 : ∀ h : 0 < a0.size, ((a0[0]'h).toNat : Int) = bt a0 0 := bt_at a0 0
      clear p4
      have qi4 : (0 < (a0.size : Int)) = True := eq_true (of_decide_eq_true (by first | (with_reducible assumption) | assumption))
      replace q4 := eq_true q4
      go_enter Tryd.func101, Tryd.ntmps101
      go_wp2
      go_ret
      exact ⟨by first | rfl | (simp; done) | (simp [*]; done), by repeat (first | exact Drawn0.refl _ | apply Drawn0.step)⟩
    · rw [if_neg c3] at H
      exact absurd H (by simp)
  · rw [if_neg c2] at H
    have c2b0 : decide (0 < (a0.size : Int)) = false := decide_eq_false c2
    have c2b1 : decide (0 < a0.size) = false := decide_eq_false (by omega)
    clear c2
    obtain rfl := Option.some.inj H
    go_enter Tryd.func101, Tryd.ntmps101
    go_wp2
    go_ret
    exact ⟨by first | rfl | (simp; done) | (simp [*]; done), by repeat (first | exact Drawn0.refl _ | apply Drawn0.step)⟩

/-! ### munimentref15_Tests: function 83 -/
def munimentref15_Tests.l0 : Nat → Int → Int → Int → ByteArray → List ByteArray → List (S25) → Option (Bool)
  | 0, _, _, _, _, _, _ => none
  | k + 1, x3, x208000, x208001, x208002, x208003, x208004 => if x3 < (x208003.length : Int) then (if 0 ≤ x3 then ((munimentref15_sign.f (rdOf ByteArray.empty x208003 x3)).bind fun t209 => (if t209 = true then (some true) else (munimentref15_Tests.l0 k (wrap64 (x3 + 1)) x208000 x208001 x208002 x208003 x208004))) else (none)) else (some false)
def munimentref15_Tests.f (k : Nat) (a0_0 : Int) (a0_1 : Int) (a0_2 : ByteArray) (l0_3 : List ByteArray) (l0_4 : List (S25)) : Option (Bool) := munimentref15_Tests.l0 k 0 a0_0 a0_1 a0_2 l0_3 l0_4
theorem munimentref15_Tests.mono_l : ∀ k, (∀ y0 y1 y2 y3 y4 y5, LeO (munimentref15_Tests.l0 k y0 y1 y2 y3 y4 y5) (munimentref15_Tests.l0 (k + 1) y0 y1 y2 y3 y4 y5))
  | 0 => fun _ _ _ _ _ _ r h => by simp [munimentref15_Tests.l0] at h
  | k + 1 => by
    have ih0 := munimentref15_Tests.mono_l k
    · intro y0 y1 y2 y3 y4 y5
      unfold munimentref15_Tests.l0
      repeat' first
      | (with_reducible exact ih0 _ _ _ _ _ _)
      | (with_reducible exact LeO.refl _)
      | (with_reducible exact LeO.none _)
      | (with_reducible refine LeO.ite ?_ ?_)
      | (with_reducible refine LeO.bind ?_ (fun _ => ?_))
      | exact ih0 _ _ _ _ _ _
      | exact LeO.none _
      | refine LeO.ite ?_ ?_
      | refine LeO.bind ?_ (fun _ => ?_)
theorem munimentref15_Tests.mono : ∀ a0 a1 a2 a3 a4 k, LeO (munimentref15_Tests.f k a0 a1 a2 a3 a4) (munimentref15_Tests.f (k + 1) a0 a1 a2 a3 a4) := by
  intro a0 a1 a2 a3 a4 k
  have ih0 := munimentref15_Tests.mono_l k
  unfold munimentref15_Tests.f
  repeat' first
      | (with_reducible exact ih0 _ _ _ _ _ _)
      | (with_reducible exact LeO.refl _)
      | (with_reducible exact LeO.none _)
      | (with_reducible refine LeO.ite ?_ ?_)
      | (with_reducible refine LeO.bind ?_ (fun _ => ?_))
      | exact ih0 _ _ _ _ _ _
      | exact LeO.none _
      | refine LeO.ite ?_ ?_
      | refine LeO.bind ?_ (fun _ => ?_)
set_option maxHeartbeats 8000000 in
set_option maxRecDepth 100000 in
theorem munimentref15_Tests.calls (k : Nat) (a0_0 : Int) (a0_1 : Int) (a0_2 : ByteArray) (A0_3 : Option Addr) (c0_3 : Nat) (l0_3 : List ByteArray) (A0_4 : Option Addr) (c0_4 : Nat) (l0_4 : List (S25)) (r : Bool) (w : World) (hr0_3 : Kd.C Kd.string w A0_3 l0_3.length l0_3) (hc0_3 : l0_3.length ≤ c0_3) (hr0_4 : Kd.C k25 w A0_4 l0_4.length l0_4) (hc0_4 : l0_4.length ≤ c0_4) (h : munimentref15_Tests.f k a0_0 a0_1 a0_2 l0_3 l0_4 = some r) :
    Calls Tryd.prog 83 #[.agg #[.int .i64 a0_0, .int .i64 a0_1, .string a0_2, .slice A0_3 l0_3.length c0_3, .slice A0_4 l0_4.length c0_4]] w fun e w' => e = .returned (.bool r) ∧ Below w.heap.size w w' := by
  have hu25 := Tryd.underlying25
  have HR0_3 := Aside0.mk hr0_3
  have HC0_3 := Aside0.mk hc0_3
  clear hr0_3 hc0_3
  have HR0_4 := Aside0.mk hr0_4
  have HC0_4 := Aside0.mk hc0_4
  clear hr0_4 hc0_4
  have HB := Aside0.mk (Below.refl w.heap.size w)
  have H : (munimentref15_Tests.l0 k 0 a0_0 a0_1 a0_2 l0_3 l0_4) = some r := h
  clear h
  have H' := Aside0.mk H
  clear H
  go_enter Tryd.func83, Tryd.ntmps83
  go_wp2_with (first | ((with_reducible refine gate_dst (N := 1) rfl ?_); refine box_event ?hg (N := 1) ?hd (cs := #[.int .i64 a0_0, .int .i64 a0_1, .string a0_2, .slice A0_3 l0_3.length c0_3, .slice A0_4 l0_4.length c0_4]) (t := 25) ?hr ?_; (case hd => rfl); (case hg => rfl); (case hr => first | (go_simp; done) | (go_simp; rfl)); intro gb207 hg w2 hbox hb; have n0_ := Aside0.mk (below_step (by repeat (first | (with_reducible first | exact HB.out | apply below_alloc | apply pw_below_drewN | apply below_drew1) | exact HB.out)) hb); have n1_ := Aside0.mk (hbox); have n2_ := Aside0.mk ((by rw [hg]; exact (below_size (by repeat (first | (with_reducible first | exact HB.out | apply below_alloc | apply pw_below_drewN | apply below_drew1) | exact HB.out))) : w.heap.size ≤ gb207)); have n3_ := Aside0.mk ((by rw [hg]; exact (below_size (by repeat (first | (with_reducible first | exact HB.out | apply below_alloc | apply pw_below_drewN | apply below_drew1) | exact HB.out))) : w.heap.size ≤ gb207)); clear HB; have HB := n0_; have BK207 := n1_; have GW207 := n2_; have GE207 := n3_; clear n0_ n1_ n2_ n3_; clear hb hbox hg))
  go_loopg [3] k (fun kq v3 w' => ∃ (x3_1 : Int), v3 = .int .i64 x3_1 ∧ Aside0 (munimentref15_Tests.l0 kq x3_1 a0_0 a0_1 a0_2 l0_3 l0_4 = some r) ∧ Aside0 (kq ≤ k) ∧ Aside0 (w'.heap[gb207]? = some (.cells #[.int .i64 a0_0, .int .i64 a0_1, .string a0_2, (.slice A0_3 l0_3.length c0_3), (.slice A0_4 l0_4.length c0_4)] 25 (0, 0))) ∧ Aside0 (Below w.heap.size w w'))
  case atStart => exact ⟨(0), (by first | rfl | (simp; done) | (simp [*]; done)), H', ⟨Nat.le_refl _⟩, ⟨by (with_reducible repeat (first | refine blk_drewN ?_ _ | refine blk_drew ?_ | refine blk_alloc ?_ _)); exact BK207.out⟩, ⟨by repeat (first | (with_reducible first | exact HB.out | apply below_alloc | apply pw_below_drewN | apply below_drew1 | refine below_set ?_ GE207.out) | exact HB.out)⟩⟩
  case round =>
    clear H'
    try clear p2
    obtain ⟨x3_1, rfl, HA, HK1, BK207, HB⟩ := hrel
    cases gk with
    | zero => exact absurd HA.out (by simp [munimentref15_Tests.l0])
    | succ k1 =>
      have H := HA.out
      clear HA
      simp only [munimentref15_Tests.l0] at H
      by_cases c3 : x3_1 < (l0_3.length : Int)
      · rw [if_pos c3] at H
        have c3b0 : decide (x3_1 < (l0_3.length : Int)) = true := decide_eq_true c3
        clear c3
        by_cases c4 : 0 ≤ x3_1
        · rw [if_pos c4] at H
          have c4b0 : decide (0 ≤ x3_1) = true := decide_eq_true c4
          clear c4
          replace H := Option.bind_eq_some_iff.mp H
          obtain ⟨t209, A50, H⟩ := H
          replace H : (if t209 = true then (some true) else (munimentref15_Tests.l0 k1 (wrap64 (x3_1 + 1)) a0_0 a0_1 a0_2 l0_3 l0_4)) = some r := H
          have A5 := Aside0.mk A50
          clear A50
          by_cases c6 : t209 = true
          · subst c6
            have H1 : (some true) = some r := by rw [if_pos rfl] at H; exact H
            clear H
            have H := H1
            clear H1
            obtain rfl := Option.some.inj H
            have hcz7_0 : wr.cell? ⟨gb207, 0, none⟩ = some (.int .i64 a0_0) := (blk_cell BK207.out 0).trans rfl
            have hcz7_1 : wr.cell? ⟨gb207, 1, none⟩ = some (.int .i64 a0_1) := (blk_cell BK207.out 1).trans rfl
            have hcz7_2 : wr.cell? ⟨gb207, 2, none⟩ = some (.string a0_2) := (blk_cell BK207.out 2).trans rfl
            have hcz7_3 : wr.cell? ⟨gb207, 3, none⟩ = some (.slice A0_3 l0_3.length c0_3) := (blk_cell BK207.out 3).trans rfl
            have hcz7_4 : wr.cell? ⟨gb207, 4, none⟩ = some (.slice A0_4 l0_4.length c0_4) := (blk_cell BK207.out 4).trans rfl
            have hfz7_0 := blk_frozen BK207.out 0
            have hfz7_1 := blk_frozen BK207.out 1
            have hfz7_2 := blk_frozen BK207.out 2
            have hfz7_3 := blk_frozen BK207.out 3
            have hfz7_4 := blk_frozen BK207.out 4
            have p208 : 0 ≤ (x3_1 : Int) := of_decide_eq_true (by first | (with_reducible assumption) | assumption)
            have q208 : x3_1 < (l0_3.length : Int) := of_decide_eq_true (by first | (with_reducible assumption) | assumption)
            obtain ⟨ad208, e208, hx208_0⟩ := Kd.at_string HR0_3.out x3_1 p208 q208
            cases e208
            replace hx208_0 := (HB.out.cell (World.block_lt_of_cell? w _ hx208_0)).trans hx208_0
            replace p208 := eq_true p208
            replace q208 := eq_true q208
            go_wp2_with (first | ((with_reducible refine gate_callee (f := 101) rfl ?_); refine goesL_ (some 16) rfl rfl Tryd.func101 (by kernel_rfl) rfl #[.string (rdOf ByteArray.empty l0_3 x3_1)] rfl (by (try simp only [List.map_toArray, List.map_cons, List.map_nil]); first | done | rfl | (simp only [List.length_drop, List.length_take]; rfl)) ?_; (with_reducible refine (munimentref15_sign.calls (rdOf ByteArray.empty l0_3 x3_1) true _ A5.out).mono ?_); rintro e w' ⟨rfl, ⟨nd, rfl⟩⟩; refine ⟨_, rfl, ?_⟩))
            go_ret
            exact ⟨by first | rfl | (simp [errW_none, errW_some] <;> rfl) | (simp [*, errW_none, errW_some] <;> rfl), by repeat (first | (with_reducible first | exact HB.out | apply below_alloc | apply pw_below_drewN | apply below_drew1 | refine below_set ?_ GE207.out) | exact HB.out)⟩
          · replace c6 := Bool.eq_false_iff.mpr c6
            subst c6
            have H1 : (munimentref15_Tests.l0 k1 (wrap64 (x3_1 + 1)) a0_0 a0_1 a0_2 l0_3 l0_4) = some r := by rw [if_neg (show ¬ (false = true) by decide)] at H; exact H
            clear H
            have H := H1
            clear H1
            have H' := Aside0.mk H
            clear H
            have hcz8_0 : wr.cell? ⟨gb207, 0, none⟩ = some (.int .i64 a0_0) := (blk_cell BK207.out 0).trans rfl
            have hcz8_1 : wr.cell? ⟨gb207, 1, none⟩ = some (.int .i64 a0_1) := (blk_cell BK207.out 1).trans rfl
            have hcz8_2 : wr.cell? ⟨gb207, 2, none⟩ = some (.string a0_2) := (blk_cell BK207.out 2).trans rfl
            have hcz8_3 : wr.cell? ⟨gb207, 3, none⟩ = some (.slice A0_3 l0_3.length c0_3) := (blk_cell BK207.out 3).trans rfl
            have hcz8_4 : wr.cell? ⟨gb207, 4, none⟩ = some (.slice A0_4 l0_4.length c0_4) := (blk_cell BK207.out 4).trans rfl
            have hfz8_0 := blk_frozen BK207.out 0
            have hfz8_1 := blk_frozen BK207.out 1
            have hfz8_2 := blk_frozen BK207.out 2
            have hfz8_3 := blk_frozen BK207.out 3
            have hfz8_4 := blk_frozen BK207.out 4
            have p208 : 0 ≤ (x3_1 : Int) := of_decide_eq_true (by first | (with_reducible assumption) | assumption)
            have q208 : x3_1 < (l0_3.length : Int) := of_decide_eq_true (by first | (with_reducible assumption) | assumption)
            obtain ⟨ad208, e208, hx208_0⟩ := Kd.at_string HR0_3.out x3_1 p208 q208
            cases e208
            replace hx208_0 := (HB.out.cell (World.block_lt_of_cell? w _ hx208_0)).trans hx208_0
            replace p208 := eq_true p208
            replace q208 := eq_true q208
            go_wp2_with (first | ((with_reducible refine gate_callee (f := 101) rfl ?_); refine goesL_ (some 16) rfl rfl Tryd.func101 (by kernel_rfl) rfl #[.string (rdOf ByteArray.empty l0_3 x3_1)] rfl (by (try simp only [List.map_toArray, List.map_cons, List.map_nil]); first | done | rfl | (simp only [List.length_drop, List.length_take]; rfl)) ?_; (with_reducible refine (munimentref15_sign.calls (rdOf ByteArray.empty l0_3 x3_1) false _ A5.out).mono ?_); rintro e w' ⟨rfl, ⟨nd, rfl⟩⟩; refine ⟨_, rfl, ?_⟩))
            go_roundg k1
            case measure => have := HK1.out; omega
            case rel => exact ⟨(wrap64 (x3_1 + 1)), (by first | rfl | (simp; done) | (simp [*]; done)), H', ⟨by have := HK1.out; omega⟩, ⟨by (with_reducible repeat (first | refine blk_drewN ?_ _ | refine blk_drew ?_ | refine blk_alloc ?_ _)); exact BK207.out⟩, ⟨by repeat (first | (with_reducible first | exact HB.out | apply below_alloc | apply pw_below_drewN | apply below_drew1 | refine below_set ?_ GE207.out) | exact HB.out)⟩⟩
        · rw [if_neg c4] at H
          exact absurd H (by simp)
      · rw [if_neg c3] at H
        have c3b0 : decide (x3_1 < (l0_3.length : Int)) = false := decide_eq_false c3
        clear c3
        obtain rfl := Option.some.inj H
        have hcz9_0 : wr.cell? ⟨gb207, 0, none⟩ = some (.int .i64 a0_0) := (blk_cell BK207.out 0).trans rfl
        have hcz9_1 : wr.cell? ⟨gb207, 1, none⟩ = some (.int .i64 a0_1) := (blk_cell BK207.out 1).trans rfl
        have hcz9_2 : wr.cell? ⟨gb207, 2, none⟩ = some (.string a0_2) := (blk_cell BK207.out 2).trans rfl
        have hcz9_3 : wr.cell? ⟨gb207, 3, none⟩ = some (.slice A0_3 l0_3.length c0_3) := (blk_cell BK207.out 3).trans rfl
        have hcz9_4 : wr.cell? ⟨gb207, 4, none⟩ = some (.slice A0_4 l0_4.length c0_4) := (blk_cell BK207.out 4).trans rfl
        have hfz9_0 := blk_frozen BK207.out 0
        have hfz9_1 := blk_frozen BK207.out 1
        have hfz9_2 := blk_frozen BK207.out 2
        have hfz9_3 := blk_frozen BK207.out 3
        have hfz9_4 := blk_frozen BK207.out 4
        go_wp2
        go_ret
        exact ⟨by first | rfl | (simp [errW_none, errW_some] <;> rfl) | (simp [*, errW_none, errW_some] <;> rfl), by repeat (first | (with_reducible first | exact HB.out | apply below_alloc | apply pw_below_drewN | apply below_drew1 | refine below_set ?_ GE207.out) | exact HB.out)⟩

-- NOT PRINTED: function 100 (munimentref02_Steps)

/-! ### munimentref15_test: function 102 -/
def munimentref15_test.j0 : Nat → ByteArray → Bool → Int → Int → ByteArray → List ByteArray → List (S25) → Option (Bool)
  | 0, _, _, _, _, _, _, _ => none
  | k + 1, x5, x6, x211000, x211001, x211002, x211003, x211004 => if x6 = true then (some true) else (if x5.toList = ([36, 105, 110] : List UInt8) then (some (x211000 == 5)) else (if x5.toList = ([36, 104, 97, 115] : List UInt8) then (if x211000 = 2 then (some true) else (some (x211000 == 1))) else (some false)))
def munimentref15_test.f (k : Nat) (a0 : ByteArray) (a1_0 : Int) (a1_1 : Int) (a1_2 : ByteArray) (l1_3 : List ByteArray) (l1_4 : List (S25)) : Option (Bool) := if a0.toList = ([36, 101, 113] : List UInt8) then (munimentref15_test.j0 k a0 (a0.toList == ([36, 101, 113] : List UInt8)) a1_0 a1_1 a1_2 l1_3 l1_4) else (if a0.toList = ([36, 110, 101] : List UInt8) then (munimentref15_test.j0 k a0 (a0.toList == ([36, 110, 101] : List UInt8)) a1_0 a1_1 a1_2 l1_3 l1_4) else (if a0.toList = ([36, 108, 116] : List UInt8) then (munimentref15_test.j0 k a0 (a0.toList == ([36, 108, 116] : List UInt8)) a1_0 a1_1 a1_2 l1_3 l1_4) else (if a0.toList = ([36, 108, 101] : List UInt8) then (munimentref15_test.j0 k a0 (a0.toList == ([36, 108, 101] : List UInt8)) a1_0 a1_1 a1_2 l1_3 l1_4) else (if a0.toList = ([36, 103, 116] : List UInt8) then (munimentref15_test.j0 k a0 (a0.toList == ([36, 103, 116] : List UInt8)) a1_0 a1_1 a1_2 l1_3 l1_4) else (munimentref15_test.j0 k a0 (a0.toList == ([36, 103, 101] : List UInt8)) a1_0 a1_1 a1_2 l1_3 l1_4)))))
theorem munimentref15_test.mono_l : ∀ k, (∀ y0 y1 y2 y3 y4 y5 y6, LeO (munimentref15_test.j0 k y0 y1 y2 y3 y4 y5 y6) (munimentref15_test.j0 (k + 1) y0 y1 y2 y3 y4 y5 y6))
  | 0 => fun _ _ _ _ _ _ _ r h => by simp [munimentref15_test.j0] at h
  | k + 1 => by
    have ih0 := munimentref15_test.mono_l k
    · intro y0 y1 y2 y3 y4 y5 y6
      unfold munimentref15_test.j0
      repeat' first
      | (with_reducible exact ih0 _ _ _ _ _ _ _)
      | (with_reducible exact LeO.refl _)
      | (with_reducible exact LeO.none _)
      | (with_reducible refine LeO.ite ?_ ?_)
      | (with_reducible refine LeO.bind ?_ (fun _ => ?_))
      | exact ih0 _ _ _ _ _ _ _
      | exact LeO.none _
      | refine LeO.ite ?_ ?_
      | refine LeO.bind ?_ (fun _ => ?_)
theorem munimentref15_test.mono : ∀ a0 a1 a2 a3 a4 a5 k, LeO (munimentref15_test.f k a0 a1 a2 a3 a4 a5) (munimentref15_test.f (k + 1) a0 a1 a2 a3 a4 a5) := by
  intro a0 a1 a2 a3 a4 a5 k
  have ih0 := munimentref15_test.mono_l k
  unfold munimentref15_test.f
  repeat' first
      | (with_reducible exact ih0 _ _ _ _ _ _ _)
      | (with_reducible exact LeO.refl _)
      | (with_reducible exact LeO.none _)
      | (with_reducible refine LeO.ite ?_ ?_)
      | (with_reducible refine LeO.bind ?_ (fun _ => ?_))
      | exact ih0 _ _ _ _ _ _ _
      | exact LeO.none _
      | refine LeO.ite ?_ ?_
      | refine LeO.bind ?_ (fun _ => ?_)
set_option maxHeartbeats 8000000 in
set_option maxRecDepth 100000 in
theorem munimentref15_test.calls (k : Nat) (a0 : ByteArray) (a1_0 : Int) (a1_1 : Int) (a1_2 : ByteArray) (A1_3 : Option Addr) (c1_3 : Nat) (l1_3 : List ByteArray) (A1_4 : Option Addr) (c1_4 : Nat) (l1_4 : List (S25)) (r : Bool) (w : World) (hr1_3 : Kd.C Kd.string w A1_3 l1_3.length l1_3) (hc1_3 : l1_3.length ≤ c1_3) (hr1_4 : Kd.C k25 w A1_4 l1_4.length l1_4) (hc1_4 : l1_4.length ≤ c1_4) (h : munimentref15_test.f k a0 a1_0 a1_1 a1_2 l1_3 l1_4 = some r) :
    Calls Tryd.prog 102 #[.string a0, .agg #[.int .i64 a1_0, .int .i64 a1_1, .string a1_2, .slice A1_3 l1_3.length c1_3, .slice A1_4 l1_4.length c1_4]] w fun e w' => e = .returned (.bool r) ∧ Below w.heap.size w w' := by
  have hu25 := Tryd.underlying25
  have HR1_3 := Aside0.mk hr1_3
  have HC1_3 := Aside0.mk hc1_3
  clear hr1_3 hc1_3
  have HR1_4 := Aside0.mk hr1_4
  have HC1_4 := Aside0.mk hc1_4
  clear hr1_4 hc1_4
  have HB := Aside0.mk (Below.refl w.heap.size w)
  have H : (if a0.toList = ([36, 101, 113] : List UInt8) then (munimentref15_test.j0 k a0 (a0.toList == ([36, 101, 113] : List UInt8)) a1_0 a1_1 a1_2 l1_3 l1_4) else (if a0.toList = ([36, 110, 101] : List UInt8) then (munimentref15_test.j0 k a0 (a0.toList == ([36, 110, 101] : List UInt8)) a1_0 a1_1 a1_2 l1_3 l1_4) else (if a0.toList = ([36, 108, 116] : List UInt8) then (munimentref15_test.j0 k a0 (a0.toList == ([36, 108, 116] : List UInt8)) a1_0 a1_1 a1_2 l1_3 l1_4) else (if a0.toList = ([36, 108, 101] : List UInt8) then (munimentref15_test.j0 k a0 (a0.toList == ([36, 108, 101] : List UInt8)) a1_0 a1_1 a1_2 l1_3 l1_4) else (if a0.toList = ([36, 103, 116] : List UInt8) then (munimentref15_test.j0 k a0 (a0.toList == ([36, 103, 116] : List UInt8)) a1_0 a1_1 a1_2 l1_3 l1_4) else (munimentref15_test.j0 k a0 (a0.toList == ([36, 103, 101] : List UInt8)) a1_0 a1_1 a1_2 l1_3 l1_4)))))) = some r := h
  clear h
  have HC3 := Aside0.mk H
  clear H
  go_enter Tryd.func102, Tryd.ntmps102
  go_upto_if 6 with (first | ((with_reducible refine gate_dst (N := 3) rfl ?_); refine box_event ?hg (N := 3) ?hd (cs := #[.int .i64 a1_0, .int .i64 a1_1, .string a1_2, .slice A1_3 l1_3.length c1_3, .slice A1_4 l1_4.length c1_4]) (t := 25) ?hr ?_; (case hd => rfl); (case hg => rfl); (case hr => first | (go_simp; done) | (go_simp; rfl)); intro gb210 hg w4 hbox hb; have n0_ := Aside0.mk (below_step (by repeat (first | (with_reducible first | exact HB.out | apply below_alloc | apply pw_below_drewN | apply below_drew1) | exact HB.out)) hb); have n1_ := Aside0.mk (hbox); have n2_ := Aside0.mk ((by rw [hg]; exact (below_size (by repeat (first | (with_reducible first | exact HB.out | apply below_alloc | apply pw_below_drewN | apply below_drew1) | exact HB.out))) : w.heap.size ≤ gb210)); have n3_ := Aside0.mk ((by rw [hg]; exact (below_size (by repeat (first | (with_reducible first | exact HB.out | apply below_alloc | apply pw_below_drewN | apply below_drew1) | exact HB.out))) : w.heap.size ≤ gb210)); clear HB; have HB := n0_; have BK210 := n1_; have GW210 := n2_; have GE210 := n3_; clear n0_ n1_ n2_ n3_; clear hb hbox hg))
  (try simp only [Act.put, List.setIfInBounds_toArray, List.set_cons_zero, List.set_cons_succ])
  go_cut [6] (fun v6 wc => ∃ (kq : Nat) (x6_2 : Bool), v6 = .bool x6_2 ∧ Aside0 (munimentref15_test.j0 kq a0 x6_2 a1_0 a1_1 a1_2 l1_3 l1_4 = some r) ∧ Aside0 (kq ≤ k) ∧ Aside0 (wc.heap[gb210]? = some (.cells #[.int .i64 a1_0, .int .i64 a1_1, .string a1_2, (.slice A1_3 l1_3.length c1_3), (.slice A1_4 l1_4.length c1_4)] 25 (0, 0))) ∧ Aside0 (Below w.heap.size w wc))
  case first =>
    have H := HC3.out
    clear HC3
    by_cases c5 : a0.toList = ([36, 101, 113] : List UInt8)
    · rw [if_pos c5] at H
      have c5b0 : (a0.toList == ([36, 101, 113] : List UInt8)) = true := beq_iff_eq.mpr c5
      have c5b1 : (a0.toList != ([36, 101, 113] : List UInt8)) = false := bne_eq_false_iff_eq.mpr c5
      clear c5
      (first | rw [c5b0] | (simp only [i64_w, i32_w]; rw [c5b0]) | skip)
      have H' := Aside0.mk H
      clear H
      go_wp2
      go_meet
      case rel => exact ⟨_, ((a0.toList == ([36, 101, 113] : List UInt8))), (by first | rfl | (simp; done) | (simp [*]; done)), H', ⟨by first | omega | exact Nat.le_refl _⟩, ⟨by (with_reducible repeat (first | refine blk_drewN ?_ _ | refine blk_drew ?_ | refine blk_alloc ?_ _)); exact BK210.out⟩, ⟨by repeat (first | (with_reducible first | exact HB.out | apply below_alloc | apply pw_below_drewN | apply below_drew1 | refine below_set ?_ GE210.out) | exact HB.out)⟩⟩
    · rw [if_neg c5] at H
      have c5b0 : (a0.toList == ([36, 101, 113] : List UInt8)) = false := beq_eq_false_iff_ne.mpr c5
      have c5b1 : (a0.toList != ([36, 101, 113] : List UInt8)) = true := bne_iff_ne.mpr c5
      (first | rw [c5b0] | (simp only [i64_w, i32_w]; rw [c5b0]) | skip)
      by_cases c6 : a0.toList = ([36, 110, 101] : List UInt8)
      · rw [if_pos c6] at H
        have c6b0 : (a0.toList == ([36, 110, 101] : List UInt8)) = true := beq_iff_eq.mpr c6
        have c6b1 : (a0.toList != ([36, 110, 101] : List UInt8)) = false := bne_eq_false_iff_eq.mpr c6
        clear c6
        have H' := Aside0.mk H
        clear H
        go_wp2
        go_meet
        case rel => exact ⟨_, ((a0.toList == ([36, 110, 101] : List UInt8))), (by first | rfl | (simp; done) | (simp [*]; done)), H', ⟨by first | omega | exact Nat.le_refl _⟩, ⟨by (with_reducible repeat (first | refine blk_drewN ?_ _ | refine blk_drew ?_ | refine blk_alloc ?_ _)); exact BK210.out⟩, ⟨by repeat (first | (with_reducible first | exact HB.out | apply below_alloc | apply pw_below_drewN | apply below_drew1 | refine below_set ?_ GE210.out) | exact HB.out)⟩⟩
      · rw [if_neg c6] at H
        have c6b0 : (a0.toList == ([36, 110, 101] : List UInt8)) = false := beq_eq_false_iff_ne.mpr c6
        have c6b1 : (a0.toList != ([36, 110, 101] : List UInt8)) = true := bne_iff_ne.mpr c6
        by_cases c7 : a0.toList = ([36, 108, 116] : List UInt8)
        · rw [if_pos c7] at H
          have c7b0 : (a0.toList == ([36, 108, 116] : List UInt8)) = true := beq_iff_eq.mpr c7
          have c7b1 : (a0.toList != ([36, 108, 116] : List UInt8)) = false := bne_eq_false_iff_eq.mpr c7
          clear c7
          have H' := Aside0.mk H
          clear H
          go_wp2
          go_meet
          case rel => exact ⟨_, ((a0.toList == ([36, 108, 116] : List UInt8))), (by first | rfl | (simp; done) | (simp [*]; done)), H', ⟨by first | omega | exact Nat.le_refl _⟩, ⟨by (with_reducible repeat (first | refine blk_drewN ?_ _ | refine blk_drew ?_ | refine blk_alloc ?_ _)); exact BK210.out⟩, ⟨by repeat (first | (with_reducible first | exact HB.out | apply below_alloc | apply pw_below_drewN | apply below_drew1 | refine below_set ?_ GE210.out) | exact HB.out)⟩⟩
        · rw [if_neg c7] at H
          have c7b0 : (a0.toList == ([36, 108, 116] : List UInt8)) = false := beq_eq_false_iff_ne.mpr c7
          have c7b1 : (a0.toList != ([36, 108, 116] : List UInt8)) = true := bne_iff_ne.mpr c7
          by_cases c8 : a0.toList = ([36, 108, 101] : List UInt8)
          · rw [if_pos c8] at H
            have c8b0 : (a0.toList == ([36, 108, 101] : List UInt8)) = true := beq_iff_eq.mpr c8
            have c8b1 : (a0.toList != ([36, 108, 101] : List UInt8)) = false := bne_eq_false_iff_eq.mpr c8
            clear c8
            have H' := Aside0.mk H
            clear H
            go_wp2
            go_meet
            case rel => exact ⟨_, ((a0.toList == ([36, 108, 101] : List UInt8))), (by first | rfl | (simp; done) | (simp [*]; done)), H', ⟨by first | omega | exact Nat.le_refl _⟩, ⟨by (with_reducible repeat (first | refine blk_drewN ?_ _ | refine blk_drew ?_ | refine blk_alloc ?_ _)); exact BK210.out⟩, ⟨by repeat (first | (with_reducible first | exact HB.out | apply below_alloc | apply pw_below_drewN | apply below_drew1 | refine below_set ?_ GE210.out) | exact HB.out)⟩⟩
          · rw [if_neg c8] at H
            have c8b0 : (a0.toList == ([36, 108, 101] : List UInt8)) = false := beq_eq_false_iff_ne.mpr c8
            have c8b1 : (a0.toList != ([36, 108, 101] : List UInt8)) = true := bne_iff_ne.mpr c8
            by_cases c9 : a0.toList = ([36, 103, 116] : List UInt8)
            · rw [if_pos c9] at H
              have c9b0 : (a0.toList == ([36, 103, 116] : List UInt8)) = true := beq_iff_eq.mpr c9
              have c9b1 : (a0.toList != ([36, 103, 116] : List UInt8)) = false := bne_eq_false_iff_eq.mpr c9
              clear c9
              have H' := Aside0.mk H
              clear H
              go_wp2
              go_meet
              case rel => exact ⟨_, ((a0.toList == ([36, 103, 116] : List UInt8))), (by first | rfl | (simp; done) | (simp [*]; done)), H', ⟨by first | omega | exact Nat.le_refl _⟩, ⟨by (with_reducible repeat (first | refine blk_drewN ?_ _ | refine blk_drew ?_ | refine blk_alloc ?_ _)); exact BK210.out⟩, ⟨by repeat (first | (with_reducible first | exact HB.out | apply below_alloc | apply pw_below_drewN | apply below_drew1 | refine below_set ?_ GE210.out) | exact HB.out)⟩⟩
            · rw [if_neg c9] at H
              have c9b0 : (a0.toList == ([36, 103, 116] : List UInt8)) = false := beq_eq_false_iff_ne.mpr c9
              have c9b1 : (a0.toList != ([36, 103, 116] : List UInt8)) = true := bne_iff_ne.mpr c9
              have H' := Aside0.mk H
              clear H
              go_wp2
              go_meet
              case rel => exact ⟨_, ((a0.toList == ([36, 103, 101] : List UInt8))), (by first | rfl | (simp; done) | (simp [*]; done)), H', ⟨by first | omega | exact Nat.le_refl _⟩, ⟨by (with_reducible repeat (first | refine blk_drewN ?_ _ | refine blk_drew ?_ | refine blk_alloc ?_ _)); exact BK210.out⟩, ⟨by repeat (first | (with_reducible first | exact HB.out | apply below_alloc | apply pw_below_drewN | apply below_drew1 | refine below_set ?_ GE210.out) | exact HB.out)⟩⟩
  case rest =>
    clear HC3
    try clear c1
    try clear p2
    try clear c5
    try clear c5b0
    try clear c5b1
    try clear c6
    try clear c6b0
    try clear c6b1
    try clear c7
    try clear c7b0
    try clear c7b1
    try clear c8
    try clear c8b0
    try clear c8b1
    try clear c9
    try clear c9b0
    try clear c9b1
    obtain ⟨kq, x6_2, rfl, HA, HJ2, BK210, HB⟩ := hcut
    cases kq with
    | zero => exact absurd HA.out (by simp [munimentref15_test.j0])
    | succ kj2 =>
      have H := HA.out
      clear HA
      simp only [munimentref15_test.j0] at H
      by_cases c10 : x6_2 = true
      · subst c10
        have H1 : (some true) = some r := by rw [if_pos rfl] at H; exact H
        clear H
        have H := H1
        clear H1
        obtain rfl := Option.some.inj H
        go_wp2
        go_ret
        exact ⟨by first | rfl | (simp [errW_none, errW_some] <;> rfl) | (simp [*, errW_none, errW_some] <;> rfl), by repeat (first | (with_reducible first | exact HB.out | apply below_alloc | apply pw_below_drewN | apply below_drew1 | refine below_set ?_ GE210.out) | exact HB.out)⟩
      · replace c10 := Bool.eq_false_iff.mpr c10
        subst c10
        have H1 : (if a0.toList = ([36, 105, 110] : List UInt8) then (some (a1_0 == 5)) else (if a0.toList = ([36, 104, 97, 115] : List UInt8) then (if a1_0 = 2 then (some true) else (some (a1_0 == 1))) else (some false))) = some r := by rw [if_neg (show ¬ (false = true) by decide)] at H; exact H
        clear H
        have H := H1
        clear H1
        by_cases c11 : a0.toList = ([36, 105, 110] : List UInt8)
        · rw [if_pos c11] at H
          have c11b0 : (a0.toList == ([36, 105, 110] : List UInt8)) = true := beq_iff_eq.mpr c11
          have c11b1 : (a0.toList != ([36, 105, 110] : List UInt8)) = false := bne_eq_false_iff_eq.mpr c11
          clear c11
          obtain rfl := Option.some.inj H
          have hcz12_0 : wc.cell? ⟨gb210, 0, none⟩ = some (.int .i64 a1_0) := (blk_cell BK210.out 0).trans rfl
          have hcz12_1 : wc.cell? ⟨gb210, 1, none⟩ = some (.int .i64 a1_1) := (blk_cell BK210.out 1).trans rfl
          have hcz12_2 : wc.cell? ⟨gb210, 2, none⟩ = some (.string a1_2) := (blk_cell BK210.out 2).trans rfl
          have hcz12_3 : wc.cell? ⟨gb210, 3, none⟩ = some (.slice A1_3 l1_3.length c1_3) := (blk_cell BK210.out 3).trans rfl
          have hcz12_4 : wc.cell? ⟨gb210, 4, none⟩ = some (.slice A1_4 l1_4.length c1_4) := (blk_cell BK210.out 4).trans rfl
          have hfz12_0 := blk_frozen BK210.out 0
          have hfz12_1 := blk_frozen BK210.out 1
          have hfz12_2 := blk_frozen BK210.out 2
          have hfz12_3 := blk_frozen BK210.out 3
          have hfz12_4 := blk_frozen BK210.out 4
          go_wp2
          go_ret
          exact ⟨by first | rfl | (simp [errW_none, errW_some] <;> rfl) | (simp [*, errW_none, errW_some] <;> rfl), by repeat (first | (with_reducible first | exact HB.out | apply below_alloc | apply pw_below_drewN | apply below_drew1 | refine below_set ?_ GE210.out) | exact HB.out)⟩
        · rw [if_neg c11] at H
          have c11b0 : (a0.toList == ([36, 105, 110] : List UInt8)) = false := beq_eq_false_iff_ne.mpr c11
          have c11b1 : (a0.toList != ([36, 105, 110] : List UInt8)) = true := bne_iff_ne.mpr c11
          by_cases c13 : a0.toList = ([36, 104, 97, 115] : List UInt8)
          · rw [if_pos c13] at H
            have c13b0 : (a0.toList == ([36, 104, 97, 115] : List UInt8)) = true := beq_iff_eq.mpr c13
            have c13b1 : (a0.toList != ([36, 104, 97, 115] : List UInt8)) = false := bne_eq_false_iff_eq.mpr c13
            clear c13
            by_cases c14 : a1_0 = 2
            · rw [if_pos c14] at H
              have c14b0 : (a1_0 == 2) = true := beq_iff_eq.mpr c14
              have c14b1 : (a1_0 != 2) = false := bne_eq_false_iff_eq.mpr c14
              clear c14
              obtain rfl := Option.some.inj H
              have hcz15_0 : wc.cell? ⟨gb210, 0, none⟩ = some (.int .i64 a1_0) := (blk_cell BK210.out 0).trans rfl
              have hcz15_1 : wc.cell? ⟨gb210, 1, none⟩ = some (.int .i64 a1_1) := (blk_cell BK210.out 1).trans rfl
              have hcz15_2 : wc.cell? ⟨gb210, 2, none⟩ = some (.string a1_2) := (blk_cell BK210.out 2).trans rfl
              have hcz15_3 : wc.cell? ⟨gb210, 3, none⟩ = some (.slice A1_3 l1_3.length c1_3) := (blk_cell BK210.out 3).trans rfl
              have hcz15_4 : wc.cell? ⟨gb210, 4, none⟩ = some (.slice A1_4 l1_4.length c1_4) := (blk_cell BK210.out 4).trans rfl
              have hfz15_0 := blk_frozen BK210.out 0
              have hfz15_1 := blk_frozen BK210.out 1
              have hfz15_2 := blk_frozen BK210.out 2
              have hfz15_3 := blk_frozen BK210.out 3
              have hfz15_4 := blk_frozen BK210.out 4
              go_wp2
              go_ret
              exact ⟨by first | rfl | (simp [errW_none, errW_some] <;> rfl) | (simp [*, errW_none, errW_some] <;> rfl), by repeat (first | (with_reducible first | exact HB.out | apply below_alloc | apply pw_below_drewN | apply below_drew1 | refine below_set ?_ GE210.out) | exact HB.out)⟩
            · rw [if_neg c14] at H
              have c14b0 : (a1_0 == 2) = false := beq_eq_false_iff_ne.mpr c14
              have c14b1 : (a1_0 != 2) = true := bne_iff_ne.mpr c14
              obtain rfl := Option.some.inj H
              have hcz16_0 : wc.cell? ⟨gb210, 0, none⟩ = some (.int .i64 a1_0) := (blk_cell BK210.out 0).trans rfl
              have hcz16_1 : wc.cell? ⟨gb210, 1, none⟩ = some (.int .i64 a1_1) := (blk_cell BK210.out 1).trans rfl
              have hcz16_2 : wc.cell? ⟨gb210, 2, none⟩ = some (.string a1_2) := (blk_cell BK210.out 2).trans rfl
              have hcz16_3 : wc.cell? ⟨gb210, 3, none⟩ = some (.slice A1_3 l1_3.length c1_3) := (blk_cell BK210.out 3).trans rfl
              have hcz16_4 : wc.cell? ⟨gb210, 4, none⟩ = some (.slice A1_4 l1_4.length c1_4) := (blk_cell BK210.out 4).trans rfl
              have hfz16_0 := blk_frozen BK210.out 0
              have hfz16_1 := blk_frozen BK210.out 1
              have hfz16_2 := blk_frozen BK210.out 2
              have hfz16_3 := blk_frozen BK210.out 3
              have hfz16_4 := blk_frozen BK210.out 4
              go_wp2
              go_ret
              exact ⟨by first | rfl | (simp [errW_none, errW_some] <;> rfl) | (simp [*, errW_none, errW_some] <;> rfl), by repeat (first | (with_reducible first | exact HB.out | apply below_alloc | apply pw_below_drewN | apply below_drew1 | refine below_set ?_ GE210.out) | exact HB.out)⟩
          · rw [if_neg c13] at H
            have c13b0 : (a0.toList == ([36, 104, 97, 115] : List UInt8)) = false := beq_eq_false_iff_ne.mpr c13
            have c13b1 : (a0.toList != ([36, 104, 97, 115] : List UInt8)) = true := bne_iff_ne.mpr c13
            obtain rfl := Option.some.inj H
            go_wp2
            go_ret
            exact ⟨by first | rfl | (simp [errW_none, errW_some] <;> rfl) | (simp [*, errW_none, errW_some] <;> rfl), by repeat (first | (with_reducible first | exact HB.out | apply below_alloc | apply pw_below_drewN | apply below_drew1 | refine below_set ?_ GE210.out) | exact HB.out)⟩

-- NOT PRINTED: function 63 (munimentref15_clause)

-- NOT PRINTED: function 42 (munimentref15_count)

-- NOT PRINTED: function 21 (munimentref15_Check)

end Go.Proofs.YtehdnjegipcpfaaDoor.PFilterHolds
