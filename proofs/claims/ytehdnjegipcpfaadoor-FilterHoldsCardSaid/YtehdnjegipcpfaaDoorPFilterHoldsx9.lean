-- PRINTED BY print.sh 35421559b90ae4d0a3588c463048766b98c2df88dd9212a6774a882060cdf62d: not written by this session
import Derived.Test.YtehdnjegipcpfaaDoorPFilterHoldsx0
import Derived.Test.YtehdnjegipcpfaaDoorPFilterHoldsx7
import Derived.Test.YtehdnjegipcpfaaDoorPFilterHoldsx8
namespace Go.Proofs.YtehdnjegipcpfaaDoor.PFilterHolds
open Go.RowKit Go.Proofs.YtehdnjegipcpfaaDoorW.PrintWords Go.Proofs.YtehdnjegipcpfaaDoorW.PrintLast Go.Proofs.YtehdnjegipcpfaaDoorW.PrintMore
attribute [local go_sem] max2_int min2_int max_two min_two max_three min_three max_four min_four   -- for this text's walks alone
set_option linter.unusedVariables false
set_option linter.unusedSimpArgs false

/-! ### munimentref03_Plain: function 84 -/
mutual
def munimentref03_Plain.j0 : Nat → Bool → Int → Int → ByteArray → List ByteArray → List (S25) → Int → Int → ByteArray → List ByteArray → List (S25) → Option (Int)
  | 0, _, _, _, _, _, _, _, _, _, _, _ => none
  | k + 1, x39, x224000, x224001, x224002, x224003, x224004, x225000, x225001, x225002, x225003, x225004 => if x39 = true then (munimentref03_Plain.l0 k 0 x224000 x224001 x224002 x224003 x224004 x225000 x225001 x225002 x225003 x225004) else (some 0)
def munimentref03_Plain.l0 : Nat → Int → Int → Int → ByteArray → List ByteArray → List (S25) → Int → Int → ByteArray → List ByteArray → List (S25) → Option (Int)
  | 0, _, _, _, _, _, _, _, _, _, _, _ => none
  | k + 1, x5, x224000, x224001, x224002, x224003, x224004, x225000, x225001, x225002, x225003, x225004 => if x5 < (x224004.length : Int) then (munimentref03_Plain.j2 k x5 (decide (x5 < (x225004.length : Int))) x224000 x224001 x224002 x224003 x224004 x225000 x225001 x225002 x225003 x225004) else (munimentref03_Plain.j2 k x5 false x224000 x224001 x224002 x224003 x224004 x225000 x225001 x225002 x225003 x225004)
def munimentref03_Plain.j2 : Nat → Int → Bool → Int → Int → ByteArray → List ByteArray → List (S25) → Int → Int → ByteArray → List ByteArray → List (S25) → Option (Int)
  | 0, _, _, _, _, _, _, _, _, _, _, _, _ => none
  | k + 1, x5, x53, x224000, x224001, x224002, x224003, x224004, x225000, x225001, x225002, x225003, x225004 => if x53 = true then (if x224000 = 6 then (if 0 ≤ x5 then (if x5 < (x224003.length : Int) then (if x5 < (x225003.length : Int) then ((munimentref03_texts.f k (rdOf ByteArray.empty x224003 x5) (rdOf ByteArray.empty x225003 x5)).bind fun t230 => (if t230 = 0 then (if x5 < (x224004.length : Int) then (if x5 < (x225004.length : Int) then ((munimentref03_Plain.f k ((rd_T25 x224004 x5).f0) ((rd_T25 x224004 x5).f1) ((rd_T25 x224004 x5).f2) ((rd_T25 x224004 x5).f3) ((rd_T25 x224004 x5).f4) ((rd_T25 x225004 x5).f0) ((rd_T25 x225004 x5).f1) ((rd_T25 x225004 x5).f2) ((rd_T25 x225004 x5).f3) ((rd_T25 x225004 x5).f4)).bind fun t233 => (if t233 = 0 then (munimentref03_Plain.l0 k (wrap64 (x5 + 1)) x224000 x224001 x224002 x224003 x224004 x225000 x225001 x225002 x225003 x225004) else (some t233))) else (none)) else (none)) else (some t230))) else (none)) else (none)) else (none)) else (if 0 ≤ x5 then (if x5 < (x224004.length : Int) then (if x5 < (x225004.length : Int) then ((munimentref03_Plain.f k ((rd_T25 x224004 x5).f0) ((rd_T25 x224004 x5).f1) ((rd_T25 x224004 x5).f2) ((rd_T25 x224004 x5).f3) ((rd_T25 x224004 x5).f4) ((rd_T25 x225004 x5).f0) ((rd_T25 x225004 x5).f1) ((rd_T25 x225004 x5).f2) ((rd_T25 x225004 x5).f3) ((rd_T25 x225004 x5).f4)).bind fun t236 => (if t236 = 0 then (munimentref03_Plain.l0 k (wrap64 (x5 + 1)) x224000 x224001 x224002 x224003 x224004 x225000 x225001 x225002 x225003 x225004) else (some t236))) else (none)) else (none)) else (none))) else ((munimentref03_lengths.f (x224004.length : Int) (x225004.length : Int)).bind fun t227 => (some t227))
def munimentref03_Plain.f : Nat → Int → Int → ByteArray → List ByteArray → List (S25) → Int → Int → ByteArray → List ByteArray → List (S25) → Option (Int)
  | 0, _, _, _, _, _, _, _, _, _, _ => none
  | k + 1, a0_0, a0_1, a0_2, l0_3, l0_4, a1_0, a1_1, a1_2, l1_3, l1_4 => if a0_0 = a1_0 then (if a0_0 = 3 then (if a0_1 < a1_1 then (some (-1)) else (if a0_1 > a1_1 then (some 1) else (some 0))) else (if a0_0 = 4 then ((munimentref03_texts.f k a0_2 a1_2).bind fun t226 => (some t226)) else (if a0_0 = 5 then (munimentref03_Plain.j0 k (a0_0 == 5) a0_0 a0_1 a0_2 l0_3 l0_4 a1_0 a1_1 a1_2 l1_3 l1_4) else (munimentref03_Plain.j0 k (a0_0 == 6) a0_0 a0_1 a0_2 l0_3 l0_4 a1_0 a1_1 a1_2 l1_3 l1_4)))) else ((munimentref03_lengths.f a0_0 a1_0).bind fun t225 => (some t225))
end
theorem munimentref03_Plain.mono_l : ∀ k, (∀ y0 y1 y2 y3 y4 y5 y6 y7 y8 y9, LeO (munimentref03_Plain.f k y0 y1 y2 y3 y4 y5 y6 y7 y8 y9) (munimentref03_Plain.f (k + 1) y0 y1 y2 y3 y4 y5 y6 y7 y8 y9)) ∧ (∀ y0 y1 y2 y3 y4 y5 y6 y7 y8 y9 y10, LeO (munimentref03_Plain.j0 k y0 y1 y2 y3 y4 y5 y6 y7 y8 y9 y10) (munimentref03_Plain.j0 (k + 1) y0 y1 y2 y3 y4 y5 y6 y7 y8 y9 y10)) ∧ (∀ y0 y1 y2 y3 y4 y5 y6 y7 y8 y9 y10, LeO (munimentref03_Plain.l0 k y0 y1 y2 y3 y4 y5 y6 y7 y8 y9 y10) (munimentref03_Plain.l0 (k + 1) y0 y1 y2 y3 y4 y5 y6 y7 y8 y9 y10)) ∧ (∀ y0 y1 y2 y3 y4 y5 y6 y7 y8 y9 y10 y11, LeO (munimentref03_Plain.j2 k y0 y1 y2 y3 y4 y5 y6 y7 y8 y9 y10 y11) (munimentref03_Plain.j2 (k + 1) y0 y1 y2 y3 y4 y5 y6 y7 y8 y9 y10 y11))
  | 0 => ⟨fun _ _ _ _ _ _ _ _ _ _ r h => by simp [munimentref03_Plain.f] at h, fun _ _ _ _ _ _ _ _ _ _ _ r h => by simp [munimentref03_Plain.j0] at h, fun _ _ _ _ _ _ _ _ _ _ _ r h => by simp [munimentref03_Plain.l0] at h, fun _ _ _ _ _ _ _ _ _ _ _ _ r h => by simp [munimentref03_Plain.j2] at h⟩
  | k + 1 => by
    obtain ⟨ih0, ih1, ih2, ih3⟩ := munimentref03_Plain.mono_l k
    refine ⟨?_, ?_, ?_, ?_⟩
    · intro y0 y1 y2 y3 y4 y5 y6 y7 y8 y9
      unfold munimentref03_Plain.f
      repeat' first
      | (with_reducible exact ih0 _ _ _ _ _ _ _ _ _ _)
      | (with_reducible exact ih1 _ _ _ _ _ _ _ _ _ _ _)
      | (with_reducible exact ih2 _ _ _ _ _ _ _ _ _ _ _)
      | (with_reducible exact ih3 _ _ _ _ _ _ _ _ _ _ _ _)
      | (with_reducible exact munimentref03_texts.mono _ _ _)
      | (with_reducible exact LeO.refl _)
      | (with_reducible exact LeO.none _)
      | (with_reducible refine LeO.ite ?_ ?_)
      | (with_reducible refine LeO.bind ?_ (fun _ => ?_))
      | exact ih0 _ _ _ _ _ _ _ _ _ _
      | exact ih1 _ _ _ _ _ _ _ _ _ _ _
      | exact ih2 _ _ _ _ _ _ _ _ _ _ _
      | exact ih3 _ _ _ _ _ _ _ _ _ _ _ _
      | exact munimentref03_texts.mono _ _ _
      | exact LeO.none _
      | refine LeO.ite ?_ ?_
      | refine LeO.bind ?_ (fun _ => ?_)
    · intro y0 y1 y2 y3 y4 y5 y6 y7 y8 y9 y10
      unfold munimentref03_Plain.j0
      repeat' first
      | (with_reducible exact ih0 _ _ _ _ _ _ _ _ _ _)
      | (with_reducible exact ih1 _ _ _ _ _ _ _ _ _ _ _)
      | (with_reducible exact ih2 _ _ _ _ _ _ _ _ _ _ _)
      | (with_reducible exact ih3 _ _ _ _ _ _ _ _ _ _ _ _)
      | (with_reducible exact munimentref03_texts.mono _ _ _)
      | (with_reducible exact LeO.refl _)
      | (with_reducible exact LeO.none _)
      | (with_reducible refine LeO.ite ?_ ?_)
      | (with_reducible refine LeO.bind ?_ (fun _ => ?_))
      | exact ih0 _ _ _ _ _ _ _ _ _ _
      | exact ih1 _ _ _ _ _ _ _ _ _ _ _
      | exact ih2 _ _ _ _ _ _ _ _ _ _ _
      | exact ih3 _ _ _ _ _ _ _ _ _ _ _ _
      | exact munimentref03_texts.mono _ _ _
      | exact LeO.none _
      | refine LeO.ite ?_ ?_
      | refine LeO.bind ?_ (fun _ => ?_)
    · intro y0 y1 y2 y3 y4 y5 y6 y7 y8 y9 y10
      unfold munimentref03_Plain.l0
      repeat' first
      | (with_reducible exact ih0 _ _ _ _ _ _ _ _ _ _)
      | (with_reducible exact ih1 _ _ _ _ _ _ _ _ _ _ _)
      | (with_reducible exact ih2 _ _ _ _ _ _ _ _ _ _ _)
      | (with_reducible exact ih3 _ _ _ _ _ _ _ _ _ _ _ _)
      | (with_reducible exact munimentref03_texts.mono _ _ _)
      | (with_reducible exact LeO.refl _)
      | (with_reducible exact LeO.none _)
      | (with_reducible refine LeO.ite ?_ ?_)
      | (with_reducible refine LeO.bind ?_ (fun _ => ?_))
      | exact ih0 _ _ _ _ _ _ _ _ _ _
      | exact ih1 _ _ _ _ _ _ _ _ _ _ _
      | exact ih2 _ _ _ _ _ _ _ _ _ _ _
      | exact ih3 _ _ _ _ _ _ _ _ _ _ _ _
      | exact munimentref03_texts.mono _ _ _
      | exact LeO.none _
      | refine LeO.ite ?_ ?_
      | refine LeO.bind ?_ (fun _ => ?_)
    · intro y0 y1 y2 y3 y4 y5 y6 y7 y8 y9 y10 y11
      unfold munimentref03_Plain.j2
      repeat' first
      | (with_reducible exact ih0 _ _ _ _ _ _ _ _ _ _)
      | (with_reducible exact ih1 _ _ _ _ _ _ _ _ _ _ _)
      | (with_reducible exact ih2 _ _ _ _ _ _ _ _ _ _ _)
      | (with_reducible exact ih3 _ _ _ _ _ _ _ _ _ _ _ _)
      | (with_reducible exact munimentref03_texts.mono _ _ _)
      | (with_reducible exact LeO.refl _)
      | (with_reducible exact LeO.none _)
      | (with_reducible refine LeO.ite ?_ ?_)
      | (with_reducible refine LeO.bind ?_ (fun _ => ?_))
      | exact ih0 _ _ _ _ _ _ _ _ _ _
      | exact ih1 _ _ _ _ _ _ _ _ _ _ _
      | exact ih2 _ _ _ _ _ _ _ _ _ _ _
      | exact ih3 _ _ _ _ _ _ _ _ _ _ _ _
      | exact munimentref03_texts.mono _ _ _
      | exact LeO.none _
      | refine LeO.ite ?_ ?_
      | refine LeO.bind ?_ (fun _ => ?_)
theorem munimentref03_Plain.mono : ∀ a0 a1 a2 a3 a4 a5 a6 a7 a8 a9 k, LeO (munimentref03_Plain.f k a0 a1 a2 a3 a4 a5 a6 a7 a8 a9) (munimentref03_Plain.f (k + 1) a0 a1 a2 a3 a4 a5 a6 a7 a8 a9) := by
  intro a0 a1 a2 a3 a4 a5 a6 a7 a8 a9 k
  obtain ⟨ih0, ih1, ih2, ih3⟩ := munimentref03_Plain.mono_l k
  exact ih0 a0 a1 a2 a3 a4 a5 a6 a7 a8 a9
def munimentref03_Plain.T18 : Bool × List (List Nat × List Nat) := (true, [([], []), ([0], [0]), ([], []), ([1, 2], [1, 2]), ([3], [3]), ([], []), ([5], [5]), ([], []), ([6, 7], [6, 7]), ([8], [8]), ([4, 9], [4, 9]), ([10, 10, 0, 1, 2, 3, 4, 5, 6, 7, 8, 9, 10], [10])])
def munimentref03_Plain.B18 : List Nat := [0, 1, 0, 7, 15, 0, 32, 0, 224, 480, 1023, 2047]
theorem munimentref03_Plain.tab18 : rtab .any (opsOf Tryd.f84 18) = munimentref03_Plain.T18 := by kernel_rfl
theorem munimentref03_Plain.bits18 : waitsOk munimentref03_Plain.T18.2 munimentref03_Plain.B18 = true := by kernel_rfl
def munimentref03_Plain.T21 : Bool × List (List Nat × List Nat) := (true, [([], []), ([0], [0]), ([], []), ([1, 2], [1, 2]), ([3], [3]), ([], []), ([5], [5]), ([], []), ([6, 7], [6, 7]), ([8], [8]), ([4, 9], [4, 9]), ([10, 10, 0, 1, 2, 3, 4, 5, 6, 7, 8, 9, 10], [10])])
def munimentref03_Plain.B21 : List Nat := [0, 1, 0, 7, 15, 0, 32, 0, 224, 480, 1023, 2047]
theorem munimentref03_Plain.tab21 : rtab .any (opsOf Tryd.f84 21) = munimentref03_Plain.T21 := by kernel_rfl
theorem munimentref03_Plain.bits21 : waitsOk munimentref03_Plain.T21.2 munimentref03_Plain.B21 = true := by kernel_rfl
set_option maxHeartbeats 8000000 in
set_option maxRecDepth 100000 in
theorem munimentref03_Plain.calls (k : Nat) : ∀ (a0_0 : Int) (a0_1 : Int) (a0_2 : ByteArray) (A0_3 : Option Addr) (c0_3 : Nat) (l0_3 : List ByteArray) (A0_4 : Option Addr) (c0_4 : Nat) (l0_4 : List (S25)) (a1_0 : Int) (a1_1 : Int) (a1_2 : ByteArray) (A1_3 : Option Addr) (c1_3 : Nat) (l1_3 : List ByteArray) (A1_4 : Option Addr) (c1_4 : Nat) (l1_4 : List (S25)) (r : Int) (w : World) (hr0_3 : Kd.C Kd.string w A0_3 l0_3.length l0_3) (hc0_3 : l0_3.length ≤ c0_3) (hr0_4 : Kd.C k25 w A0_4 l0_4.length l0_4) (hc0_4 : l0_4.length ≤ c0_4) (hr1_3 : Kd.C Kd.string w A1_3 l1_3.length l1_3) (hc1_3 : l1_3.length ≤ c1_3) (hr1_4 : Kd.C k25 w A1_4 l1_4.length l1_4) (hc1_4 : l1_4.length ≤ c1_4) (h : munimentref03_Plain.f k a0_0 a0_1 a0_2 l0_3 l0_4 a1_0 a1_1 a1_2 l1_3 l1_4 = some r),
    Calls Tryd.prog 84 #[.agg #[.int .i64 a0_0, .int .i64 a0_1, .string a0_2, .slice A0_3 l0_3.length c0_3, .slice A0_4 l0_4.length c0_4], .agg #[.int .i64 a1_0, .int .i64 a1_1, .string a1_2, .slice A1_3 l1_3.length c1_3, .slice A1_4 l1_4.length c1_4]] w fun e w' => e = .returned (.int .i64 r) ∧ Below w.heap.size w w' := by
  induction k using Nat.strongRecOn with
  | _ k ih =>
  intro a0_0 a0_1 a0_2 A0_3 c0_3 l0_3 A0_4 c0_4 l0_4 a1_0 a1_1 a1_2 A1_3 c1_3 l1_3 A1_4 c1_4 l1_4 r w hr0_3 hc0_3 hr0_4 hc0_4 hr1_3 hc1_3 hr1_4 hc1_4 h
  cases k with
  | zero => exact absurd h (by simp [munimentref03_Plain.f])
  | succ k =>
  simp only [munimentref03_Plain.f] at h
  have hu25 := Tryd.underlying25
  have HR0_3 := Aside0.mk hr0_3
  have HC0_3 := Aside0.mk hc0_3
  clear hr0_3 hc0_3
  have HR0_4 := Aside0.mk hr0_4
  have HC0_4 := Aside0.mk hc0_4
  clear hr0_4 hc0_4
  have HR1_3 := Aside0.mk hr1_3
  have HC1_3 := Aside0.mk hc1_3
  clear hr1_3 hc1_3
  have HR1_4 := Aside0.mk hr1_4
  have HC1_4 := Aside0.mk hc1_4
  clear hr1_4 hc1_4
  have HB := Aside0.mk (Below.refl w.heap.size w)
  have H : (if a0_0 = a1_0 then (if a0_0 = 3 then (if a0_1 < a1_1 then (some (-1)) else (if a0_1 > a1_1 then (some 1) else (some 0))) else (if a0_0 = 4 then ((munimentref03_texts.f k a0_2 a1_2).bind fun t226 => (some t226)) else (if a0_0 = 5 then (munimentref03_Plain.j0 k (a0_0 == 5) a0_0 a0_1 a0_2 l0_3 l0_4 a1_0 a1_1 a1_2 l1_3 l1_4) else (munimentref03_Plain.j0 k (a0_0 == 6) a0_0 a0_1 a0_2 l0_3 l0_4 a1_0 a1_1 a1_2 l1_3 l1_4)))) else ((munimentref03_lengths.f a0_0 a1_0).bind fun t225 => (some t225))) = some r := h
  clear h
  by_cases c3 : a0_0 = a1_0
  · rw [if_pos c3] at H
    have c3b0 : (a0_0 == a1_0) = true := beq_iff_eq.mpr c3
    have c3b1 : (a0_0 != a1_0) = false := bne_eq_false_iff_eq.mpr c3
    clear c3
    by_cases c4 : a0_0 = 3
    · rw [if_pos c4] at H
      have c4b0 : (a0_0 == 3) = true := beq_iff_eq.mpr c4
      have c4b1 : (a0_0 != 3) = false := bne_eq_false_iff_eq.mpr c4
      clear c4
      by_cases c5 : a0_1 < a1_1
      · rw [if_pos c5] at H
        have c5b0 : decide (a0_1 < a1_1) = true := decide_eq_true c5
        clear c5
        obtain rfl := Option.some.inj H
        go_enter Tryd.func84, Tryd.ntmps84
        go_wp2_with (first | ((with_reducible refine gate_dst (N := 2) rfl ?_); (try (refine gate_guard (by rfl) ?_; dsimp only)); refine box_event ?hg (N := 2) ?hd (cs := #[.int .i64 a0_0, .int .i64 a0_1, .string a0_2, .slice A0_3 l0_3.length c0_3, .slice A0_4 l0_4.length c0_4]) (t := 25) ?hr ?_; (case hd => rfl); (case hg => rfl); (case hr => first | (go_simp; done) | (go_simp; rfl)); intro gb223 hg w6 hbox hb; have n0_ := Aside0.mk (below_step (by repeat (first | (with_reducible first | exact HB.out | apply below_alloc | apply pw_below_drewN | apply below_drew1) | exact HB.out)) hb); have n1_ := Aside0.mk (hbox); have n2_ := Aside0.mk ((by rw [hg]; exact (below_size (by repeat (first | (with_reducible first | exact HB.out | apply below_alloc | apply pw_below_drewN | apply below_drew1) | exact HB.out))) : w.heap.size ≤ gb223)); have n3_ := Aside0.mk ((by rw [hg]; exact (below_size (by repeat (first | (with_reducible first | exact HB.out | apply below_alloc | apply pw_below_drewN | apply below_drew1) | exact HB.out))) : w.heap.size ≤ gb223)); clear HB; have HB := n0_; have BK223 := n1_; have GW223 := n2_; have GE223 := n3_; clear n0_ n1_ n2_ n3_; clear hb hbox hg) | ((with_reducible refine gate_dst (N := 3) rfl ?_); (try (refine gate_guard (by rfl) ?_; dsimp only)); refine box_event ?hg (N := 3) ?hd (cs := #[.int .i64 a1_0, .int .i64 a1_1, .string a1_2, .slice A1_3 l1_3.length c1_3, .slice A1_4 l1_4.length c1_4]) (t := 25) ?hr ?_; (case hd => rfl); (case hg => rfl); (case hr => first | (go_simp; done) | (go_simp; rfl)); intro gb224 hg w7 hbox hb; have n0_ := Aside0.mk (blk_below (g := gb223) (o := .cells #[.int .i64 a0_0, .int .i64 a0_1, .string a0_2, .slice A0_3 l0_3.length c0_3, .slice A0_4 l0_4.length c0_4] 25 (0, 0)) (by (with_reducible repeat (first | refine blk_drewN ?_ _ | refine blk_drew ?_ | refine blk_alloc ?_ _)); exact BK223.out) hb); have n1_ := Aside0.mk (below_step (by repeat (first | (with_reducible first | exact HB.out | apply below_alloc | apply pw_below_drewN | apply below_drew1 | refine below_set ?_ GE223.out) | exact HB.out)) hb); have n2_ := Aside0.mk (hbox); have n3_ := Aside0.mk ((by rw [hg]; exact (below_size (by repeat (first | (with_reducible first | exact HB.out | apply below_alloc | apply pw_below_drewN | apply below_drew1 | refine below_set ?_ GE223.out) | exact HB.out))) : w.heap.size ≤ gb224)); have n4_ := Aside0.mk ((by rw [hg]; exact (below_size (by repeat (first | (with_reducible first | exact HB.out | apply below_alloc | apply pw_below_drewN | apply below_drew1 | refine below_set ?_ GE223.out) | exact HB.out))) : w.heap.size ≤ gb224)); have n5_ := Aside0.mk ((by rw [hg]; exact Nat.ne_of_lt (blk_lt (g := gb223) (o := .cells #[.int .i64 a0_0, .int .i64 a0_1, .string a0_2, .slice A0_3 l0_3.length c0_3, .slice A0_4 l0_4.length c0_4] 25 (0, 0)) (by (with_reducible repeat (first | refine blk_drewN ?_ _ | refine blk_drew ?_ | refine blk_alloc ?_ _)); exact BK223.out)) : gb223 ≠ gb224)); have n6_ := Aside0.mk ((by rw [hg]; exact Nat.ne_of_gt (blk_lt (g := gb223) (o := .cells #[.int .i64 a0_0, .int .i64 a0_1, .string a0_2, .slice A0_3 l0_3.length c0_3, .slice A0_4 l0_4.length c0_4] 25 (0, 0)) (by (with_reducible repeat (first | refine blk_drewN ?_ _ | refine blk_drew ?_ | refine blk_alloc ?_ _)); exact BK223.out)) : gb224 ≠ gb223)); clear BK223; clear HB; have BK223 := n0_; have HB := n1_; have BK224 := n2_; have GW224 := n3_; have GE224 := n4_; have NB223_224 := n5_; have NB224_223 := n6_; clear n0_ n1_ n2_ n3_ n4_ n5_ n6_; clear hb hbox hg; have hnb8 := NB223_224.out; have hnc8 := NB224_223.out; have hcz9_0 : w7.cell? ⟨gb223, 0, none⟩ = some (.int .i64 a0_0) := (blk_cell BK223.out 0).trans rfl; have hcz9_1 : w7.cell? ⟨gb223, 1, none⟩ = some (.int .i64 a0_1) := (blk_cell BK223.out 1).trans rfl; have hcz9_2 : w7.cell? ⟨gb223, 2, none⟩ = some (.string a0_2) := (blk_cell BK223.out 2).trans rfl; have hcz9_3 : w7.cell? ⟨gb223, 3, none⟩ = some (.slice A0_3 l0_3.length c0_3) := (blk_cell BK223.out 3).trans rfl; have hcz9_4 : w7.cell? ⟨gb223, 4, none⟩ = some (.slice A0_4 l0_4.length c0_4) := (blk_cell BK223.out 4).trans rfl; have hfz9_0 := blk_frozen BK223.out 0; have hfz9_1 := blk_frozen BK223.out 1; have hfz9_2 := blk_frozen BK223.out 2; have hfz9_3 := blk_frozen BK223.out 3; have hfz9_4 := blk_frozen BK223.out 4; have hcz10_0 : w7.cell? ⟨gb224, 0, none⟩ = some (.int .i64 a1_0) := (blk_cell BK224.out 0).trans rfl; have hcz10_1 : w7.cell? ⟨gb224, 1, none⟩ = some (.int .i64 a1_1) := (blk_cell BK224.out 1).trans rfl; have hcz10_2 : w7.cell? ⟨gb224, 2, none⟩ = some (.string a1_2) := (blk_cell BK224.out 2).trans rfl; have hcz10_3 : w7.cell? ⟨gb224, 3, none⟩ = some (.slice A1_3 l1_3.length c1_3) := (blk_cell BK224.out 3).trans rfl; have hcz10_4 : w7.cell? ⟨gb224, 4, none⟩ = some (.slice A1_4 l1_4.length c1_4) := (blk_cell BK224.out 4).trans rfl; have hfz10_0 := blk_frozen BK224.out 0; have hfz10_1 := blk_frozen BK224.out 1; have hfz10_2 := blk_frozen BK224.out 2; have hfz10_3 := blk_frozen BK224.out 3; have hfz10_4 := blk_frozen BK224.out 4))
        go_ret
        exact ⟨by first | rfl | (simp [errW_none, errW_some] <;> rfl) | (simp [*, errW_none, errW_some] <;> rfl), by repeat (first | (with_reducible first | exact HB.out | apply below_alloc | apply pw_below_drewN | apply below_drew1 | refine below_set ?_ GE223.out | refine below_set ?_ GE224.out) | exact HB.out)⟩
      · rw [if_neg c5] at H
        have c5b0 : decide (a0_1 < a1_1) = false := decide_eq_false c5
        clear c5
        by_cases c11 : a0_1 > a1_1
        · rw [if_pos c11] at H
          have c11b0 : decide (a1_1 < a0_1) = true := decide_eq_true c11
          clear c11
          obtain rfl := Option.some.inj H
          go_enter Tryd.func84, Tryd.ntmps84
          go_wp2_with (first | ((with_reducible refine gate_dst (N := 2) rfl ?_); (try (refine gate_guard (by rfl) ?_; dsimp only)); refine box_event ?hg (N := 2) ?hd (cs := #[.int .i64 a0_0, .int .i64 a0_1, .string a0_2, .slice A0_3 l0_3.length c0_3, .slice A0_4 l0_4.length c0_4]) (t := 25) ?hr ?_; (case hd => rfl); (case hg => rfl); (case hr => first | (go_simp; done) | (go_simp; rfl)); intro gb223 hg w12 hbox hb; have n0_ := Aside0.mk (below_step (by repeat (first | (with_reducible first | exact HB.out | apply below_alloc | apply pw_below_drewN | apply below_drew1) | exact HB.out)) hb); have n1_ := Aside0.mk (hbox); have n2_ := Aside0.mk ((by rw [hg]; exact (below_size (by repeat (first | (with_reducible first | exact HB.out | apply below_alloc | apply pw_below_drewN | apply below_drew1) | exact HB.out))) : w.heap.size ≤ gb223)); have n3_ := Aside0.mk ((by rw [hg]; exact (below_size (by repeat (first | (with_reducible first | exact HB.out | apply below_alloc | apply pw_below_drewN | apply below_drew1) | exact HB.out))) : w.heap.size ≤ gb223)); clear HB; have HB := n0_; have BK223 := n1_; have GW223 := n2_; have GE223 := n3_; clear n0_ n1_ n2_ n3_; clear hb hbox hg) | ((with_reducible refine gate_dst (N := 3) rfl ?_); (try (refine gate_guard (by rfl) ?_; dsimp only)); refine box_event ?hg (N := 3) ?hd (cs := #[.int .i64 a1_0, .int .i64 a1_1, .string a1_2, .slice A1_3 l1_3.length c1_3, .slice A1_4 l1_4.length c1_4]) (t := 25) ?hr ?_; (case hd => rfl); (case hg => rfl); (case hr => first | (go_simp; done) | (go_simp; rfl)); intro gb224 hg w13 hbox hb; have n0_ := Aside0.mk (blk_below (g := gb223) (o := .cells #[.int .i64 a0_0, .int .i64 a0_1, .string a0_2, .slice A0_3 l0_3.length c0_3, .slice A0_4 l0_4.length c0_4] 25 (0, 0)) (by (with_reducible repeat (first | refine blk_drewN ?_ _ | refine blk_drew ?_ | refine blk_alloc ?_ _)); exact BK223.out) hb); have n1_ := Aside0.mk (below_step (by repeat (first | (with_reducible first | exact HB.out | apply below_alloc | apply pw_below_drewN | apply below_drew1 | refine below_set ?_ GE223.out) | exact HB.out)) hb); have n2_ := Aside0.mk (hbox); have n3_ := Aside0.mk ((by rw [hg]; exact (below_size (by repeat (first | (with_reducible first | exact HB.out | apply below_alloc | apply pw_below_drewN | apply below_drew1 | refine below_set ?_ GE223.out) | exact HB.out))) : w.heap.size ≤ gb224)); have n4_ := Aside0.mk ((by rw [hg]; exact (below_size (by repeat (first | (with_reducible first | exact HB.out | apply below_alloc | apply pw_below_drewN | apply below_drew1 | refine below_set ?_ GE223.out) | exact HB.out))) : w.heap.size ≤ gb224)); have n5_ := Aside0.mk ((by rw [hg]; exact Nat.ne_of_lt (blk_lt (g := gb223) (o := .cells #[.int .i64 a0_0, .int .i64 a0_1, .string a0_2, .slice A0_3 l0_3.length c0_3, .slice A0_4 l0_4.length c0_4] 25 (0, 0)) (by (with_reducible repeat (first | refine blk_drewN ?_ _ | refine blk_drew ?_ | refine blk_alloc ?_ _)); exact BK223.out)) : gb223 ≠ gb224)); have n6_ := Aside0.mk ((by rw [hg]; exact Nat.ne_of_gt (blk_lt (g := gb223) (o := .cells #[.int .i64 a0_0, .int .i64 a0_1, .string a0_2, .slice A0_3 l0_3.length c0_3, .slice A0_4 l0_4.length c0_4] 25 (0, 0)) (by (with_reducible repeat (first | refine blk_drewN ?_ _ | refine blk_drew ?_ | refine blk_alloc ?_ _)); exact BK223.out)) : gb224 ≠ gb223)); clear BK223; clear HB; have BK223 := n0_; have HB := n1_; have BK224 := n2_; have GW224 := n3_; have GE224 := n4_; have NB223_224 := n5_; have NB224_223 := n6_; clear n0_ n1_ n2_ n3_ n4_ n5_ n6_; clear hb hbox hg; have hnb14 := NB223_224.out; have hnc14 := NB224_223.out; have hcz15_0 : w13.cell? ⟨gb223, 0, none⟩ = some (.int .i64 a0_0) := (blk_cell BK223.out 0).trans rfl; have hcz15_1 : w13.cell? ⟨gb223, 1, none⟩ = some (.int .i64 a0_1) := (blk_cell BK223.out 1).trans rfl; have hcz15_2 : w13.cell? ⟨gb223, 2, none⟩ = some (.string a0_2) := (blk_cell BK223.out 2).trans rfl; have hcz15_3 : w13.cell? ⟨gb223, 3, none⟩ = some (.slice A0_3 l0_3.length c0_3) := (blk_cell BK223.out 3).trans rfl; have hcz15_4 : w13.cell? ⟨gb223, 4, none⟩ = some (.slice A0_4 l0_4.length c0_4) := (blk_cell BK223.out 4).trans rfl; have hfz15_0 := blk_frozen BK223.out 0; have hfz15_1 := blk_frozen BK223.out 1; have hfz15_2 := blk_frozen BK223.out 2; have hfz15_3 := blk_frozen BK223.out 3; have hfz15_4 := blk_frozen BK223.out 4; have hcz16_0 : w13.cell? ⟨gb224, 0, none⟩ = some (.int .i64 a1_0) := (blk_cell BK224.out 0).trans rfl; have hcz16_1 : w13.cell? ⟨gb224, 1, none⟩ = some (.int .i64 a1_1) := (blk_cell BK224.out 1).trans rfl; have hcz16_2 : w13.cell? ⟨gb224, 2, none⟩ = some (.string a1_2) := (blk_cell BK224.out 2).trans rfl; have hcz16_3 : w13.cell? ⟨gb224, 3, none⟩ = some (.slice A1_3 l1_3.length c1_3) := (blk_cell BK224.out 3).trans rfl; have hcz16_4 : w13.cell? ⟨gb224, 4, none⟩ = some (.slice A1_4 l1_4.length c1_4) := (blk_cell BK224.out 4).trans rfl; have hfz16_0 := blk_frozen BK224.out 0; have hfz16_1 := blk_frozen BK224.out 1; have hfz16_2 := blk_frozen BK224.out 2; have hfz16_3 := blk_frozen BK224.out 3; have hfz16_4 := blk_frozen BK224.out 4))
          go_ret
          exact ⟨by first | rfl | (simp [errW_none, errW_some] <;> rfl) | (simp [*, errW_none, errW_some] <;> rfl), by repeat (first | (with_reducible first | exact HB.out | apply below_alloc | apply pw_below_drewN | apply below_drew1 | refine below_set ?_ GE223.out | refine below_set ?_ GE224.out) | exact HB.out)⟩
        · rw [if_neg c11] at H
          have c11b0 : decide (a1_1 < a0_1) = false := decide_eq_false c11
          clear c11
          obtain rfl := Option.some.inj H
          go_enter Tryd.func84, Tryd.ntmps84
          go_wp2_with (first | ((with_reducible refine gate_dst (N := 2) rfl ?_); (try (refine gate_guard (by rfl) ?_; dsimp only)); refine box_event ?hg (N := 2) ?hd (cs := #[.int .i64 a0_0, .int .i64 a0_1, .string a0_2, .slice A0_3 l0_3.length c0_3, .slice A0_4 l0_4.length c0_4]) (t := 25) ?hr ?_; (case hd => rfl); (case hg => rfl); (case hr => first | (go_simp; done) | (go_simp; rfl)); intro gb223 hg w17 hbox hb; have n0_ := Aside0.mk (below_step (by repeat (first | (with_reducible first | exact HB.out | apply below_alloc | apply pw_below_drewN | apply below_drew1) | exact HB.out)) hb); have n1_ := Aside0.mk (hbox); have n2_ := Aside0.mk ((by rw [hg]; exact (below_size (by repeat (first | (with_reducible first | exact HB.out | apply below_alloc | apply pw_below_drewN | apply below_drew1) | exact HB.out))) : w.heap.size ≤ gb223)); have n3_ := Aside0.mk ((by rw [hg]; exact (below_size (by repeat (first | (with_reducible first | exact HB.out | apply below_alloc | apply pw_below_drewN | apply below_drew1) | exact HB.out))) : w.heap.size ≤ gb223)); clear HB; have HB := n0_; have BK223 := n1_; have GW223 := n2_; have GE223 := n3_; clear n0_ n1_ n2_ n3_; clear hb hbox hg) | ((with_reducible refine gate_dst (N := 3) rfl ?_); (try (refine gate_guard (by rfl) ?_; dsimp only)); refine box_event ?hg (N := 3) ?hd (cs := #[.int .i64 a1_0, .int .i64 a1_1, .string a1_2, .slice A1_3 l1_3.length c1_3, .slice A1_4 l1_4.length c1_4]) (t := 25) ?hr ?_; (case hd => rfl); (case hg => rfl); (case hr => first | (go_simp; done) | (go_simp; rfl)); intro gb224 hg w18 hbox hb; have n0_ := Aside0.mk (blk_below (g := gb223) (o := .cells #[.int .i64 a0_0, .int .i64 a0_1, .string a0_2, .slice A0_3 l0_3.length c0_3, .slice A0_4 l0_4.length c0_4] 25 (0, 0)) (by (with_reducible repeat (first | refine blk_drewN ?_ _ | refine blk_drew ?_ | refine blk_alloc ?_ _)); exact BK223.out) hb); have n1_ := Aside0.mk (below_step (by repeat (first | (with_reducible first | exact HB.out | apply below_alloc | apply pw_below_drewN | apply below_drew1 | refine below_set ?_ GE223.out) | exact HB.out)) hb); have n2_ := Aside0.mk (hbox); have n3_ := Aside0.mk ((by rw [hg]; exact (below_size (by repeat (first | (with_reducible first | exact HB.out | apply below_alloc | apply pw_below_drewN | apply below_drew1 | refine below_set ?_ GE223.out) | exact HB.out))) : w.heap.size ≤ gb224)); have n4_ := Aside0.mk ((by rw [hg]; exact (below_size (by repeat (first | (with_reducible first | exact HB.out | apply below_alloc | apply pw_below_drewN | apply below_drew1 | refine below_set ?_ GE223.out) | exact HB.out))) : w.heap.size ≤ gb224)); have n5_ := Aside0.mk ((by rw [hg]; exact Nat.ne_of_lt (blk_lt (g := gb223) (o := .cells #[.int .i64 a0_0, .int .i64 a0_1, .string a0_2, .slice A0_3 l0_3.length c0_3, .slice A0_4 l0_4.length c0_4] 25 (0, 0)) (by (with_reducible repeat (first | refine blk_drewN ?_ _ | refine blk_drew ?_ | refine blk_alloc ?_ _)); exact BK223.out)) : gb223 ≠ gb224)); have n6_ := Aside0.mk ((by rw [hg]; exact Nat.ne_of_gt (blk_lt (g := gb223) (o := .cells #[.int .i64 a0_0, .int .i64 a0_1, .string a0_2, .slice A0_3 l0_3.length c0_3, .slice A0_4 l0_4.length c0_4] 25 (0, 0)) (by (with_reducible repeat (first | refine blk_drewN ?_ _ | refine blk_drew ?_ | refine blk_alloc ?_ _)); exact BK223.out)) : gb224 ≠ gb223)); clear BK223; clear HB; have BK223 := n0_; have HB := n1_; have BK224 := n2_; have GW224 := n3_; have GE224 := n4_; have NB223_224 := n5_; have NB224_223 := n6_; clear n0_ n1_ n2_ n3_ n4_ n5_ n6_; clear hb hbox hg; have hnb19 := NB223_224.out; have hnc19 := NB224_223.out; have hcz20_0 : w18.cell? ⟨gb223, 0, none⟩ = some (.int .i64 a0_0) := (blk_cell BK223.out 0).trans rfl; have hcz20_1 : w18.cell? ⟨gb223, 1, none⟩ = some (.int .i64 a0_1) := (blk_cell BK223.out 1).trans rfl; have hcz20_2 : w18.cell? ⟨gb223, 2, none⟩ = some (.string a0_2) := (blk_cell BK223.out 2).trans rfl; have hcz20_3 : w18.cell? ⟨gb223, 3, none⟩ = some (.slice A0_3 l0_3.length c0_3) := (blk_cell BK223.out 3).trans rfl; have hcz20_4 : w18.cell? ⟨gb223, 4, none⟩ = some (.slice A0_4 l0_4.length c0_4) := (blk_cell BK223.out 4).trans rfl; have hfz20_0 := blk_frozen BK223.out 0; have hfz20_1 := blk_frozen BK223.out 1; have hfz20_2 := blk_frozen BK223.out 2; have hfz20_3 := blk_frozen BK223.out 3; have hfz20_4 := blk_frozen BK223.out 4; have hcz21_0 : w18.cell? ⟨gb224, 0, none⟩ = some (.int .i64 a1_0) := (blk_cell BK224.out 0).trans rfl; have hcz21_1 : w18.cell? ⟨gb224, 1, none⟩ = some (.int .i64 a1_1) := (blk_cell BK224.out 1).trans rfl; have hcz21_2 : w18.cell? ⟨gb224, 2, none⟩ = some (.string a1_2) := (blk_cell BK224.out 2).trans rfl; have hcz21_3 : w18.cell? ⟨gb224, 3, none⟩ = some (.slice A1_3 l1_3.length c1_3) := (blk_cell BK224.out 3).trans rfl; have hcz21_4 : w18.cell? ⟨gb224, 4, none⟩ = some (.slice A1_4 l1_4.length c1_4) := (blk_cell BK224.out 4).trans rfl; have hfz21_0 := blk_frozen BK224.out 0; have hfz21_1 := blk_frozen BK224.out 1; have hfz21_2 := blk_frozen BK224.out 2; have hfz21_3 := blk_frozen BK224.out 3; have hfz21_4 := blk_frozen BK224.out 4))
          go_ret
          exact ⟨by first | rfl | (simp [errW_none, errW_some] <;> rfl) | (simp [*, errW_none, errW_some] <;> rfl), by repeat (first | (with_reducible first | exact HB.out | apply below_alloc | apply pw_below_drewN | apply below_drew1 | refine below_set ?_ GE223.out | refine below_set ?_ GE224.out) | exact HB.out)⟩
    · rw [if_neg c4] at H
      have c4b0 : (a0_0 == 3) = false := beq_eq_false_iff_ne.mpr c4
      have c4b1 : (a0_0 != 3) = true := bne_iff_ne.mpr c4
      by_cases c22 : a0_0 = 4
      · rw [if_pos c22] at H
        have c22b0 : (a0_0 == 4) = true := beq_iff_eq.mpr c22
        have c22b1 : (a0_0 != 4) = false := bne_eq_false_iff_eq.mpr c22
        clear c22
        replace H := Option.bind_eq_some_iff.mp H
        obtain ⟨t226, A230, H⟩ := H
        replace H : (some t226) = some r := H
        have A23 := Aside0.mk A230
        clear A230
        obtain rfl := Option.some.inj H
        go_enter Tryd.func84, Tryd.ntmps84
        go_wp2_with (first | ((with_reducible refine gate_dst (N := 2) rfl ?_); (try (refine gate_guard (by rfl) ?_; dsimp only)); refine box_event ?hg (N := 2) ?hd (cs := #[.int .i64 a0_0, .int .i64 a0_1, .string a0_2, .slice A0_3 l0_3.length c0_3, .slice A0_4 l0_4.length c0_4]) (t := 25) ?hr ?_; (case hd => rfl); (case hg => rfl); (case hr => first | (go_simp; done) | (go_simp; rfl)); intro gb223 hg w24 hbox hb; have n0_ := Aside0.mk (below_step (by repeat (first | (with_reducible first | exact HB.out | apply below_alloc | apply pw_below_drewN | apply below_drew1) | exact HB.out)) hb); have n1_ := Aside0.mk (hbox); have n2_ := Aside0.mk ((by rw [hg]; exact (below_size (by repeat (first | (with_reducible first | exact HB.out | apply below_alloc | apply pw_below_drewN | apply below_drew1) | exact HB.out))) : w.heap.size ≤ gb223)); have n3_ := Aside0.mk ((by rw [hg]; exact (below_size (by repeat (first | (with_reducible first | exact HB.out | apply below_alloc | apply pw_below_drewN | apply below_drew1) | exact HB.out))) : w.heap.size ≤ gb223)); clear HB; have HB := n0_; have BK223 := n1_; have GW223 := n2_; have GE223 := n3_; clear n0_ n1_ n2_ n3_; clear hb hbox hg) | ((with_reducible refine gate_dst (N := 3) rfl ?_); (try (refine gate_guard (by rfl) ?_; dsimp only)); refine box_event ?hg (N := 3) ?hd (cs := #[.int .i64 a1_0, .int .i64 a1_1, .string a1_2, .slice A1_3 l1_3.length c1_3, .slice A1_4 l1_4.length c1_4]) (t := 25) ?hr ?_; (case hd => rfl); (case hg => rfl); (case hr => first | (go_simp; done) | (go_simp; rfl)); intro gb224 hg w25 hbox hb; have n0_ := Aside0.mk (blk_below (g := gb223) (o := .cells #[.int .i64 a0_0, .int .i64 a0_1, .string a0_2, .slice A0_3 l0_3.length c0_3, .slice A0_4 l0_4.length c0_4] 25 (0, 0)) (by (with_reducible repeat (first | refine blk_drewN ?_ _ | refine blk_drew ?_ | refine blk_alloc ?_ _)); exact BK223.out) hb); have n1_ := Aside0.mk (below_step (by repeat (first | (with_reducible first | exact HB.out | apply below_alloc | apply pw_below_drewN | apply below_drew1 | refine below_set ?_ GE223.out) | exact HB.out)) hb); have n2_ := Aside0.mk (hbox); have n3_ := Aside0.mk ((by rw [hg]; exact (below_size (by repeat (first | (with_reducible first | exact HB.out | apply below_alloc | apply pw_below_drewN | apply below_drew1 | refine below_set ?_ GE223.out) | exact HB.out))) : w.heap.size ≤ gb224)); have n4_ := Aside0.mk ((by rw [hg]; exact (below_size (by repeat (first | (with_reducible first | exact HB.out | apply below_alloc | apply pw_below_drewN | apply below_drew1 | refine below_set ?_ GE223.out) | exact HB.out))) : w.heap.size ≤ gb224)); have n5_ := Aside0.mk ((by rw [hg]; exact Nat.ne_of_lt (blk_lt (g := gb223) (o := .cells #[.int .i64 a0_0, .int .i64 a0_1, .string a0_2, .slice A0_3 l0_3.length c0_3, .slice A0_4 l0_4.length c0_4] 25 (0, 0)) (by (with_reducible repeat (first | refine blk_drewN ?_ _ | refine blk_drew ?_ | refine blk_alloc ?_ _)); exact BK223.out)) : gb223 ≠ gb224)); have n6_ := Aside0.mk ((by rw [hg]; exact Nat.ne_of_gt (blk_lt (g := gb223) (o := .cells #[.int .i64 a0_0, .int .i64 a0_1, .string a0_2, .slice A0_3 l0_3.length c0_3, .slice A0_4 l0_4.length c0_4] 25 (0, 0)) (by (with_reducible repeat (first | refine blk_drewN ?_ _ | refine blk_drew ?_ | refine blk_alloc ?_ _)); exact BK223.out)) : gb224 ≠ gb223)); clear BK223; clear HB; have BK223 := n0_; have HB := n1_; have BK224 := n2_; have GW224 := n3_; have GE224 := n4_; have NB223_224 := n5_; have NB224_223 := n6_; clear n0_ n1_ n2_ n3_ n4_ n5_ n6_; clear hb hbox hg; have hnb26 := NB223_224.out; have hnc26 := NB224_223.out; have hcz27_0 : w25.cell? ⟨gb223, 0, none⟩ = some (.int .i64 a0_0) := (blk_cell BK223.out 0).trans rfl; have hcz27_1 : w25.cell? ⟨gb223, 1, none⟩ = some (.int .i64 a0_1) := (blk_cell BK223.out 1).trans rfl; have hcz27_2 : w25.cell? ⟨gb223, 2, none⟩ = some (.string a0_2) := (blk_cell BK223.out 2).trans rfl; have hcz27_3 : w25.cell? ⟨gb223, 3, none⟩ = some (.slice A0_3 l0_3.length c0_3) := (blk_cell BK223.out 3).trans rfl; have hcz27_4 : w25.cell? ⟨gb223, 4, none⟩ = some (.slice A0_4 l0_4.length c0_4) := (blk_cell BK223.out 4).trans rfl; have hfz27_0 := blk_frozen BK223.out 0; have hfz27_1 := blk_frozen BK223.out 1; have hfz27_2 := blk_frozen BK223.out 2; have hfz27_3 := blk_frozen BK223.out 3; have hfz27_4 := blk_frozen BK223.out 4; have hcz28_0 : w25.cell? ⟨gb224, 0, none⟩ = some (.int .i64 a1_0) := (blk_cell BK224.out 0).trans rfl; have hcz28_1 : w25.cell? ⟨gb224, 1, none⟩ = some (.int .i64 a1_1) := (blk_cell BK224.out 1).trans rfl; have hcz28_2 : w25.cell? ⟨gb224, 2, none⟩ = some (.string a1_2) := (blk_cell BK224.out 2).trans rfl; have hcz28_3 : w25.cell? ⟨gb224, 3, none⟩ = some (.slice A1_3 l1_3.length c1_3) := (blk_cell BK224.out 3).trans rfl; have hcz28_4 : w25.cell? ⟨gb224, 4, none⟩ = some (.slice A1_4 l1_4.length c1_4) := (blk_cell BK224.out 4).trans rfl; have hfz28_0 := blk_frozen BK224.out 0; have hfz28_1 := blk_frozen BK224.out 1; have hfz28_2 := blk_frozen BK224.out 2; have hfz28_3 := blk_frozen BK224.out 3; have hfz28_4 := blk_frozen BK224.out 4) | ((with_reducible refine gate_callee (f := 128) rfl ?_); refine goesL_ (some 38) rfl rfl Tryd.func128 (by kernel_rfl) rfl #[.string a0_2, .string a1_2] rfl (by (try simp only [List.map_toArray, List.map_cons, List.map_nil]); first | done | rfl | (simp only [List.length_drop, List.length_take]; rfl)) ?_; (with_reducible refine (munimentref03_texts.calls k a0_2 a1_2 t226 _ A23.out).mono ?_); rintro e w' ⟨rfl, ⟨nd, rfl⟩⟩; refine ⟨_, rfl, ?_⟩))
        go_ret
        exact ⟨by first | rfl | (simp [errW_none, errW_some] <;> rfl) | (simp [*, errW_none, errW_some] <;> rfl), by repeat (first | (with_reducible first | exact HB.out | apply below_alloc | apply pw_below_drewN | apply below_drew1 | refine below_set ?_ GE223.out | refine below_set ?_ GE224.out) | exact HB.out)⟩
      · rw [if_neg c22] at H
        have c22b0 : (a0_0 == 4) = false := beq_eq_false_iff_ne.mpr c22
        have c22b1 : (a0_0 != 4) = true := bne_iff_ne.mpr c22
        have HC29 := Aside0.mk H
        clear H
        go_enter Tryd.func84, Tryd.ntmps84
        go_upto_if 39 with (first | ((with_reducible refine gate_dst (N := 2) rfl ?_); (try (refine gate_guard (by rfl) ?_; dsimp only)); refine box_event ?hg (N := 2) ?hd (cs := #[.int .i64 a0_0, .int .i64 a0_1, .string a0_2, .slice A0_3 l0_3.length c0_3, .slice A0_4 l0_4.length c0_4]) (t := 25) ?hr ?_; (case hd => rfl); (case hg => rfl); (case hr => first | (go_simp; done) | (go_simp; rfl)); intro gb223 hg w30 hbox hb; have n0_ := Aside0.mk (below_step (by repeat (first | (with_reducible first | exact HB.out | apply below_alloc | apply pw_below_drewN | apply below_drew1) | exact HB.out)) hb); have n1_ := Aside0.mk (hbox); have n2_ := Aside0.mk ((by rw [hg]; exact (below_size (by repeat (first | (with_reducible first | exact HB.out | apply below_alloc | apply pw_below_drewN | apply below_drew1) | exact HB.out))) : w.heap.size ≤ gb223)); have n3_ := Aside0.mk ((by rw [hg]; exact (below_size (by repeat (first | (with_reducible first | exact HB.out | apply below_alloc | apply pw_below_drewN | apply below_drew1) | exact HB.out))) : w.heap.size ≤ gb223)); clear HB; have HB := n0_; have BK223 := n1_; have GW223 := n2_; have GE223 := n3_; clear n0_ n1_ n2_ n3_; clear hb hbox hg) | ((with_reducible refine gate_dst (N := 3) rfl ?_); (try (refine gate_guard (by rfl) ?_; dsimp only)); refine box_event ?hg (N := 3) ?hd (cs := #[.int .i64 a1_0, .int .i64 a1_1, .string a1_2, .slice A1_3 l1_3.length c1_3, .slice A1_4 l1_4.length c1_4]) (t := 25) ?hr ?_; (case hd => rfl); (case hg => rfl); (case hr => first | (go_simp; done) | (go_simp; rfl)); intro gb224 hg w31 hbox hb; have n0_ := Aside0.mk (blk_below (g := gb223) (o := .cells #[.int .i64 a0_0, .int .i64 a0_1, .string a0_2, .slice A0_3 l0_3.length c0_3, .slice A0_4 l0_4.length c0_4] 25 (0, 0)) (by (with_reducible repeat (first | refine blk_drewN ?_ _ | refine blk_drew ?_ | refine blk_alloc ?_ _)); exact BK223.out) hb); have n1_ := Aside0.mk (below_step (by repeat (first | (with_reducible first | exact HB.out | apply below_alloc | apply pw_below_drewN | apply below_drew1 | refine below_set ?_ GE223.out) | exact HB.out)) hb); have n2_ := Aside0.mk (hbox); have n3_ := Aside0.mk ((by rw [hg]; exact (below_size (by repeat (first | (with_reducible first | exact HB.out | apply below_alloc | apply pw_below_drewN | apply below_drew1 | refine below_set ?_ GE223.out) | exact HB.out))) : w.heap.size ≤ gb224)); have n4_ := Aside0.mk ((by rw [hg]; exact (below_size (by repeat (first | (with_reducible first | exact HB.out | apply below_alloc | apply pw_below_drewN | apply below_drew1 | refine below_set ?_ GE223.out) | exact HB.out))) : w.heap.size ≤ gb224)); have n5_ := Aside0.mk ((by rw [hg]; exact Nat.ne_of_lt (blk_lt (g := gb223) (o := .cells #[.int .i64 a0_0, .int .i64 a0_1, .string a0_2, .slice A0_3 l0_3.length c0_3, .slice A0_4 l0_4.length c0_4] 25 (0, 0)) (by (with_reducible repeat (first | refine blk_drewN ?_ _ | refine blk_drew ?_ | refine blk_alloc ?_ _)); exact BK223.out)) : gb223 ≠ gb224)); have n6_ := Aside0.mk ((by rw [hg]; exact Nat.ne_of_gt (blk_lt (g := gb223) (o := .cells #[.int .i64 a0_0, .int .i64 a0_1, .string a0_2, .slice A0_3 l0_3.length c0_3, .slice A0_4 l0_4.length c0_4] 25 (0, 0)) (by (with_reducible repeat (first | refine blk_drewN ?_ _ | refine blk_drew ?_ | refine blk_alloc ?_ _)); exact BK223.out)) : gb224 ≠ gb223)); clear BK223; clear HB; have BK223 := n0_; have HB := n1_; have BK224 := n2_; have GW224 := n3_; have GE224 := n4_; have NB223_224 := n5_; have NB224_223 := n6_; clear n0_ n1_ n2_ n3_ n4_ n5_ n6_; clear hb hbox hg; have hnb32 := NB223_224.out; have hnc32 := NB224_223.out; have hcz33_0 : w31.cell? ⟨gb223, 0, none⟩ = some (.int .i64 a0_0) := (blk_cell BK223.out 0).trans rfl; have hcz33_1 : w31.cell? ⟨gb223, 1, none⟩ = some (.int .i64 a0_1) := (blk_cell BK223.out 1).trans rfl; have hcz33_2 : w31.cell? ⟨gb223, 2, none⟩ = some (.string a0_2) := (blk_cell BK223.out 2).trans rfl; have hcz33_3 : w31.cell? ⟨gb223, 3, none⟩ = some (.slice A0_3 l0_3.length c0_3) := (blk_cell BK223.out 3).trans rfl; have hcz33_4 : w31.cell? ⟨gb223, 4, none⟩ = some (.slice A0_4 l0_4.length c0_4) := (blk_cell BK223.out 4).trans rfl; have hfz33_0 := blk_frozen BK223.out 0; have hfz33_1 := blk_frozen BK223.out 1; have hfz33_2 := blk_frozen BK223.out 2; have hfz33_3 := blk_frozen BK223.out 3; have hfz33_4 := blk_frozen BK223.out 4; have hcz34_0 : w31.cell? ⟨gb224, 0, none⟩ = some (.int .i64 a1_0) := (blk_cell BK224.out 0).trans rfl; have hcz34_1 : w31.cell? ⟨gb224, 1, none⟩ = some (.int .i64 a1_1) := (blk_cell BK224.out 1).trans rfl; have hcz34_2 : w31.cell? ⟨gb224, 2, none⟩ = some (.string a1_2) := (blk_cell BK224.out 2).trans rfl; have hcz34_3 : w31.cell? ⟨gb224, 3, none⟩ = some (.slice A1_3 l1_3.length c1_3) := (blk_cell BK224.out 3).trans rfl; have hcz34_4 : w31.cell? ⟨gb224, 4, none⟩ = some (.slice A1_4 l1_4.length c1_4) := (blk_cell BK224.out 4).trans rfl; have hfz34_0 := blk_frozen BK224.out 0; have hfz34_1 := blk_frozen BK224.out 1; have hfz34_2 := blk_frozen BK224.out 2; have hfz34_3 := blk_frozen BK224.out 3; have hfz34_4 := blk_frozen BK224.out 4))
        (try simp only [Act.put, List.setIfInBounds_toArray, List.set_cons_zero, List.set_cons_succ])
        go_cut [39] (fun v39 wc => ∃ (kq : Nat) (x39_28 : Bool), v39 = .bool x39_28 ∧ Aside0 (munimentref03_Plain.j0 kq x39_28 a0_0 a0_1 a0_2 l0_3 l0_4 a1_0 a1_1 a1_2 l1_3 l1_4 = some r) ∧ Aside0 (kq ≤ k) ∧ Aside0 (wc.heap[gb223]? = some (.cells #[.int .i64 a0_0, .int .i64 a0_1, .string a0_2, (.slice A0_3 l0_3.length c0_3), (.slice A0_4 l0_4.length c0_4)] 25 (0, 0))) ∧ Aside0 (wc.heap[gb224]? = some (.cells #[.int .i64 a1_0, .int .i64 a1_1, .string a1_2, (.slice A1_3 l1_3.length c1_3), (.slice A1_4 l1_4.length c1_4)] 25 (0, 0))) ∧ Aside0 (Below w.heap.size w wc))
        case first =>
          have H := HC29.out
          clear HC29
          by_cases c35 : a0_0 = 5
          · rw [if_pos c35] at H
            have c35b0 : (a0_0 == 5) = true := beq_iff_eq.mpr c35
            have c35b1 : (a0_0 != 5) = false := bne_eq_false_iff_eq.mpr c35
            clear c35
            (first | rw [c35b0] | (simp only [i64_w, i32_w]; rw [c35b0]) | skip)
            have H' := Aside0.mk H
            clear H
            go_wp2
            go_meet
            case rel => exact ⟨_, ((a0_0 == 5)), (by first | rfl | (simp; done) | (simp [*]; done)), H', ⟨by first | omega | exact Nat.le_refl _⟩, ⟨by (with_reducible repeat (first | refine blk_drewN ?_ _ | refine blk_drew ?_ | refine blk_alloc ?_ _)); exact BK223.out⟩, ⟨by (with_reducible repeat (first | refine blk_drewN ?_ _ | refine blk_drew ?_ | refine blk_alloc ?_ _)); exact BK224.out⟩, ⟨by repeat (first | (with_reducible first | exact HB.out | apply below_alloc | apply pw_below_drewN | apply below_drew1 | refine below_set ?_ GE223.out | refine below_set ?_ GE224.out) | exact HB.out)⟩⟩
          · rw [if_neg c35] at H
            have c35b0 : (a0_0 == 5) = false := beq_eq_false_iff_ne.mpr c35
            have c35b1 : (a0_0 != 5) = true := bne_iff_ne.mpr c35
            (first | rw [c35b0] | (simp only [i64_w, i32_w]; rw [c35b0]) | skip)
            have H' := Aside0.mk H
            clear H
            go_wp2
            go_meet
            case rel => exact ⟨_, ((a0_0 == 6)), (by first | rfl | (simp; done) | (simp [*]; done)), H', ⟨by first | omega | exact Nat.le_refl _⟩, ⟨by (with_reducible repeat (first | refine blk_drewN ?_ _ | refine blk_drew ?_ | refine blk_alloc ?_ _)); exact BK223.out⟩, ⟨by (with_reducible repeat (first | refine blk_drewN ?_ _ | refine blk_drew ?_ | refine blk_alloc ?_ _)); exact BK224.out⟩, ⟨by repeat (first | (with_reducible first | exact HB.out | apply below_alloc | apply pw_below_drewN | apply below_drew1 | refine below_set ?_ GE223.out | refine below_set ?_ GE224.out) | exact HB.out)⟩⟩
        case rest =>
          clear HC29
          try clear c1
          try clear c2
          try clear p2
          try clear c3
          try clear c3b0
          try clear c3b1
          try clear c4
          try clear c4b0
          try clear c4b1
          try clear c5
          try clear c5b0
          try clear c8
          try clear c11
          try clear c11b0
          try clear c12
          try clear c14
          try clear c19
          try clear c22
          try clear c22b0
          try clear c22b1
          try clear c26
          try clear c32
          try clear c35
          try clear c35b0
          try clear c35b1
          try clear hcz10_0
          try clear hcz10_1
          try clear hcz10_2
          try clear hcz10_3
          try clear hcz10_4
          try clear hcz15_0
          try clear hcz15_1
          try clear hcz15_2
          try clear hcz15_3
          try clear hcz15_4
          try clear hcz16_0
          try clear hcz16_1
          try clear hcz16_2
          try clear hcz16_3
          try clear hcz16_4
          try clear hcz20_0
          try clear hcz20_1
          try clear hcz20_2
          try clear hcz20_3
          try clear hcz20_4
          try clear hcz21_0
          try clear hcz21_1
          try clear hcz21_2
          try clear hcz21_3
          try clear hcz21_4
          try clear hcz27_0
          try clear hcz27_1
          try clear hcz27_2
          try clear hcz27_3
          try clear hcz27_4
          try clear hcz28_0
          try clear hcz28_1
          try clear hcz28_2
          try clear hcz28_3
          try clear hcz28_4
          try clear hcz33_0
          try clear hcz33_1
          try clear hcz33_2
          try clear hcz33_3
          try clear hcz33_4
          try clear hcz34_0
          try clear hcz34_1
          try clear hcz34_2
          try clear hcz34_3
          try clear hcz34_4
          try clear hcz9_0
          try clear hcz9_1
          try clear hcz9_2
          try clear hcz9_3
          try clear hcz9_4
          try clear hfz10_0
          try clear hfz10_1
          try clear hfz10_2
          try clear hfz10_3
          try clear hfz10_4
          try clear hfz15_0
          try clear hfz15_1
          try clear hfz15_2
          try clear hfz15_3
          try clear hfz15_4
          try clear hfz16_0
          try clear hfz16_1
          try clear hfz16_2
          try clear hfz16_3
          try clear hfz16_4
          try clear hfz20_0
          try clear hfz20_1
          try clear hfz20_2
          try clear hfz20_3
          try clear hfz20_4
          try clear hfz21_0
          try clear hfz21_1
          try clear hfz21_2
          try clear hfz21_3
          try clear hfz21_4
          try clear hfz27_0
          try clear hfz27_1
          try clear hfz27_2
          try clear hfz27_3
          try clear hfz27_4
          try clear hfz28_0
          try clear hfz28_1
          try clear hfz28_2
          try clear hfz28_3
          try clear hfz28_4
          try clear hfz33_0
          try clear hfz33_1
          try clear hfz33_2
          try clear hfz33_3
          try clear hfz33_4
          try clear hfz34_0
          try clear hfz34_1
          try clear hfz34_2
          try clear hfz34_3
          try clear hfz34_4
          try clear hfz9_0
          try clear hfz9_1
          try clear hfz9_2
          try clear hfz9_3
          try clear hfz9_4
          obtain ⟨kq, x39_28, rfl, HA, HJ28, BK223, BK224, HB⟩ := hcut
          cases kq with
          | zero => exact absurd HA.out (by simp [munimentref03_Plain.j0])
          | succ kj28 =>
            have H := HA.out
            clear HA
            simp only [munimentref03_Plain.j0] at H
            by_cases c36 : x39_28 = true
            · subst c36
              have H1 : (munimentref03_Plain.l0 kj28 0 a0_0 a0_1 a0_2 l0_3 l0_4 a1_0 a1_1 a1_2 l1_3 l1_4) = some r := by rw [if_pos rfl] at H; exact H
              clear H
              have H := H1
              clear H1
              have H' := Aside0.mk H
              clear H
              go_wp2
              go_loopg [5] kj28 (fun kq v5 w' => ∃ (x5_2 : Int), v5 = .int .i64 x5_2 ∧ Aside0 (munimentref03_Plain.l0 kq x5_2 a0_0 a0_1 a0_2 l0_3 l0_4 a1_0 a1_1 a1_2 l1_3 l1_4 = some r) ∧ Aside0 (kq ≤ kj28) ∧ Aside0 (w'.heap[gb223]? = some (.cells #[.int .i64 a0_0, .int .i64 a0_1, .string a0_2, (.slice A0_3 l0_3.length c0_3), (.slice A0_4 l0_4.length c0_4)] 25 (0, 0))) ∧ Aside0 (w'.heap[gb224]? = some (.cells #[.int .i64 a1_0, .int .i64 a1_1, .string a1_2, (.slice A1_3 l1_3.length c1_3), (.slice A1_4 l1_4.length c1_4)] 25 (0, 0))) ∧ Aside0 (Below w.heap.size w w'))
              case atStart => exact ⟨(0), (by first | rfl | (simp; done) | (simp [*]; done)), H', ⟨Nat.le_refl _⟩, ⟨by (with_reducible repeat (first | refine blk_drewN ?_ _ | refine blk_drew ?_ | refine blk_alloc ?_ _)); exact BK223.out⟩, ⟨by (with_reducible repeat (first | refine blk_drewN ?_ _ | refine blk_drew ?_ | refine blk_alloc ?_ _)); exact BK224.out⟩, ⟨by repeat (first | (with_reducible first | exact HB.out | apply below_alloc | apply pw_below_drewN | apply below_drew1 | refine below_set ?_ GE223.out | refine below_set ?_ GE224.out) | exact HB.out)⟩⟩
              case round =>
                clear H'
                try clear c1
                try clear c2
                try clear p2
                try clear c3
                try clear c3b0
                try clear c3b1
                try clear c4
                try clear c4b0
                try clear c4b1
                try clear c5
                try clear c5b0
                try clear c8
                try clear c11
                try clear c11b0
                try clear c12
                try clear c14
                try clear c19
                try clear c22
                try clear c22b0
                try clear c22b1
                try clear c26
                try clear c32
                try clear c35
                try clear c35b0
                try clear c35b1
                try clear c36
                try clear hcz10_0
                try clear hcz10_1
                try clear hcz10_2
                try clear hcz10_3
                try clear hcz10_4
                try clear hcz15_0
                try clear hcz15_1
                try clear hcz15_2
                try clear hcz15_3
                try clear hcz15_4
                try clear hcz16_0
                try clear hcz16_1
                try clear hcz16_2
                try clear hcz16_3
                try clear hcz16_4
                try clear hcz20_0
                try clear hcz20_1
                try clear hcz20_2
                try clear hcz20_3
                try clear hcz20_4
                try clear hcz21_0
                try clear hcz21_1
                try clear hcz21_2
                try clear hcz21_3
                try clear hcz21_4
                try clear hcz27_0
                try clear hcz27_1
                try clear hcz27_2
                try clear hcz27_3
                try clear hcz27_4
                try clear hcz28_0
                try clear hcz28_1
                try clear hcz28_2
                try clear hcz28_3
                try clear hcz28_4
                try clear hcz33_0
                try clear hcz33_1
                try clear hcz33_2
                try clear hcz33_3
                try clear hcz33_4
                try clear hcz34_0
                try clear hcz34_1
                try clear hcz34_2
                try clear hcz34_3
                try clear hcz34_4
                try clear hcz9_0
                try clear hcz9_1
                try clear hcz9_2
                try clear hcz9_3
                try clear hcz9_4
                try clear hfz10_0
                try clear hfz10_1
                try clear hfz10_2
                try clear hfz10_3
                try clear hfz10_4
                try clear hfz15_0
                try clear hfz15_1
                try clear hfz15_2
                try clear hfz15_3
                try clear hfz15_4
                try clear hfz16_0
                try clear hfz16_1
                try clear hfz16_2
                try clear hfz16_3
                try clear hfz16_4
                try clear hfz20_0
                try clear hfz20_1
                try clear hfz20_2
                try clear hfz20_3
                try clear hfz20_4
                try clear hfz21_0
                try clear hfz21_1
                try clear hfz21_2
                try clear hfz21_3
                try clear hfz21_4
                try clear hfz27_0
                try clear hfz27_1
                try clear hfz27_2
                try clear hfz27_3
                try clear hfz27_4
                try clear hfz28_0
                try clear hfz28_1
                try clear hfz28_2
                try clear hfz28_3
                try clear hfz28_4
                try clear hfz33_0
                try clear hfz33_1
                try clear hfz33_2
                try clear hfz33_3
                try clear hfz33_4
                try clear hfz34_0
                try clear hfz34_1
                try clear hfz34_2
                try clear hfz34_3
                try clear hfz34_4
                try clear hfz9_0
                try clear hfz9_1
                try clear hfz9_2
                try clear hfz9_3
                try clear hfz9_4
                try clear p2
                obtain ⟨x5_2, rfl, HA, HK2, BK223, BK224, HB⟩ := hrel
                cases gk with
                | zero => exact absurd HA.out (by simp [munimentref03_Plain.l0])
                | succ k2 =>
                  have H := HA.out
                  clear HA
                  simp only [munimentref03_Plain.l0] at H
                  have HC37 := Aside0.mk H
                  clear H
                  go_upto_region 15 with (fail)
                  go_cut [53] (fun v53 wc => ∃ (kq : Nat) (x53_36 : Bool), v53 = .bool x53_36 ∧ Aside0 (munimentref03_Plain.j2 kq x5_2 x53_36 a0_0 a0_1 a0_2 l0_3 l0_4 a1_0 a1_1 a1_2 l1_3 l1_4 = some r) ∧ Aside0 (kq ≤ k2) ∧ Aside0 (wc.heap[gb223]? = some (.cells #[.int .i64 a0_0, .int .i64 a0_1, .string a0_2, (.slice A0_3 l0_3.length c0_3), (.slice A0_4 l0_4.length c0_4)] 25 (0, 0))) ∧ Aside0 (wc.heap[gb224]? = some (.cells #[.int .i64 a1_0, .int .i64 a1_1, .string a1_2, (.slice A1_3 l1_3.length c1_3), (.slice A1_4 l1_4.length c1_4)] 25 (0, 0))) ∧ Aside0 (Below w.heap.size w wc))
                  case first =>
                    have H := HC37.out
                    clear HC37
                    by_cases c38 : x5_2 < (l0_4.length : Int)
                    · rw [if_pos c38] at H
                      have c38b0 : decide (x5_2 < (l0_4.length : Int)) = true := decide_eq_true c38
                      clear c38
                      (first | rw [c38b0] | (simp only [i64_w, i32_w]; rw [c38b0]) | skip)
                      have H' := Aside0.mk H
                      clear H
                      have hnb39 := NB223_224.out
                      have hnc39 := NB224_223.out
                      have hcz40_0 : wr.cell? ⟨gb223, 0, none⟩ = some (.int .i64 a0_0) := (blk_cell BK223.out 0).trans rfl
                      have hcz40_1 : wr.cell? ⟨gb223, 1, none⟩ = some (.int .i64 a0_1) := (blk_cell BK223.out 1).trans rfl
                      have hcz40_2 : wr.cell? ⟨gb223, 2, none⟩ = some (.string a0_2) := (blk_cell BK223.out 2).trans rfl
                      have hcz40_3 : wr.cell? ⟨gb223, 3, none⟩ = some (.slice A0_3 l0_3.length c0_3) := (blk_cell BK223.out 3).trans rfl
                      have hcz40_4 : wr.cell? ⟨gb223, 4, none⟩ = some (.slice A0_4 l0_4.length c0_4) := (blk_cell BK223.out 4).trans rfl
                      have hfz40_0 := blk_frozen BK223.out 0
                      have hfz40_1 := blk_frozen BK223.out 1
                      have hfz40_2 := blk_frozen BK223.out 2
                      have hfz40_3 := blk_frozen BK223.out 3
                      have hfz40_4 := blk_frozen BK223.out 4
                      have hcz41_0 : wr.cell? ⟨gb224, 0, none⟩ = some (.int .i64 a1_0) := (blk_cell BK224.out 0).trans rfl
                      have hcz41_1 : wr.cell? ⟨gb224, 1, none⟩ = some (.int .i64 a1_1) := (blk_cell BK224.out 1).trans rfl
                      have hcz41_2 : wr.cell? ⟨gb224, 2, none⟩ = some (.string a1_2) := (blk_cell BK224.out 2).trans rfl
                      have hcz41_3 : wr.cell? ⟨gb224, 3, none⟩ = some (.slice A1_3 l1_3.length c1_3) := (blk_cell BK224.out 3).trans rfl
                      have hcz41_4 : wr.cell? ⟨gb224, 4, none⟩ = some (.slice A1_4 l1_4.length c1_4) := (blk_cell BK224.out 4).trans rfl
                      have hfz41_0 := blk_frozen BK224.out 0
                      have hfz41_1 := blk_frozen BK224.out 1
                      have hfz41_2 := blk_frozen BK224.out 2
                      have hfz41_3 := blk_frozen BK224.out 3
                      have hfz41_4 := blk_frozen BK224.out 4
                      go_wp2
                      go_meet
                      case rel => exact ⟨_, (decide (x5_2 < (l1_4.length : Int))), (by first | rfl | (simp; done) | (simp [*]; done)), H', ⟨by have := HJ28.out; have := HK2.out; first | omega | exact Nat.le_refl _⟩, ⟨by (with_reducible repeat (first | refine blk_drewN ?_ _ | refine blk_drew ?_ | refine blk_alloc ?_ _)); exact BK223.out⟩, ⟨by (with_reducible repeat (first | refine blk_drewN ?_ _ | refine blk_drew ?_ | refine blk_alloc ?_ _)); exact BK224.out⟩, ⟨by repeat (first | (with_reducible first | exact HB.out | apply below_alloc | apply pw_below_drewN | apply below_drew1 | refine below_set ?_ GE223.out | refine below_set ?_ GE224.out) | exact HB.out)⟩⟩
                    · rw [if_neg c38] at H
                      have c38b0 : decide (x5_2 < (l0_4.length : Int)) = false := decide_eq_false c38
                      clear c38
                      (first | rw [c38b0] | (simp only [i64_w, i32_w]; rw [c38b0]) | skip)
                      have H' := Aside0.mk H
                      clear H
                      have hnb42 := NB223_224.out
                      have hnc42 := NB224_223.out
                      have hcz43_0 : wr.cell? ⟨gb223, 0, none⟩ = some (.int .i64 a0_0) := (blk_cell BK223.out 0).trans rfl
                      have hcz43_1 : wr.cell? ⟨gb223, 1, none⟩ = some (.int .i64 a0_1) := (blk_cell BK223.out 1).trans rfl
                      have hcz43_2 : wr.cell? ⟨gb223, 2, none⟩ = some (.string a0_2) := (blk_cell BK223.out 2).trans rfl
                      have hcz43_3 : wr.cell? ⟨gb223, 3, none⟩ = some (.slice A0_3 l0_3.length c0_3) := (blk_cell BK223.out 3).trans rfl
                      have hcz43_4 : wr.cell? ⟨gb223, 4, none⟩ = some (.slice A0_4 l0_4.length c0_4) := (blk_cell BK223.out 4).trans rfl
                      have hfz43_0 := blk_frozen BK223.out 0
                      have hfz43_1 := blk_frozen BK223.out 1
                      have hfz43_2 := blk_frozen BK223.out 2
                      have hfz43_3 := blk_frozen BK223.out 3
                      have hfz43_4 := blk_frozen BK223.out 4
                      go_wp2
                      go_meet
                      case rel => exact ⟨_, (false), (by first | rfl | (simp; done) | (simp [*]; done)), H', ⟨by have := HJ28.out; have := HK2.out; first | omega | exact Nat.le_refl _⟩, ⟨by (with_reducible repeat (first | refine blk_drewN ?_ _ | refine blk_drew ?_ | refine blk_alloc ?_ _)); exact BK223.out⟩, ⟨by (with_reducible repeat (first | refine blk_drewN ?_ _ | refine blk_drew ?_ | refine blk_alloc ?_ _)); exact BK224.out⟩, ⟨by repeat (first | (with_reducible first | exact HB.out | apply below_alloc | apply pw_below_drewN | apply below_drew1 | refine below_set ?_ GE223.out | refine below_set ?_ GE224.out) | exact HB.out)⟩⟩
                  case rest =>
                    clear HC37
                    try clear c1
                    try clear c2
                    try clear p2
                    try clear c3
                    try clear c3b0
                    try clear c3b1
                    try clear c4
                    try clear c4b0
                    try clear c4b1
                    try clear c5
                    try clear c5b0
                    try clear c8
                    try clear c11
                    try clear c11b0
                    try clear c12
                    try clear c14
                    try clear c19
                    try clear c22
                    try clear c22b0
                    try clear c22b1
                    try clear c26
                    try clear c32
                    try clear c35
                    try clear c35b0
                    try clear c35b1
                    try clear c36
                    try clear c38
                    try clear c38b0
                    try clear c39
                    try clear c42
                    try clear hcz10_0
                    try clear hcz10_1
                    try clear hcz10_2
                    try clear hcz10_3
                    try clear hcz10_4
                    try clear hcz15_0
                    try clear hcz15_1
                    try clear hcz15_2
                    try clear hcz15_3
                    try clear hcz15_4
                    try clear hcz16_0
                    try clear hcz16_1
                    try clear hcz16_2
                    try clear hcz16_3
                    try clear hcz16_4
                    try clear hcz20_0
                    try clear hcz20_1
                    try clear hcz20_2
                    try clear hcz20_3
                    try clear hcz20_4
                    try clear hcz21_0
                    try clear hcz21_1
                    try clear hcz21_2
                    try clear hcz21_3
                    try clear hcz21_4
                    try clear hcz27_0
                    try clear hcz27_1
                    try clear hcz27_2
                    try clear hcz27_3
                    try clear hcz27_4
                    try clear hcz28_0
                    try clear hcz28_1
                    try clear hcz28_2
                    try clear hcz28_3
                    try clear hcz28_4
                    try clear hcz33_0
                    try clear hcz33_1
                    try clear hcz33_2
                    try clear hcz33_3
                    try clear hcz33_4
                    try clear hcz34_0
                    try clear hcz34_1
                    try clear hcz34_2
                    try clear hcz34_3
                    try clear hcz34_4
                    try clear hcz40_0
                    try clear hcz40_1
                    try clear hcz40_2
                    try clear hcz40_3
                    try clear hcz40_4
                    try clear hcz41_0
                    try clear hcz41_1
                    try clear hcz41_2
                    try clear hcz41_3
                    try clear hcz41_4
                    try clear hcz43_0
                    try clear hcz43_1
                    try clear hcz43_2
                    try clear hcz43_3
                    try clear hcz43_4
                    try clear hcz9_0
                    try clear hcz9_1
                    try clear hcz9_2
                    try clear hcz9_3
                    try clear hcz9_4
                    try clear hfz10_0
                    try clear hfz10_1
                    try clear hfz10_2
                    try clear hfz10_3
                    try clear hfz10_4
                    try clear hfz15_0
                    try clear hfz15_1
                    try clear hfz15_2
                    try clear hfz15_3
                    try clear hfz15_4
                    try clear hfz16_0
                    try clear hfz16_1
                    try clear hfz16_2
                    try clear hfz16_3
                    try clear hfz16_4
                    try clear hfz20_0
                    try clear hfz20_1
                    try clear hfz20_2
                    try clear hfz20_3
                    try clear hfz20_4
                    try clear hfz21_0
                    try clear hfz21_1
                    try clear hfz21_2
                    try clear hfz21_3
                    try clear hfz21_4
                    try clear hfz27_0
                    try clear hfz27_1
                    try clear hfz27_2
                    try clear hfz27_3
                    try clear hfz27_4
                    try clear hfz28_0
                    try clear hfz28_1
                    try clear hfz28_2
                    try clear hfz28_3
                    try clear hfz28_4
                    try clear hfz33_0
                    try clear hfz33_1
                    try clear hfz33_2
                    try clear hfz33_3
                    try clear hfz33_4
                    try clear hfz34_0
                    try clear hfz34_1
                    try clear hfz34_2
                    try clear hfz34_3
                    try clear hfz34_4
                    try clear hfz40_0
                    try clear hfz40_1
                    try clear hfz40_2
                    try clear hfz40_3
                    try clear hfz40_4
                    try clear hfz41_0
                    try clear hfz41_1
                    try clear hfz41_2
                    try clear hfz41_3
                    try clear hfz41_4
                    try clear hfz43_0
                    try clear hfz43_1
                    try clear hfz43_2
                    try clear hfz43_3
                    try clear hfz43_4
                    try clear hfz9_0
                    try clear hfz9_1
                    try clear hfz9_2
                    try clear hfz9_3
                    try clear hfz9_4
                    try clear p2
                    obtain ⟨kq, x53_36, rfl, HA, HJ36, BK223, BK224, HB⟩ := hcut
                    cases kq with
                    | zero => exact absurd HA.out (by simp [munimentref03_Plain.j2])
                    | succ kj36 =>
                      have H := HA.out
                      clear HA
                      simp only [munimentref03_Plain.j2] at H
                      by_cases c44 : x53_36 = true
                      · subst c44
                        have H1 : (if a0_0 = 6 then (if 0 ≤ x5_2 then (if x5_2 < (l0_3.length : Int) then (if x5_2 < (l1_3.length : Int) then ((munimentref03_texts.f kj36 (rdOf ByteArray.empty l0_3 x5_2) (rdOf ByteArray.empty l1_3 x5_2)).bind fun t230 => (if t230 = 0 then (if x5_2 < (l0_4.length : Int) then (if x5_2 < (l1_4.length : Int) then ((munimentref03_Plain.f kj36 ((rd_T25 l0_4 x5_2).f0) ((rd_T25 l0_4 x5_2).f1) ((rd_T25 l0_4 x5_2).f2) ((rd_T25 l0_4 x5_2).f3) ((rd_T25 l0_4 x5_2).f4) ((rd_T25 l1_4 x5_2).f0) ((rd_T25 l1_4 x5_2).f1) ((rd_T25 l1_4 x5_2).f2) ((rd_T25 l1_4 x5_2).f3) ((rd_T25 l1_4 x5_2).f4)).bind fun t233 => (if t233 = 0 then (munimentref03_Plain.l0 kj36 (wrap64 (x5_2 + 1)) a0_0 a0_1 a0_2 l0_3 l0_4 a1_0 a1_1 a1_2 l1_3 l1_4) else (some t233))) else (none)) else (none)) else (some t230))) else (none)) else (none)) else (none)) else (if 0 ≤ x5_2 then (if x5_2 < (l0_4.length : Int) then (if x5_2 < (l1_4.length : Int) then ((munimentref03_Plain.f kj36 ((rd_T25 l0_4 x5_2).f0) ((rd_T25 l0_4 x5_2).f1) ((rd_T25 l0_4 x5_2).f2) ((rd_T25 l0_4 x5_2).f3) ((rd_T25 l0_4 x5_2).f4) ((rd_T25 l1_4 x5_2).f0) ((rd_T25 l1_4 x5_2).f1) ((rd_T25 l1_4 x5_2).f2) ((rd_T25 l1_4 x5_2).f3) ((rd_T25 l1_4 x5_2).f4)).bind fun t236 => (if t236 = 0 then (munimentref03_Plain.l0 kj36 (wrap64 (x5_2 + 1)) a0_0 a0_1 a0_2 l0_3 l0_4 a1_0 a1_1 a1_2 l1_3 l1_4) else (some t236))) else (none)) else (none)) else (none))) = some r := by rw [if_pos rfl] at H; exact H
                        clear H
                        have H := H1
                        clear H1
                        by_cases c45 : a0_0 = 6
                        · rw [if_pos c45] at H
                          have c45b0 : (a0_0 == 6) = true := beq_iff_eq.mpr c45
                          have c45b1 : (a0_0 != 6) = false := bne_eq_false_iff_eq.mpr c45
                          clear c45
                          by_cases c46 : 0 ≤ x5_2
                          · rw [if_pos c46] at H
                            have c46b0 : decide (0 ≤ x5_2) = true := decide_eq_true c46
                            clear c46
                            by_cases c47 : x5_2 < (l0_3.length : Int)
                            · rw [if_pos c47] at H
                              have c47b0 : decide (x5_2 < (l0_3.length : Int)) = true := decide_eq_true c47
                              clear c47
                              by_cases c48 : x5_2 < (l1_3.length : Int)
                              · rw [if_pos c48] at H
                                have c48b0 : decide (x5_2 < (l1_3.length : Int)) = true := decide_eq_true c48
                                clear c48
                                replace H := Option.bind_eq_some_iff.mp H
                                obtain ⟨t230, A490, H⟩ := H
                                replace H : (if t230 = 0 then (if x5_2 < (l0_4.length : Int) then (if x5_2 < (l1_4.length : Int) then ((munimentref03_Plain.f kj36 ((rd_T25 l0_4 x5_2).f0) ((rd_T25 l0_4 x5_2).f1) ((rd_T25 l0_4 x5_2).f2) ((rd_T25 l0_4 x5_2).f3) ((rd_T25 l0_4 x5_2).f4) ((rd_T25 l1_4 x5_2).f0) ((rd_T25 l1_4 x5_2).f1) ((rd_T25 l1_4 x5_2).f2) ((rd_T25 l1_4 x5_2).f3) ((rd_T25 l1_4 x5_2).f4)).bind fun t233 => (if t233 = 0 then (munimentref03_Plain.l0 kj36 (wrap64 (x5_2 + 1)) a0_0 a0_1 a0_2 l0_3 l0_4 a1_0 a1_1 a1_2 l1_3 l1_4) else (some t233))) else (none)) else (none)) else (some t230)) = some r := H
                                have A49 := Aside0.mk A490
                                clear A490
                                by_cases c50 : t230 = 0
                                · rw [if_pos c50] at H
                                  have c50b0 : (t230 == 0) = true := beq_iff_eq.mpr c50
                                  have c50b1 : (t230 != 0) = false := bne_eq_false_iff_eq.mpr c50
                                  clear c50
                                  by_cases c51 : x5_2 < (l0_4.length : Int)
                                  · rw [if_pos c51] at H
                                    have c51b0 : decide (x5_2 < (l0_4.length : Int)) = true := decide_eq_true c51
                                    clear c51
                                    by_cases c52 : x5_2 < (l1_4.length : Int)
                                    · rw [if_pos c52] at H
                                      have c52b0 : decide (x5_2 < (l1_4.length : Int)) = true := decide_eq_true c52
                                      clear c52
                                      replace H := Option.bind_eq_some_iff.mp H
                                      obtain ⟨t233, A530, H⟩ := H
                                      replace H : (if t233 = 0 then (munimentref03_Plain.l0 kj36 (wrap64 (x5_2 + 1)) a0_0 a0_1 a0_2 l0_3 l0_4 a1_0 a1_1 a1_2 l1_3 l1_4) else (some t233)) = some r := H
                                      have A53 := Aside0.mk A530
                                      clear A530
                                      by_cases c54 : t233 = 0
                                      · rw [if_pos c54] at H
                                        have c54b0 : (t233 == 0) = true := beq_iff_eq.mpr c54
                                        have c54b1 : (t233 != 0) = false := bne_eq_false_iff_eq.mpr c54
                                        clear c54
                                        have H' := Aside0.mk H
                                        clear H
                                        have hnb55 := NB223_224.out
                                        have hnc55 := NB224_223.out
                                        have hcz56_0 : wc.cell? ⟨gb223, 0, none⟩ = some (.int .i64 a0_0) := (blk_cell BK223.out 0).trans rfl
                                        have hcz56_1 : wc.cell? ⟨gb223, 1, none⟩ = some (.int .i64 a0_1) := (blk_cell BK223.out 1).trans rfl
                                        have hcz56_2 : wc.cell? ⟨gb223, 2, none⟩ = some (.string a0_2) := (blk_cell BK223.out 2).trans rfl
                                        have hcz56_3 : wc.cell? ⟨gb223, 3, none⟩ = some (.slice A0_3 l0_3.length c0_3) := (blk_cell BK223.out 3).trans rfl
                                        have hcz56_4 : wc.cell? ⟨gb223, 4, none⟩ = some (.slice A0_4 l0_4.length c0_4) := (blk_cell BK223.out 4).trans rfl
                                        have hfz56_0 := blk_frozen BK223.out 0
                                        have hfz56_1 := blk_frozen BK223.out 1
                                        have hfz56_2 := blk_frozen BK223.out 2
                                        have hfz56_3 := blk_frozen BK223.out 3
                                        have hfz56_4 := blk_frozen BK223.out 4
                                        try go_wp2
                                        have n0_ := Aside0.mk (blk_drew BK223.out)
                                        have n1_ := Aside0.mk (blk_drew BK224.out)
                                        have n2_ := Aside0.mk (below_drew1 HB.out)
                                        clear BK223
                                        clear BK224
                                        clear HB
                                        have BK223 := n0_
                                        have BK224 := n1_
                                        have HB := n2_
                                        clear n0_ n1_ n2_
                                        have p228 : 0 ≤ (x5_2 : Int) := of_decide_eq_true (by first | (with_reducible assumption) | assumption)
                                        have q228 : x5_2 < (l0_3.length : Int) := of_decide_eq_true (by first | (with_reducible assumption) | assumption)
                                        obtain ⟨ad228, e228, hx228_0⟩ := Kd.at_string HR0_3.out x5_2 p228 q228
                                        have hw228_0 := hx228_0
                                        cases e228
                                        replace hx228_0 := (HB.out.cell (World.block_lt_of_cell? w _ hx228_0)).trans hx228_0
                                        replace p228 := eq_true p228
                                        replace q228 := eq_true q228
                                        have p229 : 0 ≤ (x5_2 : Int) := of_decide_eq_true (by first | (with_reducible assumption) | assumption)
                                        have q229 : x5_2 < (l1_3.length : Int) := of_decide_eq_true (by first | (with_reducible assumption) | assumption)
                                        obtain ⟨ad229, e229, hx229_0⟩ := Kd.at_string HR1_3.out x5_2 p229 q229
                                        have hw229_0 := hx229_0
                                        cases e229
                                        replace hx229_0 := (HB.out.cell (World.block_lt_of_cell? w _ hx229_0)).trans hx229_0
                                        replace p229 := eq_true p229
                                        replace q229 := eq_true q229
                                        refine start_ (n := 12) (S := fun w' => w'.cell? ⟨gb223, 0, none⟩ = some (.int .i64 a0_0) ∧ w'.cell? ⟨gb223, 1, none⟩ = some (.int .i64 a0_1) ∧ w'.cell? ⟨gb223, 2, none⟩ = some (.string a0_2) ∧ w'.cell? ⟨gb223, 3, none⟩ = some (.slice (some ad228) l0_3.length c0_3) ∧ w'.cell? ⟨gb223, 4, none⟩ = some (.slice A0_4 l0_4.length c0_4) ∧ w'.cell? ⟨gb224, 0, none⟩ = some (.int .i64 a1_0) ∧ w'.cell? ⟨gb224, 1, none⟩ = some (.int .i64 a1_1) ∧ w'.cell? ⟨gb224, 2, none⟩ = some (.string a1_2) ∧ w'.cell? ⟨gb224, 3, none⟩ = some (.slice (some ad229) l1_3.length c1_3) ∧ w'.cell? ⟨gb224, 4, none⟩ = some (.slice A1_4 l1_4.length c1_4) ∧ w'.cell? (ad228.add (x5_2).toNat) = some (.string (rdOf ByteArray.empty l0_3 x5_2)) ∧ w'.cell? (ad229.add (x5_2).toNat) = some (.string (rdOf ByteArray.empty l1_3 x5_2))) (ds := []) #[false, false, false, false, false, false, false, false, false, false, false, false] (by kernel_rfl) rfl rfl ⟨(blk_cell BK223.out 0).trans rfl, (blk_cell BK223.out 1).trans rfl, (blk_cell BK223.out 2).trans rfl, (blk_cell BK223.out 3).trans rfl, (blk_cell BK223.out 4).trans rfl, (blk_cell BK224.out 0).trans rfl, (blk_cell BK224.out 1).trans rfl, (blk_cell BK224.out 2).trans rfl, (blk_cell BK224.out 3).trans rfl, (blk_cell BK224.out 4).trans rfl, ((HB.out.cell (World.block_lt_of_cell? w _ hw228_0)).trans hw228_0), ((HB.out.cell (World.block_lt_of_cell? w _ hw229_0)).trans hw229_0)⟩ (fun hHeld => ?_); refine with_tabW munimentref03_Plain.tab18 munimentref03_Plain.bits18 (fun HT_ HW_ => ?_)
                                        generalize wc.drew = w57 at BK223 BK224 HB hx228_0 hx229_0 hHeld ⊢
                                        refine pure_ (i := 0) (N := some 59) (v := ?_) (a' := ?_) #[true, false, false, false, false, false, false, false, false, false, false, false] rfl rfl (any_of HT_.out (by kernel_rfl)) (fun _ _ _ h => h) (Or.inl ⟨by rfl, ?_⟩) ?_ ?_
                                        rotate_left
                                        · intro w'
                                          go_simp
                                          with_reducible rfl
                                        rotate_left
                                        · simp only [Act.put, List.setIfInBounds_toArray, List.set_cons_zero, List.set_cons_succ, i64_w, i32_w]
                                          rfl
                                        refine pure_ (i := 2) (N := some 61) (v := ?_) (a' := ?_) #[true, false, true, false, false, false, false, false, false, false, false, false] rfl rfl (any_of HT_.out (by kernel_rfl)) (fun _ _ _ h => h) (Or.inl ⟨by rfl, ?_⟩) ?_ ?_
                                        rotate_left
                                        · intro w'
                                          go_simp
                                          with_reducible rfl
                                        rotate_left
                                        · simp only [Act.put, List.setIfInBounds_toArray, List.set_cons_zero, List.set_cons_succ, i64_w, i32_w]
                                          rfl
                                        refine pure_ (i := 5) (N := some 64) (v := ?_) (a' := ?_) #[true, false, true, false, false, true, false, false, false, false, false, false] rfl rfl (any_of HT_.out (by kernel_rfl)) (fun _ _ _ h => h) (Or.inl ⟨by rfl, ?_⟩) ?_ ?_
                                        rotate_left
                                        · intro w'
                                          go_simp
                                          with_reducible rfl
                                        rotate_left
                                        · simp only [Act.put, List.setIfInBounds_toArray, List.set_cons_zero, List.set_cons_succ, i64_w, i32_w]
                                          rfl
                                        refine pure_ (i := 7) (N := some 66) (v := ?_) (a' := ?_) #[true, false, true, false, false, true, false, true, false, false, false, false] rfl rfl (any_of HT_.out (by kernel_rfl)) (fun _ _ _ h => h) (Or.inl ⟨by rfl, ?_⟩) ?_ ?_
                                        rotate_left
                                        · intro w'
                                          go_simp
                                          with_reducible rfl
                                        rotate_left
                                        · simp only [Act.put, List.setIfInBounds_toArray, List.set_cons_zero, List.set_cons_succ, i64_w, i32_w]
                                          rfl
                                        refine take_ (i := 1) (N := some 60) (v := ?_) (a' := ?_) #[true, true, true, false, false, true, false, true, false, false, false, false] rfl rfl (take_ofW HT_.out HW_.out (by kernel_rfl)) (fun _ _ _ h => h) (Or.inl ⟨by rfl, ?_⟩) hHeld ?_ ?_
                                        rotate_left
                                        · rintro w' ⟨s0, s1, s2, s3, s4, s5, s6, s7, s8, s9, s10, s11⟩
                                          go_simp
                                          with_reducible rfl
                                        rotate_left
                                        · simp only [Act.put, List.setIfInBounds_toArray, List.set_cons_zero, List.set_cons_succ, i64_w, i32_w]
                                          rfl
                                        refine pure_ (i := 3) (N := some 62) (v := ?_) (a' := ?_) #[true, true, true, true, false, true, false, true, false, false, false, false] rfl rfl (any_of HT_.out (by kernel_rfl)) (fun _ _ _ h => h) (Or.inl ⟨by rfl, ?_⟩) ?_ ?_
                                        rotate_left
                                        · intro w'
                                          go_simp
                                          with_reducible rfl
                                        rotate_left
                                        · simp only [Act.put, List.setIfInBounds_toArray, List.set_cons_zero, List.set_cons_succ, i64_w, i32_w]
                                          rfl
                                        refine take_ (i := 4) (N := some 63) (v := ?_) (a' := ?_) #[true, true, true, true, true, true, false, true, false, false, false, false] rfl rfl (take_ofW HT_.out HW_.out (by kernel_rfl)) (fun _ _ _ h => h) (Or.inl ⟨by rfl, ?_⟩) hHeld ?_ ?_
                                        rotate_left
                                        · rintro w' ⟨s0, s1, s2, s3, s4, s5, s6, s7, s8, s9, s10, s11⟩
                                          go_simp
                                          with_reducible rfl
                                        rotate_left
                                        · simp only [Act.put, List.setIfInBounds_toArray, List.set_cons_zero, List.set_cons_succ, i64_w, i32_w]
                                          rfl
                                        refine take_ (i := 6) (N := some 65) (v := ?_) (a' := ?_) #[true, true, true, true, true, true, true, true, false, false, false, false] rfl rfl (take_ofW HT_.out HW_.out (by kernel_rfl)) (fun _ _ _ h => h) (Or.inl ⟨by rfl, ?_⟩) hHeld ?_ ?_
                                        rotate_left
                                        · rintro w' ⟨s0, s1, s2, s3, s4, s5, s6, s7, s8, s9, s10, s11⟩
                                          go_simp
                                          with_reducible rfl
                                        rotate_left
                                        · simp only [Act.put, List.setIfInBounds_toArray, List.set_cons_zero, List.set_cons_succ, i64_w, i32_w]
                                          rfl
                                        refine pure_ (i := 8) (N := some 67) (v := ?_) (a' := ?_) #[true, true, true, true, true, true, true, true, true, false, false, false] rfl rfl (any_of HT_.out (by kernel_rfl)) (fun _ _ _ h => h) (Or.inl ⟨by rfl, ?_⟩) ?_ ?_
                                        rotate_left
                                        · intro w'
                                          go_simp
                                          with_reducible rfl
                                        rotate_left
                                        · simp only [Act.put, List.setIfInBounds_toArray, List.set_cons_zero, List.set_cons_succ, i64_w, i32_w]
                                          rfl
                                        refine take_ (i := 9) (N := some 68) (v := ?_) (a' := ?_) #[true, true, true, true, true, true, true, true, true, true, false, false] rfl rfl (take_ofW HT_.out HW_.out (by kernel_rfl)) (fun _ _ _ h => h) (Or.inl ⟨by rfl, ?_⟩) hHeld ?_ ?_
                                        rotate_left
                                        · rintro w' ⟨s0, s1, s2, s3, s4, s5, s6, s7, s8, s9, s10, s11⟩
                                          go_simp
                                          with_reducible rfl
                                        rotate_left
                                        · simp only [Act.put, List.setIfInBounds_toArray, List.set_cons_zero, List.set_cons_succ, i64_w, i32_w]
                                          rfl
                                        refine one_ (i := 10) (N := some 69) #[true, true, true, true, true, true, true, true, true, true, true, false] rfl rfl (one_of HT_.out (by kernel_rfl)) (by decide) (fun K hK => ?_)
                                        refine goes_ Tryd.func128 (by kernel_rfl) rfl #[.string (rdOf ByteArray.empty l0_3 x5_2), .string (rdOf ByteArray.empty l1_3 x5_2)] (by rfl) rfl rfl (by (try simp only [List.map_toArray, List.map_cons, List.map_nil]); first | done | rfl | (simp only [List.length_drop, List.length_take]; rfl)) ?_
                                        with_reducible refine (munimentref03_texts.calls kj36 (rdOf ByteArray.empty l0_3 x5_2) (rdOf ByteArray.empty l1_3 x5_2) t230 _ A49.out).mono ?_
                                        rintro e w' ⟨rfl, ⟨nd, rfl⟩⟩
                                        refine ⟨_, rfl, ?_⟩
                                        refine hK.out _ _ ⟨(blk_cell BK223.out 0).trans rfl, (blk_cell BK223.out 1).trans rfl, (blk_cell BK223.out 2).trans rfl, (blk_cell BK223.out 3).trans rfl, (blk_cell BK223.out 4).trans rfl, (blk_cell BK224.out 0).trans rfl, (blk_cell BK224.out 1).trans rfl, (blk_cell BK224.out 2).trans rfl, (blk_cell BK224.out 3).trans rfl, (blk_cell BK224.out 4).trans rfl, ((HB.out.cell (World.block_lt_of_cell? w _ hw228_0)).trans hw228_0), ((HB.out.cell (World.block_lt_of_cell? w _ hw229_0)).trans hw229_0)⟩ (fun hHeld => ?_)
                                        clear hK K
                                        refine norm_ (a' := ?_) ?_ ?_
                                        rotate_left
                                        · show Act.put _ (some 69) _ = _
                                          simp only [Act.put, List.setIfInBounds_toArray, List.set_cons_zero, List.set_cons_succ, i64_w, i32_w]
                                          rfl
                                        refine pure_ (i := 11) (N := some 6) (v := ?_) (a' := ?_) #[true, true, true, true, true, true, true, true, true, true, true, true] rfl rfl (any_of HT_.out (by kernel_rfl)) (fun _ _ _ h => h) (Or.inl ⟨by rfl, ?_⟩) ?_ ?_
                                        rotate_left
                                        · intro w'
                                          go_simp
                                          with_reducible rfl
                                        rotate_left
                                        · simp only [Act.put, List.setIfInBounds_toArray, List.set_cons_zero, List.set_cons_succ, i64_w, i32_w]
                                          rfl
                                        refine done_ (done_of HT_.out (by kernel_rfl)) ?_
                                        try go_wp2
                                        (try (rw [drewN_self w57]; generalize hq_ : World.drewN w57 _ = w57; have n0_ : Aside0 (w57.heap[gb223]? = some (.cells #[.int .i64 a0_0, .int .i64 a0_1, .string a0_2, .slice (some ad228) l0_3.length c0_3, .slice A0_4 l0_4.length c0_4] 25 (0, 0))) := ⟨by rw [← hq_]; exact (by (with_reducible repeat (first | refine blk_drewN ?_ _ | refine blk_drew ?_ | refine blk_alloc ?_ _)); exact BK223.out)⟩; have n1_ : Aside0 (w57.heap[gb224]? = some (.cells #[.int .i64 a1_0, .int .i64 a1_1, .string a1_2, .slice (some ad229) l1_3.length c1_3, .slice A1_4 l1_4.length c1_4] 25 (0, 0))) := ⟨by rw [← hq_]; exact (by (with_reducible repeat (first | refine blk_drewN ?_ _ | refine blk_drew ?_ | refine blk_alloc ?_ _)); exact BK224.out)⟩; have n2_ : Aside0 (Below w.heap.size w w57) := ⟨by rw [← hq_]; exact (by repeat (first | (with_reducible first | exact HB.out | apply below_alloc | apply pw_below_drewN | apply below_drew1 | refine below_set ?_ GE223.out | refine below_set ?_ GE224.out) | exact HB.out))⟩; clear BK223 BK224 HB hq_; have BK223 := n0_; have BK224 := n1_; have HB := n2_; clear n0_ n1_ n2_))
                                        have n0_ := Aside0.mk (blk_drew BK223.out)
                                        have n1_ := Aside0.mk (blk_drew BK224.out)
                                        have n2_ := Aside0.mk (below_drew1 HB.out)
                                        clear BK223
                                        clear BK224
                                        clear HB
                                        have BK223 := n0_
                                        have BK224 := n1_
                                        have HB := n2_
                                        clear n0_ n1_ n2_
                                        have p231 : 0 ≤ (x5_2 : Int) := of_decide_eq_true (by first | (with_reducible assumption) | assumption)
                                        have q231 : x5_2 < (l0_4.length : Int) := of_decide_eq_true (by first | (with_reducible assumption) | assumption)
                                        obtain ⟨ad231, A231_3, c231_3, A231_4, c231_4, e231, hx231_0, hx231_1, hx231_2, hx231_3, hx231_4, hl231_3, hi231_3, hl231_4, hi231_4⟩ := at_T25 HR0_4.out x5_2 p231 q231
                                        have hw231_4 := hx231_4
                                        have hw231_3 := hx231_3
                                        have hw231_2 := hx231_2
                                        have hw231_1 := hx231_1
                                        have hw231_0 := hx231_0
                                        cases e231
                                        replace hx231_0 := (HB.out.cell (World.block_lt_of_cell? w _ hx231_0)).trans hx231_0
                                        replace hx231_1 := (HB.out.cell (World.block_lt_of_cell? w _ hx231_1)).trans hx231_1
                                        replace hx231_2 := (HB.out.cell (World.block_lt_of_cell? w _ hx231_2)).trans hx231_2
                                        replace hx231_3 := (HB.out.cell (World.block_lt_of_cell? w _ hx231_3)).trans hx231_3
                                        replace hx231_4 := (HB.out.cell (World.block_lt_of_cell? w _ hx231_4)).trans hx231_4
                                        have HR231_3 := Aside0.mk hi231_3
                                        have HC231_3 := Aside0.mk hl231_3
                                        clear hi231_3 hl231_3
                                        have HR231_4 := Aside0.mk hi231_4
                                        have HC231_4 := Aside0.mk hl231_4
                                        clear hi231_4 hl231_4
                                        replace p231 := eq_true p231
                                        replace q231 := eq_true q231
                                        have p232 : 0 ≤ (x5_2 : Int) := of_decide_eq_true (by first | (with_reducible assumption) | assumption)
                                        have q232 : x5_2 < (l1_4.length : Int) := of_decide_eq_true (by first | (with_reducible assumption) | assumption)
                                        obtain ⟨ad232, A232_3, c232_3, A232_4, c232_4, e232, hx232_0, hx232_1, hx232_2, hx232_3, hx232_4, hl232_3, hi232_3, hl232_4, hi232_4⟩ := at_T25 HR1_4.out x5_2 p232 q232
                                        have hw232_4 := hx232_4
                                        have hw232_3 := hx232_3
                                        have hw232_2 := hx232_2
                                        have hw232_1 := hx232_1
                                        have hw232_0 := hx232_0
                                        cases e232
                                        replace hx232_0 := (HB.out.cell (World.block_lt_of_cell? w _ hx232_0)).trans hx232_0
                                        replace hx232_1 := (HB.out.cell (World.block_lt_of_cell? w _ hx232_1)).trans hx232_1
                                        replace hx232_2 := (HB.out.cell (World.block_lt_of_cell? w _ hx232_2)).trans hx232_2
                                        replace hx232_3 := (HB.out.cell (World.block_lt_of_cell? w _ hx232_3)).trans hx232_3
                                        replace hx232_4 := (HB.out.cell (World.block_lt_of_cell? w _ hx232_4)).trans hx232_4
                                        have HR232_3 := Aside0.mk hi232_3
                                        have HC232_3 := Aside0.mk hl232_3
                                        clear hi232_3 hl232_3
                                        have HR232_4 := Aside0.mk hi232_4
                                        have HC232_4 := Aside0.mk hl232_4
                                        clear hi232_4 hl232_4
                                        replace p232 := eq_true p232
                                        replace q232 := eq_true q232
                                        refine start_ (n := 12) (S := fun w' => w'.cell? ⟨gb223, 0, none⟩ = some (.int .i64 a0_0) ∧ w'.cell? ⟨gb223, 1, none⟩ = some (.int .i64 a0_1) ∧ w'.cell? ⟨gb223, 2, none⟩ = some (.string a0_2) ∧ w'.cell? ⟨gb223, 3, none⟩ = some (.slice (some ad228) l0_3.length c0_3) ∧ w'.cell? ⟨gb223, 4, none⟩ = some (.slice (some ad231) l0_4.length c0_4) ∧ w'.cell? ⟨gb224, 0, none⟩ = some (.int .i64 a1_0) ∧ w'.cell? ⟨gb224, 1, none⟩ = some (.int .i64 a1_1) ∧ w'.cell? ⟨gb224, 2, none⟩ = some (.string a1_2) ∧ w'.cell? ⟨gb224, 3, none⟩ = some (.slice (some ad229) l1_3.length c1_3) ∧ w'.cell? ⟨gb224, 4, none⟩ = some (.slice (some ad232) l1_4.length c1_4) ∧ w'.cell? (ad231.add ((x5_2).toNat * 5)) = some (.int .i64 ((rd_T25 l0_4 x5_2).f0)) ∧ w'.cell? ⟨(ad231.add ((x5_2).toNat * 5)).block, (ad231.add ((x5_2).toNat * 5)).off + 1, none⟩ = some (.int .i64 ((rd_T25 l0_4 x5_2).f1)) ∧ w'.cell? ⟨(ad231.add ((x5_2).toNat * 5)).block, (ad231.add ((x5_2).toNat * 5)).off + 2, none⟩ = some (.string ((rd_T25 l0_4 x5_2).f2)) ∧ w'.cell? ⟨(ad231.add ((x5_2).toNat * 5)).block, (ad231.add ((x5_2).toNat * 5)).off + 3, none⟩ = some (.slice A231_3 ((rd_T25 l0_4 x5_2).f3).length c231_3) ∧ w'.cell? ⟨(ad231.add ((x5_2).toNat * 5)).block, (ad231.add ((x5_2).toNat * 5)).off + 4, none⟩ = some (.slice A231_4 ((rd_T25 l0_4 x5_2).f4).length c231_4) ∧ w'.cell? (ad232.add ((x5_2).toNat * 5)) = some (.int .i64 ((rd_T25 l1_4 x5_2).f0)) ∧ w'.cell? ⟨(ad232.add ((x5_2).toNat * 5)).block, (ad232.add ((x5_2).toNat * 5)).off + 1, none⟩ = some (.int .i64 ((rd_T25 l1_4 x5_2).f1)) ∧ w'.cell? ⟨(ad232.add ((x5_2).toNat * 5)).block, (ad232.add ((x5_2).toNat * 5)).off + 2, none⟩ = some (.string ((rd_T25 l1_4 x5_2).f2)) ∧ w'.cell? ⟨(ad232.add ((x5_2).toNat * 5)).block, (ad232.add ((x5_2).toNat * 5)).off + 3, none⟩ = some (.slice A232_3 ((rd_T25 l1_4 x5_2).f3).length c232_3) ∧ w'.cell? ⟨(ad232.add ((x5_2).toNat * 5)).block, (ad232.add ((x5_2).toNat * 5)).off + 4, none⟩ = some (.slice A232_4 ((rd_T25 l1_4 x5_2).f4).length c232_4)) (ds := []) #[false, false, false, false, false, false, false, false, false, false, false, false] (by kernel_rfl) rfl rfl ⟨(blk_cell BK223.out 0).trans rfl, (blk_cell BK223.out 1).trans rfl, (blk_cell BK223.out 2).trans rfl, (blk_cell BK223.out 3).trans rfl, (blk_cell BK223.out 4).trans rfl, (blk_cell BK224.out 0).trans rfl, (blk_cell BK224.out 1).trans rfl, (blk_cell BK224.out 2).trans rfl, (blk_cell BK224.out 3).trans rfl, (blk_cell BK224.out 4).trans rfl, ((HB.out.cell (World.block_lt_of_cell? w _ hw231_0)).trans hw231_0), ((HB.out.cell (World.block_lt_of_cell? w _ hw231_1)).trans hw231_1), ((HB.out.cell (World.block_lt_of_cell? w _ hw231_2)).trans hw231_2), ((HB.out.cell (World.block_lt_of_cell? w _ hw231_3)).trans hw231_3), ((HB.out.cell (World.block_lt_of_cell? w _ hw231_4)).trans hw231_4), ((HB.out.cell (World.block_lt_of_cell? w _ hw232_0)).trans hw232_0), ((HB.out.cell (World.block_lt_of_cell? w _ hw232_1)).trans hw232_1), ((HB.out.cell (World.block_lt_of_cell? w _ hw232_2)).trans hw232_2), ((HB.out.cell (World.block_lt_of_cell? w _ hw232_3)).trans hw232_3), ((HB.out.cell (World.block_lt_of_cell? w _ hw232_4)).trans hw232_4)⟩ (fun hHeld => ?_); refine with_tabW munimentref03_Plain.tab21 munimentref03_Plain.bits21 (fun HT_ HW_ => ?_)
                                        generalize w57.drew = w58 at BK223 BK224 HB HR231_3 HR231_4 HR232_3 HR232_4 hx231_0 hx231_1 hx231_2 hx231_3 hx231_4 hx232_0 hx232_1 hx232_2 hx232_3 hx232_4 hHeld ⊢
                                        refine pure_ (i := 0) (N := some 73) (v := ?_) (a' := ?_) #[true, false, false, false, false, false, false, false, false, false, false, false] rfl rfl (any_of HT_.out (by kernel_rfl)) (fun _ _ _ h => h) (Or.inl ⟨by rfl, ?_⟩) ?_ ?_
                                        rotate_left
                                        · intro w'
                                          go_simp
                                          with_reducible rfl
                                        rotate_left
                                        · simp only [Act.put, List.setIfInBounds_toArray, List.set_cons_zero, List.set_cons_succ, i64_w, i32_w]
                                          rfl
                                        refine pure_ (i := 2) (N := some 75) (v := ?_) (a' := ?_) #[true, false, true, false, false, false, false, false, false, false, false, false] rfl rfl (any_of HT_.out (by kernel_rfl)) (fun _ _ _ h => h) (Or.inl ⟨by rfl, ?_⟩) ?_ ?_
                                        rotate_left
                                        · intro w'
                                          go_simp
                                          with_reducible rfl
                                        rotate_left
                                        · simp only [Act.put, List.setIfInBounds_toArray, List.set_cons_zero, List.set_cons_succ, i64_w, i32_w]
                                          rfl
                                        refine pure_ (i := 5) (N := some 78) (v := ?_) (a' := ?_) #[true, false, true, false, false, true, false, false, false, false, false, false] rfl rfl (any_of HT_.out (by kernel_rfl)) (fun _ _ _ h => h) (Or.inl ⟨by rfl, ?_⟩) ?_ ?_
                                        rotate_left
                                        · intro w'
                                          go_simp
                                          with_reducible rfl
                                        rotate_left
                                        · simp only [Act.put, List.setIfInBounds_toArray, List.set_cons_zero, List.set_cons_succ, i64_w, i32_w]
                                          rfl
                                        refine pure_ (i := 7) (N := some 80) (v := ?_) (a' := ?_) #[true, false, true, false, false, true, false, true, false, false, false, false] rfl rfl (any_of HT_.out (by kernel_rfl)) (fun _ _ _ h => h) (Or.inl ⟨by rfl, ?_⟩) ?_ ?_
                                        rotate_left
                                        · intro w'
                                          go_simp
                                          with_reducible rfl
                                        rotate_left
                                        · simp only [Act.put, List.setIfInBounds_toArray, List.set_cons_zero, List.set_cons_succ, i64_w, i32_w]
                                          rfl
                                        refine take_ (i := 1) (N := some 74) (v := ?_) (a' := ?_) #[true, true, true, false, false, true, false, true, false, false, false, false] rfl rfl (take_ofW HT_.out HW_.out (by kernel_rfl)) (fun _ _ _ h => h) (Or.inl ⟨by rfl, ?_⟩) hHeld ?_ ?_
                                        rotate_left
                                        · rintro w' ⟨s0, s1, s2, s3, s4, s5, s6, s7, s8, s9, s10, s11, s12, s13, s14, s15, s16, s17, s18, s19⟩
                                          go_simp
                                          with_reducible rfl
                                        rotate_left
                                        · simp only [Act.put, List.setIfInBounds_toArray, List.set_cons_zero, List.set_cons_succ, i64_w, i32_w]
                                          rfl
                                        refine pure_ (i := 3) (N := some 76) (v := ?_) (a' := ?_) #[true, true, true, true, false, true, false, true, false, false, false, false] rfl rfl (any_of HT_.out (by kernel_rfl)) (fun _ _ _ h => h) (Or.inl ⟨by rfl, ?_⟩) ?_ ?_
                                        rotate_left
                                        · intro w'
                                          go_simp
                                          with_reducible rfl
                                        rotate_left
                                        · simp only [Act.put, List.setIfInBounds_toArray, List.set_cons_zero, List.set_cons_succ, i64_w, i32_w]
                                          rfl
                                        refine take_ (i := 4) (N := some 77) (v := ?_) (a' := ?_) #[true, true, true, true, true, true, false, true, false, false, false, false] rfl rfl (take_ofW HT_.out HW_.out (by kernel_rfl)) (fun _ _ _ h => h) (Or.inl ⟨by rfl, ?_⟩) hHeld ?_ ?_
                                        rotate_left
                                        · rintro w' ⟨s0, s1, s2, s3, s4, s5, s6, s7, s8, s9, s10, s11, s12, s13, s14, s15, s16, s17, s18, s19⟩
                                          go_simp
                                          with_reducible rfl
                                        rotate_left
                                        · simp only [Act.put, List.setIfInBounds_toArray, List.set_cons_zero, List.set_cons_succ, i64_w, i32_w]
                                          rfl
                                        refine take_ (i := 6) (N := some 79) (v := ?_) (a' := ?_) #[true, true, true, true, true, true, true, true, false, false, false, false] rfl rfl (take_ofW HT_.out HW_.out (by kernel_rfl)) (fun _ _ _ h => h) (Or.inl ⟨by rfl, ?_⟩) hHeld ?_ ?_
                                        rotate_left
                                        · rintro w' ⟨s0, s1, s2, s3, s4, s5, s6, s7, s8, s9, s10, s11, s12, s13, s14, s15, s16, s17, s18, s19⟩
                                          go_simp
                                          with_reducible rfl
                                        rotate_left
                                        · simp only [Act.put, List.setIfInBounds_toArray, List.set_cons_zero, List.set_cons_succ, i64_w, i32_w]
                                          rfl
                                        refine pure_ (i := 8) (N := some 81) (v := ?_) (a' := ?_) #[true, true, true, true, true, true, true, true, true, false, false, false] rfl rfl (any_of HT_.out (by kernel_rfl)) (fun _ _ _ h => h) (Or.inl ⟨by rfl, ?_⟩) ?_ ?_
                                        rotate_left
                                        · intro w'
                                          go_simp
                                          with_reducible rfl
                                        rotate_left
                                        · simp only [Act.put, List.setIfInBounds_toArray, List.set_cons_zero, List.set_cons_succ, i64_w, i32_w]
                                          rfl
                                        refine take_ (i := 9) (N := some 82) (v := ?_) (a' := ?_) #[true, true, true, true, true, true, true, true, true, true, false, false] rfl rfl (take_ofW HT_.out HW_.out (by kernel_rfl)) (fun _ _ _ h => h) (Or.inl ⟨by rfl, ?_⟩) hHeld ?_ ?_
                                        rotate_left
                                        · rintro w' ⟨s0, s1, s2, s3, s4, s5, s6, s7, s8, s9, s10, s11, s12, s13, s14, s15, s16, s17, s18, s19⟩
                                          go_simp
                                          with_reducible rfl
                                        rotate_left
                                        · simp only [Act.put, List.setIfInBounds_toArray, List.set_cons_zero, List.set_cons_succ, i64_w, i32_w]
                                          rfl
                                        refine one_ (i := 10) (N := some 83) #[true, true, true, true, true, true, true, true, true, true, true, false] rfl rfl (one_of HT_.out (by kernel_rfl)) (by decide) (fun K hK => ?_)
                                        refine goes_ Tryd.func84 (by kernel_rfl) rfl #[.agg #[.int .i64 ((rd_T25 l0_4 x5_2).f0), .int .i64 ((rd_T25 l0_4 x5_2).f1), .string ((rd_T25 l0_4 x5_2).f2), .slice A231_3 ((rd_T25 l0_4 x5_2).f3).length c231_3, .slice A231_4 ((rd_T25 l0_4 x5_2).f4).length c231_4], .agg #[.int .i64 ((rd_T25 l1_4 x5_2).f0), .int .i64 ((rd_T25 l1_4 x5_2).f1), .string ((rd_T25 l1_4 x5_2).f2), .slice A232_3 ((rd_T25 l1_4 x5_2).f3).length c232_3, .slice A232_4 ((rd_T25 l1_4 x5_2).f4).length c232_4]] (by rfl) rfl rfl (by (try simp only [List.map_toArray, List.map_cons, List.map_nil]); first | done | rfl | (simp only [List.length_drop, List.length_take]; rfl)) ?_
                                        with_reducible refine (ih kj36 (by have := HJ28.out; have := HK2.out; have := HJ36.out; omega) ((rd_T25 l0_4 x5_2).f0) ((rd_T25 l0_4 x5_2).f1) ((rd_T25 l0_4 x5_2).f2) _ _ ((rd_T25 l0_4 x5_2).f3) _ _ ((rd_T25 l0_4 x5_2).f4) ((rd_T25 l1_4 x5_2).f0) ((rd_T25 l1_4 x5_2).f1) ((rd_T25 l1_4 x5_2).f2) _ _ ((rd_T25 l1_4 x5_2).f3) _ _ ((rd_T25 l1_4 x5_2).f4) t233 _ ?side1 ?side2 ?side3 ?side4 ?side5 ?side6 ?side7 ?side8 A53.out).mono ?_
                                        (case side1 => repeat (first | exact (Kd.C_below HR231_3.out HB.out) | (with_reducible refine Kd.C_alloc ?_ _) | (with_reducible refine Kd.C_drewN ?_ _) | (with_reducible refine Kd.C_drew ?_)))
                                        (case side2 => exact HC231_3.out)
                                        (case side3 => repeat (first | exact (Kd.C_below HR231_4.out HB.out) | (with_reducible refine Kd.C_alloc ?_ _) | (with_reducible refine Kd.C_drewN ?_ _) | (with_reducible refine Kd.C_drew ?_)))
                                        (case side4 => exact HC231_4.out)
                                        (case side5 => repeat (first | exact (Kd.C_below HR232_3.out HB.out) | (with_reducible refine Kd.C_alloc ?_ _) | (with_reducible refine Kd.C_drewN ?_ _) | (with_reducible refine Kd.C_drew ?_)))
                                        (case side6 => exact HC232_3.out)
                                        (case side7 => repeat (first | exact (Kd.C_below HR232_4.out HB.out) | (with_reducible refine Kd.C_alloc ?_ _) | (with_reducible refine Kd.C_drewN ?_ _) | (with_reducible refine Kd.C_drew ?_)))
                                        (case side8 => exact HC232_4.out)
                                        rintro e w59 ⟨rfl, hb⟩
                                        refine ⟨_, rfl, ?_⟩
                                        have n0_ := Aside0.mk (blk_below (g := gb223) (o := .cells #[.int .i64 a0_0, .int .i64 a0_1, .string a0_2, .slice (some ad228) l0_3.length c0_3, .slice (some ad231) l0_4.length c0_4] 25 (0, 0)) (by (with_reducible repeat (first | refine blk_drewN ?_ _ | refine blk_drew ?_ | refine blk_alloc ?_ _)); exact BK223.out) hb)
                                        have n1_ := Aside0.mk (blk_below (g := gb224) (o := .cells #[.int .i64 a1_0, .int .i64 a1_1, .string a1_2, .slice (some ad229) l1_3.length c1_3, .slice (some ad232) l1_4.length c1_4] 25 (0, 0)) (by (with_reducible repeat (first | refine blk_drewN ?_ _ | refine blk_drew ?_ | refine blk_alloc ?_ _)); exact BK224.out) hb)
                                        have n2_ := Aside0.mk (below_step (by repeat (first | (with_reducible first | exact HB.out | apply below_alloc | apply pw_below_drewN | apply below_drew1 | refine below_set ?_ GE223.out | refine below_set ?_ GE224.out) | exact HB.out)) hb)
                                        clear BK223
                                        clear BK224
                                        clear HB
                                        have BK223 := n0_
                                        have BK224 := n1_
                                        have HB := n2_
                                        clear n0_ n1_ n2_
                                        (try clear hb)
                                        (try clear hb2)
                                        (try clear hk)
                                        (try clear hi)
                                        refine hK.out _ _ ⟨(blk_cell BK223.out 0).trans rfl, (blk_cell BK223.out 1).trans rfl, (blk_cell BK223.out 2).trans rfl, (blk_cell BK223.out 3).trans rfl, (blk_cell BK223.out 4).trans rfl, (blk_cell BK224.out 0).trans rfl, (blk_cell BK224.out 1).trans rfl, (blk_cell BK224.out 2).trans rfl, (blk_cell BK224.out 3).trans rfl, (blk_cell BK224.out 4).trans rfl, ((HB.out.cell (World.block_lt_of_cell? w _ hw231_0)).trans hw231_0), ((HB.out.cell (World.block_lt_of_cell? w _ hw231_1)).trans hw231_1), ((HB.out.cell (World.block_lt_of_cell? w _ hw231_2)).trans hw231_2), ((HB.out.cell (World.block_lt_of_cell? w _ hw231_3)).trans hw231_3), ((HB.out.cell (World.block_lt_of_cell? w _ hw231_4)).trans hw231_4), ((HB.out.cell (World.block_lt_of_cell? w _ hw232_0)).trans hw232_0), ((HB.out.cell (World.block_lt_of_cell? w _ hw232_1)).trans hw232_1), ((HB.out.cell (World.block_lt_of_cell? w _ hw232_2)).trans hw232_2), ((HB.out.cell (World.block_lt_of_cell? w _ hw232_3)).trans hw232_3), ((HB.out.cell (World.block_lt_of_cell? w _ hw232_4)).trans hw232_4)⟩ (fun hHeld => ?_)
                                        clear hK K
                                        refine norm_ (a' := ?_) ?_ ?_
                                        rotate_left
                                        · show Act.put _ (some 83) _ = _
                                          simp only [Act.put, List.setIfInBounds_toArray, List.set_cons_zero, List.set_cons_succ, i64_w, i32_w]
                                          rfl
                                        refine pure_ (i := 11) (N := some 7) (v := ?_) (a' := ?_) #[true, true, true, true, true, true, true, true, true, true, true, true] rfl rfl (any_of HT_.out (by kernel_rfl)) (fun _ _ _ h => h) (Or.inl ⟨by rfl, ?_⟩) ?_ ?_
                                        rotate_left
                                        · intro w'
                                          go_simp
                                          with_reducible rfl
                                        rotate_left
                                        · simp only [Act.put, List.setIfInBounds_toArray, List.set_cons_zero, List.set_cons_succ, i64_w, i32_w]
                                          rfl
                                        refine done_ (done_of HT_.out (by kernel_rfl)) ?_
                                        try go_wp2
                                        go_roundg kj36
                                        case measure => have := HJ28.out; have := HK2.out; have := HJ36.out; omega
                                        case rel => exact ⟨(wrap64 (x5_2 + 1)), (by first | rfl | (simp; done) | (simp [*]; done)), H', ⟨by have := HJ28.out; have := HK2.out; have := HJ36.out; omega⟩, ⟨by (with_reducible repeat (first | refine blk_drewN ?_ _ | refine blk_drew ?_ | refine blk_alloc ?_ _)); exact BK223.out⟩, ⟨by (with_reducible repeat (first | refine blk_drewN ?_ _ | refine blk_drew ?_ | refine blk_alloc ?_ _)); exact BK224.out⟩, ⟨by repeat (first | (with_reducible first | exact HB.out | apply below_alloc | apply pw_below_drewN | apply below_drew1 | refine below_set ?_ GE223.out | refine below_set ?_ GE224.out) | exact HB.out)⟩⟩
                                      · rw [if_neg c54] at H
                                        have c54b0 : (t233 == 0) = false := beq_eq_false_iff_ne.mpr c54
                                        have c54b1 : (t233 != 0) = true := bne_iff_ne.mpr c54
                                        obtain rfl := Option.some.inj H
                                        have hnb60 := NB223_224.out
                                        have hnc60 := NB224_223.out
                                        have hcz61_0 : wc.cell? ⟨gb223, 0, none⟩ = some (.int .i64 a0_0) := (blk_cell BK223.out 0).trans rfl
                                        have hcz61_1 : wc.cell? ⟨gb223, 1, none⟩ = some (.int .i64 a0_1) := (blk_cell BK223.out 1).trans rfl
                                        have hcz61_2 : wc.cell? ⟨gb223, 2, none⟩ = some (.string a0_2) := (blk_cell BK223.out 2).trans rfl
                                        have hcz61_3 : wc.cell? ⟨gb223, 3, none⟩ = some (.slice A0_3 l0_3.length c0_3) := (blk_cell BK223.out 3).trans rfl
                                        have hcz61_4 : wc.cell? ⟨gb223, 4, none⟩ = some (.slice A0_4 l0_4.length c0_4) := (blk_cell BK223.out 4).trans rfl
                                        have hfz61_0 := blk_frozen BK223.out 0
                                        have hfz61_1 := blk_frozen BK223.out 1
                                        have hfz61_2 := blk_frozen BK223.out 2
                                        have hfz61_3 := blk_frozen BK223.out 3
                                        have hfz61_4 := blk_frozen BK223.out 4
                                        try go_wp2
                                        have n0_ := Aside0.mk (blk_drew BK223.out)
                                        have n1_ := Aside0.mk (blk_drew BK224.out)
                                        have n2_ := Aside0.mk (below_drew1 HB.out)
                                        clear BK223
                                        clear BK224
                                        clear HB
                                        have BK223 := n0_
                                        have BK224 := n1_
                                        have HB := n2_
                                        clear n0_ n1_ n2_
                                        have p228 : 0 ≤ (x5_2 : Int) := of_decide_eq_true (by first | (with_reducible assumption) | assumption)
                                        have q228 : x5_2 < (l0_3.length : Int) := of_decide_eq_true (by first | (with_reducible assumption) | assumption)
                                        obtain ⟨ad228, e228, hx228_0⟩ := Kd.at_string HR0_3.out x5_2 p228 q228
                                        have hw228_0 := hx228_0
                                        cases e228
                                        replace hx228_0 := (HB.out.cell (World.block_lt_of_cell? w _ hx228_0)).trans hx228_0
                                        replace p228 := eq_true p228
                                        replace q228 := eq_true q228
                                        have p229 : 0 ≤ (x5_2 : Int) := of_decide_eq_true (by first | (with_reducible assumption) | assumption)
                                        have q229 : x5_2 < (l1_3.length : Int) := of_decide_eq_true (by first | (with_reducible assumption) | assumption)
                                        obtain ⟨ad229, e229, hx229_0⟩ := Kd.at_string HR1_3.out x5_2 p229 q229
                                        have hw229_0 := hx229_0
                                        cases e229
                                        replace hx229_0 := (HB.out.cell (World.block_lt_of_cell? w _ hx229_0)).trans hx229_0
                                        replace p229 := eq_true p229
                                        replace q229 := eq_true q229
                                        refine start_ (n := 12) (S := fun w' => w'.cell? ⟨gb223, 0, none⟩ = some (.int .i64 a0_0) ∧ w'.cell? ⟨gb223, 1, none⟩ = some (.int .i64 a0_1) ∧ w'.cell? ⟨gb223, 2, none⟩ = some (.string a0_2) ∧ w'.cell? ⟨gb223, 3, none⟩ = some (.slice (some ad228) l0_3.length c0_3) ∧ w'.cell? ⟨gb223, 4, none⟩ = some (.slice A0_4 l0_4.length c0_4) ∧ w'.cell? ⟨gb224, 0, none⟩ = some (.int .i64 a1_0) ∧ w'.cell? ⟨gb224, 1, none⟩ = some (.int .i64 a1_1) ∧ w'.cell? ⟨gb224, 2, none⟩ = some (.string a1_2) ∧ w'.cell? ⟨gb224, 3, none⟩ = some (.slice (some ad229) l1_3.length c1_3) ∧ w'.cell? ⟨gb224, 4, none⟩ = some (.slice A1_4 l1_4.length c1_4) ∧ w'.cell? (ad228.add (x5_2).toNat) = some (.string (rdOf ByteArray.empty l0_3 x5_2)) ∧ w'.cell? (ad229.add (x5_2).toNat) = some (.string (rdOf ByteArray.empty l1_3 x5_2))) (ds := []) #[false, false, false, false, false, false, false, false, false, false, false, false] (by kernel_rfl) rfl rfl ⟨(blk_cell BK223.out 0).trans rfl, (blk_cell BK223.out 1).trans rfl, (blk_cell BK223.out 2).trans rfl, (blk_cell BK223.out 3).trans rfl, (blk_cell BK223.out 4).trans rfl, (blk_cell BK224.out 0).trans rfl, (blk_cell BK224.out 1).trans rfl, (blk_cell BK224.out 2).trans rfl, (blk_cell BK224.out 3).trans rfl, (blk_cell BK224.out 4).trans rfl, ((HB.out.cell (World.block_lt_of_cell? w _ hw228_0)).trans hw228_0), ((HB.out.cell (World.block_lt_of_cell? w _ hw229_0)).trans hw229_0)⟩ (fun hHeld => ?_); refine with_tabW munimentref03_Plain.tab18 munimentref03_Plain.bits18 (fun HT_ HW_ => ?_)
                                        generalize wc.drew = w62 at BK223 BK224 HB hx228_0 hx229_0 hHeld ⊢
                                        refine pure_ (i := 0) (N := some 59) (v := ?_) (a' := ?_) #[true, false, false, false, false, false, false, false, false, false, false, false] rfl rfl (any_of HT_.out (by kernel_rfl)) (fun _ _ _ h => h) (Or.inl ⟨by rfl, ?_⟩) ?_ ?_
                                        rotate_left
                                        · intro w'
                                          go_simp
                                          with_reducible rfl
                                        rotate_left
                                        · simp only [Act.put, List.setIfInBounds_toArray, List.set_cons_zero, List.set_cons_succ, i64_w, i32_w]
                                          rfl
                                        refine pure_ (i := 2) (N := some 61) (v := ?_) (a' := ?_) #[true, false, true, false, false, false, false, false, false, false, false, false] rfl rfl (any_of HT_.out (by kernel_rfl)) (fun _ _ _ h => h) (Or.inl ⟨by rfl, ?_⟩) ?_ ?_
                                        rotate_left
                                        · intro w'
                                          go_simp
                                          with_reducible rfl
                                        rotate_left
                                        · simp only [Act.put, List.setIfInBounds_toArray, List.set_cons_zero, List.set_cons_succ, i64_w, i32_w]
                                          rfl
                                        refine pure_ (i := 5) (N := some 64) (v := ?_) (a' := ?_) #[true, false, true, false, false, true, false, false, false, false, false, false] rfl rfl (any_of HT_.out (by kernel_rfl)) (fun _ _ _ h => h) (Or.inl ⟨by rfl, ?_⟩) ?_ ?_
                                        rotate_left
                                        · intro w'
                                          go_simp
                                          with_reducible rfl
                                        rotate_left
                                        · simp only [Act.put, List.setIfInBounds_toArray, List.set_cons_zero, List.set_cons_succ, i64_w, i32_w]
                                          rfl
                                        refine pure_ (i := 7) (N := some 66) (v := ?_) (a' := ?_) #[true, false, true, false, false, true, false, true, false, false, false, false] rfl rfl (any_of HT_.out (by kernel_rfl)) (fun _ _ _ h => h) (Or.inl ⟨by rfl, ?_⟩) ?_ ?_
                                        rotate_left
                                        · intro w'
                                          go_simp
                                          with_reducible rfl
                                        rotate_left
                                        · simp only [Act.put, List.setIfInBounds_toArray, List.set_cons_zero, List.set_cons_succ, i64_w, i32_w]
                                          rfl
                                        refine take_ (i := 1) (N := some 60) (v := ?_) (a' := ?_) #[true, true, true, false, false, true, false, true, false, false, false, false] rfl rfl (take_ofW HT_.out HW_.out (by kernel_rfl)) (fun _ _ _ h => h) (Or.inl ⟨by rfl, ?_⟩) hHeld ?_ ?_
                                        rotate_left
                                        · rintro w' ⟨s0, s1, s2, s3, s4, s5, s6, s7, s8, s9, s10, s11⟩
                                          go_simp
                                          with_reducible rfl
                                        rotate_left
                                        · simp only [Act.put, List.setIfInBounds_toArray, List.set_cons_zero, List.set_cons_succ, i64_w, i32_w]
                                          rfl
                                        refine pure_ (i := 3) (N := some 62) (v := ?_) (a' := ?_) #[true, true, true, true, false, true, false, true, false, false, false, false] rfl rfl (any_of HT_.out (by kernel_rfl)) (fun _ _ _ h => h) (Or.inl ⟨by rfl, ?_⟩) ?_ ?_
                                        rotate_left
                                        · intro w'
                                          go_simp
                                          with_reducible rfl
                                        rotate_left
                                        · simp only [Act.put, List.setIfInBounds_toArray, List.set_cons_zero, List.set_cons_succ, i64_w, i32_w]
                                          rfl
                                        refine take_ (i := 4) (N := some 63) (v := ?_) (a' := ?_) #[true, true, true, true, true, true, false, true, false, false, false, false] rfl rfl (take_ofW HT_.out HW_.out (by kernel_rfl)) (fun _ _ _ h => h) (Or.inl ⟨by rfl, ?_⟩) hHeld ?_ ?_
                                        rotate_left
                                        · rintro w' ⟨s0, s1, s2, s3, s4, s5, s6, s7, s8, s9, s10, s11⟩
                                          go_simp
                                          with_reducible rfl
                                        rotate_left
                                        · simp only [Act.put, List.setIfInBounds_toArray, List.set_cons_zero, List.set_cons_succ, i64_w, i32_w]
                                          rfl
                                        refine take_ (i := 6) (N := some 65) (v := ?_) (a' := ?_) #[true, true, true, true, true, true, true, true, false, false, false, false] rfl rfl (take_ofW HT_.out HW_.out (by kernel_rfl)) (fun _ _ _ h => h) (Or.inl ⟨by rfl, ?_⟩) hHeld ?_ ?_
                                        rotate_left
                                        · rintro w' ⟨s0, s1, s2, s3, s4, s5, s6, s7, s8, s9, s10, s11⟩
                                          go_simp
                                          with_reducible rfl
                                        rotate_left
                                        · simp only [Act.put, List.setIfInBounds_toArray, List.set_cons_zero, List.set_cons_succ, i64_w, i32_w]
                                          rfl
                                        refine pure_ (i := 8) (N := some 67) (v := ?_) (a' := ?_) #[true, true, true, true, true, true, true, true, true, false, false, false] rfl rfl (any_of HT_.out (by kernel_rfl)) (fun _ _ _ h => h) (Or.inl ⟨by rfl, ?_⟩) ?_ ?_
                                        rotate_left
                                        · intro w'
                                          go_simp
                                          with_reducible rfl
                                        rotate_left
                                        · simp only [Act.put, List.setIfInBounds_toArray, List.set_cons_zero, List.set_cons_succ, i64_w, i32_w]
                                          rfl
                                        refine take_ (i := 9) (N := some 68) (v := ?_) (a' := ?_) #[true, true, true, true, true, true, true, true, true, true, false, false] rfl rfl (take_ofW HT_.out HW_.out (by kernel_rfl)) (fun _ _ _ h => h) (Or.inl ⟨by rfl, ?_⟩) hHeld ?_ ?_
                                        rotate_left
                                        · rintro w' ⟨s0, s1, s2, s3, s4, s5, s6, s7, s8, s9, s10, s11⟩
                                          go_simp
                                          with_reducible rfl
                                        rotate_left
                                        · simp only [Act.put, List.setIfInBounds_toArray, List.set_cons_zero, List.set_cons_succ, i64_w, i32_w]
                                          rfl
                                        refine one_ (i := 10) (N := some 69) #[true, true, true, true, true, true, true, true, true, true, true, false] rfl rfl (one_of HT_.out (by kernel_rfl)) (by decide) (fun K hK => ?_)
                                        refine goes_ Tryd.func128 (by kernel_rfl) rfl #[.string (rdOf ByteArray.empty l0_3 x5_2), .string (rdOf ByteArray.empty l1_3 x5_2)] (by rfl) rfl rfl (by (try simp only [List.map_toArray, List.map_cons, List.map_nil]); first | done | rfl | (simp only [List.length_drop, List.length_take]; rfl)) ?_
                                        with_reducible refine (munimentref03_texts.calls kj36 (rdOf ByteArray.empty l0_3 x5_2) (rdOf ByteArray.empty l1_3 x5_2) t230 _ A49.out).mono ?_
                                        rintro e w' ⟨rfl, ⟨nd, rfl⟩⟩
                                        refine ⟨_, rfl, ?_⟩
                                        refine hK.out _ _ ⟨(blk_cell BK223.out 0).trans rfl, (blk_cell BK223.out 1).trans rfl, (blk_cell BK223.out 2).trans rfl, (blk_cell BK223.out 3).trans rfl, (blk_cell BK223.out 4).trans rfl, (blk_cell BK224.out 0).trans rfl, (blk_cell BK224.out 1).trans rfl, (blk_cell BK224.out 2).trans rfl, (blk_cell BK224.out 3).trans rfl, (blk_cell BK224.out 4).trans rfl, ((HB.out.cell (World.block_lt_of_cell? w _ hw228_0)).trans hw228_0), ((HB.out.cell (World.block_lt_of_cell? w _ hw229_0)).trans hw229_0)⟩ (fun hHeld => ?_)
                                        clear hK K
                                        refine norm_ (a' := ?_) ?_ ?_
                                        rotate_left
                                        · show Act.put _ (some 69) _ = _
                                          simp only [Act.put, List.setIfInBounds_toArray, List.set_cons_zero, List.set_cons_succ, i64_w, i32_w]
                                          rfl
                                        refine pure_ (i := 11) (N := some 6) (v := ?_) (a' := ?_) #[true, true, true, true, true, true, true, true, true, true, true, true] rfl rfl (any_of HT_.out (by kernel_rfl)) (fun _ _ _ h => h) (Or.inl ⟨by rfl, ?_⟩) ?_ ?_
                                        rotate_left
                                        · intro w'
                                          go_simp
                                          with_reducible rfl
                                        rotate_left
                                        · simp only [Act.put, List.setIfInBounds_toArray, List.set_cons_zero, List.set_cons_succ, i64_w, i32_w]
                                          rfl
                                        refine done_ (done_of HT_.out (by kernel_rfl)) ?_
                                        try go_wp2
                                        (try (rw [drewN_self w62]; generalize hq_ : World.drewN w62 _ = w62; have n0_ : Aside0 (w62.heap[gb223]? = some (.cells #[.int .i64 a0_0, .int .i64 a0_1, .string a0_2, .slice (some ad228) l0_3.length c0_3, .slice A0_4 l0_4.length c0_4] 25 (0, 0))) := ⟨by rw [← hq_]; exact (by (with_reducible repeat (first | refine blk_drewN ?_ _ | refine blk_drew ?_ | refine blk_alloc ?_ _)); exact BK223.out)⟩; have n1_ : Aside0 (w62.heap[gb224]? = some (.cells #[.int .i64 a1_0, .int .i64 a1_1, .string a1_2, .slice (some ad229) l1_3.length c1_3, .slice A1_4 l1_4.length c1_4] 25 (0, 0))) := ⟨by rw [← hq_]; exact (by (with_reducible repeat (first | refine blk_drewN ?_ _ | refine blk_drew ?_ | refine blk_alloc ?_ _)); exact BK224.out)⟩; have n2_ : Aside0 (Below w.heap.size w w62) := ⟨by rw [← hq_]; exact (by repeat (first | (with_reducible first | exact HB.out | apply below_alloc | apply pw_below_drewN | apply below_drew1 | refine below_set ?_ GE223.out | refine below_set ?_ GE224.out) | exact HB.out))⟩; clear BK223 BK224 HB hq_; have BK223 := n0_; have BK224 := n1_; have HB := n2_; clear n0_ n1_ n2_))
                                        have n0_ := Aside0.mk (blk_drew BK223.out)
                                        have n1_ := Aside0.mk (blk_drew BK224.out)
                                        have n2_ := Aside0.mk (below_drew1 HB.out)
                                        clear BK223
                                        clear BK224
                                        clear HB
                                        have BK223 := n0_
                                        have BK224 := n1_
                                        have HB := n2_
                                        clear n0_ n1_ n2_
                                        have p231 : 0 ≤ (x5_2 : Int) := of_decide_eq_true (by first | (with_reducible assumption) | assumption)
                                        have q231 : x5_2 < (l0_4.length : Int) := of_decide_eq_true (by first | (with_reducible assumption) | assumption)
                                        obtain ⟨ad231, A231_3, c231_3, A231_4, c231_4, e231, hx231_0, hx231_1, hx231_2, hx231_3, hx231_4, hl231_3, hi231_3, hl231_4, hi231_4⟩ := at_T25 HR0_4.out x5_2 p231 q231
                                        have hw231_4 := hx231_4
                                        have hw231_3 := hx231_3
                                        have hw231_2 := hx231_2
                                        have hw231_1 := hx231_1
                                        have hw231_0 := hx231_0
                                        cases e231
                                        replace hx231_0 := (HB.out.cell (World.block_lt_of_cell? w _ hx231_0)).trans hx231_0
                                        replace hx231_1 := (HB.out.cell (World.block_lt_of_cell? w _ hx231_1)).trans hx231_1
                                        replace hx231_2 := (HB.out.cell (World.block_lt_of_cell? w _ hx231_2)).trans hx231_2
                                        replace hx231_3 := (HB.out.cell (World.block_lt_of_cell? w _ hx231_3)).trans hx231_3
                                        replace hx231_4 := (HB.out.cell (World.block_lt_of_cell? w _ hx231_4)).trans hx231_4
                                        have HR231_3 := Aside0.mk hi231_3
                                        have HC231_3 := Aside0.mk hl231_3
                                        clear hi231_3 hl231_3
                                        have HR231_4 := Aside0.mk hi231_4
                                        have HC231_4 := Aside0.mk hl231_4
                                        clear hi231_4 hl231_4
                                        replace p231 := eq_true p231
                                        replace q231 := eq_true q231
                                        have p232 : 0 ≤ (x5_2 : Int) := of_decide_eq_true (by first | (with_reducible assumption) | assumption)
                                        have q232 : x5_2 < (l1_4.length : Int) := of_decide_eq_true (by first | (with_reducible assumption) | assumption)
                                        obtain ⟨ad232, A232_3, c232_3, A232_4, c232_4, e232, hx232_0, hx232_1, hx232_2, hx232_3, hx232_4, hl232_3, hi232_3, hl232_4, hi232_4⟩ := at_T25 HR1_4.out x5_2 p232 q232
                                        have hw232_4 := hx232_4
                                        have hw232_3 := hx232_3
                                        have hw232_2 := hx232_2
                                        have hw232_1 := hx232_1
                                        have hw232_0 := hx232_0
                                        cases e232
                                        replace hx232_0 := (HB.out.cell (World.block_lt_of_cell? w _ hx232_0)).trans hx232_0
                                        replace hx232_1 := (HB.out.cell (World.block_lt_of_cell? w _ hx232_1)).trans hx232_1
                                        replace hx232_2 := (HB.out.cell (World.block_lt_of_cell? w _ hx232_2)).trans hx232_2
                                        replace hx232_3 := (HB.out.cell (World.block_lt_of_cell? w _ hx232_3)).trans hx232_3
                                        replace hx232_4 := (HB.out.cell (World.block_lt_of_cell? w _ hx232_4)).trans hx232_4
                                        have HR232_3 := Aside0.mk hi232_3
                                        have HC232_3 := Aside0.mk hl232_3
                                        clear hi232_3 hl232_3
                                        have HR232_4 := Aside0.mk hi232_4
                                        have HC232_4 := Aside0.mk hl232_4
                                        clear hi232_4 hl232_4
                                        replace p232 := eq_true p232
                                        replace q232 := eq_true q232
                                        refine start_ (n := 12) (S := fun w' => w'.cell? ⟨gb223, 0, none⟩ = some (.int .i64 a0_0) ∧ w'.cell? ⟨gb223, 1, none⟩ = some (.int .i64 a0_1) ∧ w'.cell? ⟨gb223, 2, none⟩ = some (.string a0_2) ∧ w'.cell? ⟨gb223, 3, none⟩ = some (.slice (some ad228) l0_3.length c0_3) ∧ w'.cell? ⟨gb223, 4, none⟩ = some (.slice (some ad231) l0_4.length c0_4) ∧ w'.cell? ⟨gb224, 0, none⟩ = some (.int .i64 a1_0) ∧ w'.cell? ⟨gb224, 1, none⟩ = some (.int .i64 a1_1) ∧ w'.cell? ⟨gb224, 2, none⟩ = some (.string a1_2) ∧ w'.cell? ⟨gb224, 3, none⟩ = some (.slice (some ad229) l1_3.length c1_3) ∧ w'.cell? ⟨gb224, 4, none⟩ = some (.slice (some ad232) l1_4.length c1_4) ∧ w'.cell? (ad231.add ((x5_2).toNat * 5)) = some (.int .i64 ((rd_T25 l0_4 x5_2).f0)) ∧ w'.cell? ⟨(ad231.add ((x5_2).toNat * 5)).block, (ad231.add ((x5_2).toNat * 5)).off + 1, none⟩ = some (.int .i64 ((rd_T25 l0_4 x5_2).f1)) ∧ w'.cell? ⟨(ad231.add ((x5_2).toNat * 5)).block, (ad231.add ((x5_2).toNat * 5)).off + 2, none⟩ = some (.string ((rd_T25 l0_4 x5_2).f2)) ∧ w'.cell? ⟨(ad231.add ((x5_2).toNat * 5)).block, (ad231.add ((x5_2).toNat * 5)).off + 3, none⟩ = some (.slice A231_3 ((rd_T25 l0_4 x5_2).f3).length c231_3) ∧ w'.cell? ⟨(ad231.add ((x5_2).toNat * 5)).block, (ad231.add ((x5_2).toNat * 5)).off + 4, none⟩ = some (.slice A231_4 ((rd_T25 l0_4 x5_2).f4).length c231_4) ∧ w'.cell? (ad232.add ((x5_2).toNat * 5)) = some (.int .i64 ((rd_T25 l1_4 x5_2).f0)) ∧ w'.cell? ⟨(ad232.add ((x5_2).toNat * 5)).block, (ad232.add ((x5_2).toNat * 5)).off + 1, none⟩ = some (.int .i64 ((rd_T25 l1_4 x5_2).f1)) ∧ w'.cell? ⟨(ad232.add ((x5_2).toNat * 5)).block, (ad232.add ((x5_2).toNat * 5)).off + 2, none⟩ = some (.string ((rd_T25 l1_4 x5_2).f2)) ∧ w'.cell? ⟨(ad232.add ((x5_2).toNat * 5)).block, (ad232.add ((x5_2).toNat * 5)).off + 3, none⟩ = some (.slice A232_3 ((rd_T25 l1_4 x5_2).f3).length c232_3) ∧ w'.cell? ⟨(ad232.add ((x5_2).toNat * 5)).block, (ad232.add ((x5_2).toNat * 5)).off + 4, none⟩ = some (.slice A232_4 ((rd_T25 l1_4 x5_2).f4).length c232_4)) (ds := []) #[false, false, false, false, false, false, false, false, false, false, false, false] (by kernel_rfl) rfl rfl ⟨(blk_cell BK223.out 0).trans rfl, (blk_cell BK223.out 1).trans rfl, (blk_cell BK223.out 2).trans rfl, (blk_cell BK223.out 3).trans rfl, (blk_cell BK223.out 4).trans rfl, (blk_cell BK224.out 0).trans rfl, (blk_cell BK224.out 1).trans rfl, (blk_cell BK224.out 2).trans rfl, (blk_cell BK224.out 3).trans rfl, (blk_cell BK224.out 4).trans rfl, ((HB.out.cell (World.block_lt_of_cell? w _ hw231_0)).trans hw231_0), ((HB.out.cell (World.block_lt_of_cell? w _ hw231_1)).trans hw231_1), ((HB.out.cell (World.block_lt_of_cell? w _ hw231_2)).trans hw231_2), ((HB.out.cell (World.block_lt_of_cell? w _ hw231_3)).trans hw231_3), ((HB.out.cell (World.block_lt_of_cell? w _ hw231_4)).trans hw231_4), ((HB.out.cell (World.block_lt_of_cell? w _ hw232_0)).trans hw232_0), ((HB.out.cell (World.block_lt_of_cell? w _ hw232_1)).trans hw232_1), ((HB.out.cell (World.block_lt_of_cell? w _ hw232_2)).trans hw232_2), ((HB.out.cell (World.block_lt_of_cell? w _ hw232_3)).trans hw232_3), ((HB.out.cell (World.block_lt_of_cell? w _ hw232_4)).trans hw232_4)⟩ (fun hHeld => ?_); refine with_tabW munimentref03_Plain.tab21 munimentref03_Plain.bits21 (fun HT_ HW_ => ?_)
                                        generalize w62.drew = w63 at BK223 BK224 HB HR231_3 HR231_4 HR232_3 HR232_4 hx231_0 hx231_1 hx231_2 hx231_3 hx231_4 hx232_0 hx232_1 hx232_2 hx232_3 hx232_4 hHeld ⊢
                                        refine pure_ (i := 0) (N := some 73) (v := ?_) (a' := ?_) #[true, false, false, false, false, false, false, false, false, false, false, false] rfl rfl (any_of HT_.out (by kernel_rfl)) (fun _ _ _ h => h) (Or.inl ⟨by rfl, ?_⟩) ?_ ?_
                                        rotate_left
                                        · intro w'
                                          go_simp
                                          with_reducible rfl
                                        rotate_left
                                        · simp only [Act.put, List.setIfInBounds_toArray, List.set_cons_zero, List.set_cons_succ, i64_w, i32_w]
                                          rfl
                                        refine pure_ (i := 2) (N := some 75) (v := ?_) (a' := ?_) #[true, false, true, false, false, false, false, false, false, false, false, false] rfl rfl (any_of HT_.out (by kernel_rfl)) (fun _ _ _ h => h) (Or.inl ⟨by rfl, ?_⟩) ?_ ?_
                                        rotate_left
                                        · intro w'
                                          go_simp
                                          with_reducible rfl
                                        rotate_left
                                        · simp only [Act.put, List.setIfInBounds_toArray, List.set_cons_zero, List.set_cons_succ, i64_w, i32_w]
                                          rfl
                                        refine pure_ (i := 5) (N := some 78) (v := ?_) (a' := ?_) #[true, false, true, false, false, true, false, false, false, false, false, false] rfl rfl (any_of HT_.out (by kernel_rfl)) (fun _ _ _ h => h) (Or.inl ⟨by rfl, ?_⟩) ?_ ?_
                                        rotate_left
                                        · intro w'
                                          go_simp
                                          with_reducible rfl
                                        rotate_left
                                        · simp only [Act.put, List.setIfInBounds_toArray, List.set_cons_zero, List.set_cons_succ, i64_w, i32_w]
                                          rfl
                                        refine pure_ (i := 7) (N := some 80) (v := ?_) (a' := ?_) #[true, false, true, false, false, true, false, true, false, false, false, false] rfl rfl (any_of HT_.out (by kernel_rfl)) (fun _ _ _ h => h) (Or.inl ⟨by rfl, ?_⟩) ?_ ?_
                                        rotate_left
                                        · intro w'
                                          go_simp
                                          with_reducible rfl
                                        rotate_left
                                        · simp only [Act.put, List.setIfInBounds_toArray, List.set_cons_zero, List.set_cons_succ, i64_w, i32_w]
                                          rfl
                                        refine take_ (i := 1) (N := some 74) (v := ?_) (a' := ?_) #[true, true, true, false, false, true, false, true, false, false, false, false] rfl rfl (take_ofW HT_.out HW_.out (by kernel_rfl)) (fun _ _ _ h => h) (Or.inl ⟨by rfl, ?_⟩) hHeld ?_ ?_
                                        rotate_left
                                        · rintro w' ⟨s0, s1, s2, s3, s4, s5, s6, s7, s8, s9, s10, s11, s12, s13, s14, s15, s16, s17, s18, s19⟩
                                          go_simp
                                          with_reducible rfl
                                        rotate_left
                                        · simp only [Act.put, List.setIfInBounds_toArray, List.set_cons_zero, List.set_cons_succ, i64_w, i32_w]
                                          rfl
                                        refine pure_ (i := 3) (N := some 76) (v := ?_) (a' := ?_) #[true, true, true, true, false, true, false, true, false, false, false, false] rfl rfl (any_of HT_.out (by kernel_rfl)) (fun _ _ _ h => h) (Or.inl ⟨by rfl, ?_⟩) ?_ ?_
                                        rotate_left
                                        · intro w'
                                          go_simp
                                          with_reducible rfl
                                        rotate_left
                                        · simp only [Act.put, List.setIfInBounds_toArray, List.set_cons_zero, List.set_cons_succ, i64_w, i32_w]
                                          rfl
                                        refine take_ (i := 4) (N := some 77) (v := ?_) (a' := ?_) #[true, true, true, true, true, true, false, true, false, false, false, false] rfl rfl (take_ofW HT_.out HW_.out (by kernel_rfl)) (fun _ _ _ h => h) (Or.inl ⟨by rfl, ?_⟩) hHeld ?_ ?_
                                        rotate_left
                                        · rintro w' ⟨s0, s1, s2, s3, s4, s5, s6, s7, s8, s9, s10, s11, s12, s13, s14, s15, s16, s17, s18, s19⟩
                                          go_simp
                                          with_reducible rfl
                                        rotate_left
                                        · simp only [Act.put, List.setIfInBounds_toArray, List.set_cons_zero, List.set_cons_succ, i64_w, i32_w]
                                          rfl
                                        refine take_ (i := 6) (N := some 79) (v := ?_) (a' := ?_) #[true, true, true, true, true, true, true, true, false, false, false, false] rfl rfl (take_ofW HT_.out HW_.out (by kernel_rfl)) (fun _ _ _ h => h) (Or.inl ⟨by rfl, ?_⟩) hHeld ?_ ?_
                                        rotate_left
                                        · rintro w' ⟨s0, s1, s2, s3, s4, s5, s6, s7, s8, s9, s10, s11, s12, s13, s14, s15, s16, s17, s18, s19⟩
                                          go_simp
                                          with_reducible rfl
                                        rotate_left
                                        · simp only [Act.put, List.setIfInBounds_toArray, List.set_cons_zero, List.set_cons_succ, i64_w, i32_w]
                                          rfl
                                        refine pure_ (i := 8) (N := some 81) (v := ?_) (a' := ?_) #[true, true, true, true, true, true, true, true, true, false, false, false] rfl rfl (any_of HT_.out (by kernel_rfl)) (fun _ _ _ h => h) (Or.inl ⟨by rfl, ?_⟩) ?_ ?_
                                        rotate_left
                                        · intro w'
                                          go_simp
                                          with_reducible rfl
                                        rotate_left
                                        · simp only [Act.put, List.setIfInBounds_toArray, List.set_cons_zero, List.set_cons_succ, i64_w, i32_w]
                                          rfl
                                        refine take_ (i := 9) (N := some 82) (v := ?_) (a' := ?_) #[true, true, true, true, true, true, true, true, true, true, false, false] rfl rfl (take_ofW HT_.out HW_.out (by kernel_rfl)) (fun _ _ _ h => h) (Or.inl ⟨by rfl, ?_⟩) hHeld ?_ ?_
                                        rotate_left
                                        · rintro w' ⟨s0, s1, s2, s3, s4, s5, s6, s7, s8, s9, s10, s11, s12, s13, s14, s15, s16, s17, s18, s19⟩
                                          go_simp
                                          with_reducible rfl
                                        rotate_left
                                        · simp only [Act.put, List.setIfInBounds_toArray, List.set_cons_zero, List.set_cons_succ, i64_w, i32_w]
                                          rfl
                                        refine one_ (i := 10) (N := some 83) #[true, true, true, true, true, true, true, true, true, true, true, false] rfl rfl (one_of HT_.out (by kernel_rfl)) (by decide) (fun K hK => ?_)
                                        refine goes_ Tryd.func84 (by kernel_rfl) rfl #[.agg #[.int .i64 ((rd_T25 l0_4 x5_2).f0), .int .i64 ((rd_T25 l0_4 x5_2).f1), .string ((rd_T25 l0_4 x5_2).f2), .slice A231_3 ((rd_T25 l0_4 x5_2).f3).length c231_3, .slice A231_4 ((rd_T25 l0_4 x5_2).f4).length c231_4], .agg #[.int .i64 ((rd_T25 l1_4 x5_2).f0), .int .i64 ((rd_T25 l1_4 x5_2).f1), .string ((rd_T25 l1_4 x5_2).f2), .slice A232_3 ((rd_T25 l1_4 x5_2).f3).length c232_3, .slice A232_4 ((rd_T25 l1_4 x5_2).f4).length c232_4]] (by rfl) rfl rfl (by (try simp only [List.map_toArray, List.map_cons, List.map_nil]); first | done | rfl | (simp only [List.length_drop, List.length_take]; rfl)) ?_
                                        with_reducible refine (ih kj36 (by have := HJ28.out; have := HK2.out; have := HJ36.out; omega) ((rd_T25 l0_4 x5_2).f0) ((rd_T25 l0_4 x5_2).f1) ((rd_T25 l0_4 x5_2).f2) _ _ ((rd_T25 l0_4 x5_2).f3) _ _ ((rd_T25 l0_4 x5_2).f4) ((rd_T25 l1_4 x5_2).f0) ((rd_T25 l1_4 x5_2).f1) ((rd_T25 l1_4 x5_2).f2) _ _ ((rd_T25 l1_4 x5_2).f3) _ _ ((rd_T25 l1_4 x5_2).f4) t233 _ ?side1 ?side2 ?side3 ?side4 ?side5 ?side6 ?side7 ?side8 A53.out).mono ?_
                                        (case side1 => repeat (first | exact (Kd.C_below HR231_3.out HB.out) | (with_reducible refine Kd.C_alloc ?_ _) | (with_reducible refine Kd.C_drewN ?_ _) | (with_reducible refine Kd.C_drew ?_)))
                                        (case side2 => exact HC231_3.out)
                                        (case side3 => repeat (first | exact (Kd.C_below HR231_4.out HB.out) | (with_reducible refine Kd.C_alloc ?_ _) | (with_reducible refine Kd.C_drewN ?_ _) | (with_reducible refine Kd.C_drew ?_)))
                                        (case side4 => exact HC231_4.out)
                                        (case side5 => repeat (first | exact (Kd.C_below HR232_3.out HB.out) | (with_reducible refine Kd.C_alloc ?_ _) | (with_reducible refine Kd.C_drewN ?_ _) | (with_reducible refine Kd.C_drew ?_)))
                                        (case side6 => exact HC232_3.out)
                                        (case side7 => repeat (first | exact (Kd.C_below HR232_4.out HB.out) | (with_reducible refine Kd.C_alloc ?_ _) | (with_reducible refine Kd.C_drewN ?_ _) | (with_reducible refine Kd.C_drew ?_)))
                                        (case side8 => exact HC232_4.out)
                                        rintro e w64 ⟨rfl, hb⟩
                                        refine ⟨_, rfl, ?_⟩
                                        have n0_ := Aside0.mk (blk_below (g := gb223) (o := .cells #[.int .i64 a0_0, .int .i64 a0_1, .string a0_2, .slice (some ad228) l0_3.length c0_3, .slice (some ad231) l0_4.length c0_4] 25 (0, 0)) (by (with_reducible repeat (first | refine blk_drewN ?_ _ | refine blk_drew ?_ | refine blk_alloc ?_ _)); exact BK223.out) hb)
                                        have n1_ := Aside0.mk (blk_below (g := gb224) (o := .cells #[.int .i64 a1_0, .int .i64 a1_1, .string a1_2, .slice (some ad229) l1_3.length c1_3, .slice (some ad232) l1_4.length c1_4] 25 (0, 0)) (by (with_reducible repeat (first | refine blk_drewN ?_ _ | refine blk_drew ?_ | refine blk_alloc ?_ _)); exact BK224.out) hb)
                                        have n2_ := Aside0.mk (below_step (by repeat (first | (with_reducible first | exact HB.out | apply below_alloc | apply pw_below_drewN | apply below_drew1 | refine below_set ?_ GE223.out | refine below_set ?_ GE224.out) | exact HB.out)) hb)
                                        clear BK223
                                        clear BK224
                                        clear HB
                                        have BK223 := n0_
                                        have BK224 := n1_
                                        have HB := n2_
                                        clear n0_ n1_ n2_
                                        (try clear hb)
                                        (try clear hb2)
                                        (try clear hk)
                                        (try clear hi)
                                        refine hK.out _ _ ⟨(blk_cell BK223.out 0).trans rfl, (blk_cell BK223.out 1).trans rfl, (blk_cell BK223.out 2).trans rfl, (blk_cell BK223.out 3).trans rfl, (blk_cell BK223.out 4).trans rfl, (blk_cell BK224.out 0).trans rfl, (blk_cell BK224.out 1).trans rfl, (blk_cell BK224.out 2).trans rfl, (blk_cell BK224.out 3).trans rfl, (blk_cell BK224.out 4).trans rfl, ((HB.out.cell (World.block_lt_of_cell? w _ hw231_0)).trans hw231_0), ((HB.out.cell (World.block_lt_of_cell? w _ hw231_1)).trans hw231_1), ((HB.out.cell (World.block_lt_of_cell? w _ hw231_2)).trans hw231_2), ((HB.out.cell (World.block_lt_of_cell? w _ hw231_3)).trans hw231_3), ((HB.out.cell (World.block_lt_of_cell? w _ hw231_4)).trans hw231_4), ((HB.out.cell (World.block_lt_of_cell? w _ hw232_0)).trans hw232_0), ((HB.out.cell (World.block_lt_of_cell? w _ hw232_1)).trans hw232_1), ((HB.out.cell (World.block_lt_of_cell? w _ hw232_2)).trans hw232_2), ((HB.out.cell (World.block_lt_of_cell? w _ hw232_3)).trans hw232_3), ((HB.out.cell (World.block_lt_of_cell? w _ hw232_4)).trans hw232_4)⟩ (fun hHeld => ?_)
                                        clear hK K
                                        refine norm_ (a' := ?_) ?_ ?_
                                        rotate_left
                                        · show Act.put _ (some 83) _ = _
                                          simp only [Act.put, List.setIfInBounds_toArray, List.set_cons_zero, List.set_cons_succ, i64_w, i32_w]
                                          rfl
                                        refine pure_ (i := 11) (N := some 7) (v := ?_) (a' := ?_) #[true, true, true, true, true, true, true, true, true, true, true, true] rfl rfl (any_of HT_.out (by kernel_rfl)) (fun _ _ _ h => h) (Or.inl ⟨by rfl, ?_⟩) ?_ ?_
                                        rotate_left
                                        · intro w'
                                          go_simp
                                          with_reducible rfl
                                        rotate_left
                                        · simp only [Act.put, List.setIfInBounds_toArray, List.set_cons_zero, List.set_cons_succ, i64_w, i32_w]
                                          rfl
                                        refine done_ (done_of HT_.out (by kernel_rfl)) ?_
                                        try go_wp2
                                        go_ret
                                        exact ⟨by first | rfl | (simp [errW_none, errW_some] <;> rfl) | (simp [*, errW_none, errW_some] <;> rfl), by repeat (first | (with_reducible first | exact HB.out | apply below_alloc | apply pw_below_drewN | apply below_drew1 | refine below_set ?_ GE223.out | refine below_set ?_ GE224.out) | exact HB.out)⟩
                                    · rw [if_neg c52] at H
                                      exact absurd H (by simp)
                                  · rw [if_neg c51] at H
                                    exact absurd H (by simp)
                                · rw [if_neg c50] at H
                                  have c50b0 : (t230 == 0) = false := beq_eq_false_iff_ne.mpr c50
                                  have c50b1 : (t230 != 0) = true := bne_iff_ne.mpr c50
                                  obtain rfl := Option.some.inj H
                                  have hnb65 := NB223_224.out
                                  have hnc65 := NB224_223.out
                                  have hcz66_0 : wc.cell? ⟨gb223, 0, none⟩ = some (.int .i64 a0_0) := (blk_cell BK223.out 0).trans rfl
                                  have hcz66_1 : wc.cell? ⟨gb223, 1, none⟩ = some (.int .i64 a0_1) := (blk_cell BK223.out 1).trans rfl
                                  have hcz66_2 : wc.cell? ⟨gb223, 2, none⟩ = some (.string a0_2) := (blk_cell BK223.out 2).trans rfl
                                  have hcz66_3 : wc.cell? ⟨gb223, 3, none⟩ = some (.slice A0_3 l0_3.length c0_3) := (blk_cell BK223.out 3).trans rfl
                                  have hcz66_4 : wc.cell? ⟨gb223, 4, none⟩ = some (.slice A0_4 l0_4.length c0_4) := (blk_cell BK223.out 4).trans rfl
                                  have hfz66_0 := blk_frozen BK223.out 0
                                  have hfz66_1 := blk_frozen BK223.out 1
                                  have hfz66_2 := blk_frozen BK223.out 2
                                  have hfz66_3 := blk_frozen BK223.out 3
                                  have hfz66_4 := blk_frozen BK223.out 4
                                  try go_wp2
                                  have n0_ := Aside0.mk (blk_drew BK223.out)
                                  have n1_ := Aside0.mk (blk_drew BK224.out)
                                  have n2_ := Aside0.mk (below_drew1 HB.out)
                                  clear BK223
                                  clear BK224
                                  clear HB
                                  have BK223 := n0_
                                  have BK224 := n1_
                                  have HB := n2_
                                  clear n0_ n1_ n2_
                                  have p228 : 0 ≤ (x5_2 : Int) := of_decide_eq_true (by first | (with_reducible assumption) | assumption)
                                  have q228 : x5_2 < (l0_3.length : Int) := of_decide_eq_true (by first | (with_reducible assumption) | assumption)
                                  obtain ⟨ad228, e228, hx228_0⟩ := Kd.at_string HR0_3.out x5_2 p228 q228
                                  have hw228_0 := hx228_0
                                  cases e228
                                  replace hx228_0 := (HB.out.cell (World.block_lt_of_cell? w _ hx228_0)).trans hx228_0
                                  replace p228 := eq_true p228
                                  replace q228 := eq_true q228
                                  have p229 : 0 ≤ (x5_2 : Int) := of_decide_eq_true (by first | (with_reducible assumption) | assumption)
                                  have q229 : x5_2 < (l1_3.length : Int) := of_decide_eq_true (by first | (with_reducible assumption) | assumption)
                                  obtain ⟨ad229, e229, hx229_0⟩ := Kd.at_string HR1_3.out x5_2 p229 q229
                                  have hw229_0 := hx229_0
                                  cases e229
                                  replace hx229_0 := (HB.out.cell (World.block_lt_of_cell? w _ hx229_0)).trans hx229_0
                                  replace p229 := eq_true p229
                                  replace q229 := eq_true q229
                                  refine start_ (n := 12) (S := fun w' => w'.cell? ⟨gb223, 0, none⟩ = some (.int .i64 a0_0) ∧ w'.cell? ⟨gb223, 1, none⟩ = some (.int .i64 a0_1) ∧ w'.cell? ⟨gb223, 2, none⟩ = some (.string a0_2) ∧ w'.cell? ⟨gb223, 3, none⟩ = some (.slice (some ad228) l0_3.length c0_3) ∧ w'.cell? ⟨gb223, 4, none⟩ = some (.slice A0_4 l0_4.length c0_4) ∧ w'.cell? ⟨gb224, 0, none⟩ = some (.int .i64 a1_0) ∧ w'.cell? ⟨gb224, 1, none⟩ = some (.int .i64 a1_1) ∧ w'.cell? ⟨gb224, 2, none⟩ = some (.string a1_2) ∧ w'.cell? ⟨gb224, 3, none⟩ = some (.slice (some ad229) l1_3.length c1_3) ∧ w'.cell? ⟨gb224, 4, none⟩ = some (.slice A1_4 l1_4.length c1_4) ∧ w'.cell? (ad228.add (x5_2).toNat) = some (.string (rdOf ByteArray.empty l0_3 x5_2)) ∧ w'.cell? (ad229.add (x5_2).toNat) = some (.string (rdOf ByteArray.empty l1_3 x5_2))) (ds := []) #[false, false, false, false, false, false, false, false, false, false, false, false] (by kernel_rfl) rfl rfl ⟨(blk_cell BK223.out 0).trans rfl, (blk_cell BK223.out 1).trans rfl, (blk_cell BK223.out 2).trans rfl, (blk_cell BK223.out 3).trans rfl, (blk_cell BK223.out 4).trans rfl, (blk_cell BK224.out 0).trans rfl, (blk_cell BK224.out 1).trans rfl, (blk_cell BK224.out 2).trans rfl, (blk_cell BK224.out 3).trans rfl, (blk_cell BK224.out 4).trans rfl, ((HB.out.cell (World.block_lt_of_cell? w _ hw228_0)).trans hw228_0), ((HB.out.cell (World.block_lt_of_cell? w _ hw229_0)).trans hw229_0)⟩ (fun hHeld => ?_); refine with_tabW munimentref03_Plain.tab18 munimentref03_Plain.bits18 (fun HT_ HW_ => ?_)
                                  generalize wc.drew = w67 at BK223 BK224 HB hx228_0 hx229_0 hHeld ⊢
                                  refine pure_ (i := 0) (N := some 59) (v := ?_) (a' := ?_) #[true, false, false, false, false, false, false, false, false, false, false, false] rfl rfl (any_of HT_.out (by kernel_rfl)) (fun _ _ _ h => h) (Or.inl ⟨by rfl, ?_⟩) ?_ ?_
                                  rotate_left
                                  · intro w'
                                    go_simp
                                    with_reducible rfl
                                  rotate_left
                                  · simp only [Act.put, List.setIfInBounds_toArray, List.set_cons_zero, List.set_cons_succ, i64_w, i32_w]
                                    rfl
                                  refine pure_ (i := 2) (N := some 61) (v := ?_) (a' := ?_) #[true, false, true, false, false, false, false, false, false, false, false, false] rfl rfl (any_of HT_.out (by kernel_rfl)) (fun _ _ _ h => h) (Or.inl ⟨by rfl, ?_⟩) ?_ ?_
                                  rotate_left
                                  · intro w'
                                    go_simp
                                    with_reducible rfl
                                  rotate_left
                                  · simp only [Act.put, List.setIfInBounds_toArray, List.set_cons_zero, List.set_cons_succ, i64_w, i32_w]
                                    rfl
                                  refine pure_ (i := 5) (N := some 64) (v := ?_) (a' := ?_) #[true, false, true, false, false, true, false, false, false, false, false, false] rfl rfl (any_of HT_.out (by kernel_rfl)) (fun _ _ _ h => h) (Or.inl ⟨by rfl, ?_⟩) ?_ ?_
                                  rotate_left
                                  · intro w'
                                    go_simp
                                    with_reducible rfl
                                  rotate_left
                                  · simp only [Act.put, List.setIfInBounds_toArray, List.set_cons_zero, List.set_cons_succ, i64_w, i32_w]
                                    rfl
                                  refine pure_ (i := 7) (N := some 66) (v := ?_) (a' := ?_) #[true, false, true, false, false, true, false, true, false, false, false, false] rfl rfl (any_of HT_.out (by kernel_rfl)) (fun _ _ _ h => h) (Or.inl ⟨by rfl, ?_⟩) ?_ ?_
                                  rotate_left
                                  · intro w'
                                    go_simp
                                    with_reducible rfl
                                  rotate_left
                                  · simp only [Act.put, List.setIfInBounds_toArray, List.set_cons_zero, List.set_cons_succ, i64_w, i32_w]
                                    rfl
                                  refine take_ (i := 1) (N := some 60) (v := ?_) (a' := ?_) #[true, true, true, false, false, true, false, true, false, false, false, false] rfl rfl (take_ofW HT_.out HW_.out (by kernel_rfl)) (fun _ _ _ h => h) (Or.inl ⟨by rfl, ?_⟩) hHeld ?_ ?_
                                  rotate_left
                                  · rintro w' ⟨s0, s1, s2, s3, s4, s5, s6, s7, s8, s9, s10, s11⟩
                                    go_simp
                                    with_reducible rfl
                                  rotate_left
                                  · simp only [Act.put, List.setIfInBounds_toArray, List.set_cons_zero, List.set_cons_succ, i64_w, i32_w]
                                    rfl
                                  refine pure_ (i := 3) (N := some 62) (v := ?_) (a' := ?_) #[true, true, true, true, false, true, false, true, false, false, false, false] rfl rfl (any_of HT_.out (by kernel_rfl)) (fun _ _ _ h => h) (Or.inl ⟨by rfl, ?_⟩) ?_ ?_
                                  rotate_left
                                  · intro w'
                                    go_simp
                                    with_reducible rfl
                                  rotate_left
                                  · simp only [Act.put, List.setIfInBounds_toArray, List.set_cons_zero, List.set_cons_succ, i64_w, i32_w]
                                    rfl
                                  refine take_ (i := 4) (N := some 63) (v := ?_) (a' := ?_) #[true, true, true, true, true, true, false, true, false, false, false, false] rfl rfl (take_ofW HT_.out HW_.out (by kernel_rfl)) (fun _ _ _ h => h) (Or.inl ⟨by rfl, ?_⟩) hHeld ?_ ?_
                                  rotate_left
                                  · rintro w' ⟨s0, s1, s2, s3, s4, s5, s6, s7, s8, s9, s10, s11⟩
                                    go_simp
                                    with_reducible rfl
                                  rotate_left
                                  · simp only [Act.put, List.setIfInBounds_toArray, List.set_cons_zero, List.set_cons_succ, i64_w, i32_w]
                                    rfl
                                  refine take_ (i := 6) (N := some 65) (v := ?_) (a' := ?_) #[true, true, true, true, true, true, true, true, false, false, false, false] rfl rfl (take_ofW HT_.out HW_.out (by kernel_rfl)) (fun _ _ _ h => h) (Or.inl ⟨by rfl, ?_⟩) hHeld ?_ ?_
                                  rotate_left
                                  · rintro w' ⟨s0, s1, s2, s3, s4, s5, s6, s7, s8, s9, s10, s11⟩
                                    go_simp
                                    with_reducible rfl
                                  rotate_left
                                  · simp only [Act.put, List.setIfInBounds_toArray, List.set_cons_zero, List.set_cons_succ, i64_w, i32_w]
                                    rfl
                                  refine pure_ (i := 8) (N := some 67) (v := ?_) (a' := ?_) #[true, true, true, true, true, true, true, true, true, false, false, false] rfl rfl (any_of HT_.out (by kernel_rfl)) (fun _ _ _ h => h) (Or.inl ⟨by rfl, ?_⟩) ?_ ?_
                                  rotate_left
                                  · intro w'
                                    go_simp
                                    with_reducible rfl
                                  rotate_left
                                  · simp only [Act.put, List.setIfInBounds_toArray, List.set_cons_zero, List.set_cons_succ, i64_w, i32_w]
                                    rfl
                                  refine take_ (i := 9) (N := some 68) (v := ?_) (a' := ?_) #[true, true, true, true, true, true, true, true, true, true, false, false] rfl rfl (take_ofW HT_.out HW_.out (by kernel_rfl)) (fun _ _ _ h => h) (Or.inl ⟨by rfl, ?_⟩) hHeld ?_ ?_
                                  rotate_left
                                  · rintro w' ⟨s0, s1, s2, s3, s4, s5, s6, s7, s8, s9, s10, s11⟩
                                    go_simp
                                    with_reducible rfl
                                  rotate_left
                                  · simp only [Act.put, List.setIfInBounds_toArray, List.set_cons_zero, List.set_cons_succ, i64_w, i32_w]
                                    rfl
                                  refine one_ (i := 10) (N := some 69) #[true, true, true, true, true, true, true, true, true, true, true, false] rfl rfl (one_of HT_.out (by kernel_rfl)) (by decide) (fun K hK => ?_)
                                  refine goes_ Tryd.func128 (by kernel_rfl) rfl #[.string (rdOf ByteArray.empty l0_3 x5_2), .string (rdOf ByteArray.empty l1_3 x5_2)] (by rfl) rfl rfl (by (try simp only [List.map_toArray, List.map_cons, List.map_nil]); first | done | rfl | (simp only [List.length_drop, List.length_take]; rfl)) ?_
                                  with_reducible refine (munimentref03_texts.calls kj36 (rdOf ByteArray.empty l0_3 x5_2) (rdOf ByteArray.empty l1_3 x5_2) t230 _ A49.out).mono ?_
                                  rintro e w' ⟨rfl, ⟨nd, rfl⟩⟩
                                  refine ⟨_, rfl, ?_⟩
                                  refine hK.out _ _ ⟨(blk_cell BK223.out 0).trans rfl, (blk_cell BK223.out 1).trans rfl, (blk_cell BK223.out 2).trans rfl, (blk_cell BK223.out 3).trans rfl, (blk_cell BK223.out 4).trans rfl, (blk_cell BK224.out 0).trans rfl, (blk_cell BK224.out 1).trans rfl, (blk_cell BK224.out 2).trans rfl, (blk_cell BK224.out 3).trans rfl, (blk_cell BK224.out 4).trans rfl, ((HB.out.cell (World.block_lt_of_cell? w _ hw228_0)).trans hw228_0), ((HB.out.cell (World.block_lt_of_cell? w _ hw229_0)).trans hw229_0)⟩ (fun hHeld => ?_)
                                  clear hK K
                                  refine norm_ (a' := ?_) ?_ ?_
                                  rotate_left
                                  · show Act.put _ (some 69) _ = _
                                    simp only [Act.put, List.setIfInBounds_toArray, List.set_cons_zero, List.set_cons_succ, i64_w, i32_w]
                                    rfl
                                  refine pure_ (i := 11) (N := some 6) (v := ?_) (a' := ?_) #[true, true, true, true, true, true, true, true, true, true, true, true] rfl rfl (any_of HT_.out (by kernel_rfl)) (fun _ _ _ h => h) (Or.inl ⟨by rfl, ?_⟩) ?_ ?_
                                  rotate_left
                                  · intro w'
                                    go_simp
                                    with_reducible rfl
                                  rotate_left
                                  · simp only [Act.put, List.setIfInBounds_toArray, List.set_cons_zero, List.set_cons_succ, i64_w, i32_w]
                                    rfl
                                  refine done_ (done_of HT_.out (by kernel_rfl)) ?_
                                  try go_wp2
                                  go_ret
                                  exact ⟨by first | rfl | (simp [errW_none, errW_some] <;> rfl) | (simp [*, errW_none, errW_some] <;> rfl), by repeat (first | (with_reducible first | exact HB.out | apply below_alloc | apply pw_below_drewN | apply below_drew1 | refine below_set ?_ GE223.out | refine below_set ?_ GE224.out) | exact HB.out)⟩
                              · rw [if_neg c48] at H
                                exact absurd H (by simp)
                            · rw [if_neg c47] at H
                              exact absurd H (by simp)
                          · rw [if_neg c46] at H
                            exact absurd H (by simp)
                        · rw [if_neg c45] at H
                          have c45b0 : (a0_0 == 6) = false := beq_eq_false_iff_ne.mpr c45
                          have c45b1 : (a0_0 != 6) = true := bne_iff_ne.mpr c45
                          by_cases c68 : 0 ≤ x5_2
                          · rw [if_pos c68] at H
                            have c68b0 : decide (0 ≤ x5_2) = true := decide_eq_true c68
                            clear c68
                            by_cases c69 : x5_2 < (l0_4.length : Int)
                            · rw [if_pos c69] at H
                              have c69b0 : decide (x5_2 < (l0_4.length : Int)) = true := decide_eq_true c69
                              clear c69
                              by_cases c70 : x5_2 < (l1_4.length : Int)
                              · rw [if_pos c70] at H
                                have c70b0 : decide (x5_2 < (l1_4.length : Int)) = true := decide_eq_true c70
                                clear c70
                                replace H := Option.bind_eq_some_iff.mp H
                                obtain ⟨t236, A710, H⟩ := H
                                replace H : (if t236 = 0 then (munimentref03_Plain.l0 kj36 (wrap64 (x5_2 + 1)) a0_0 a0_1 a0_2 l0_3 l0_4 a1_0 a1_1 a1_2 l1_3 l1_4) else (some t236)) = some r := H
                                have A71 := Aside0.mk A710
                                clear A710
                                by_cases c72 : t236 = 0
                                · rw [if_pos c72] at H
                                  have c72b0 : (t236 == 0) = true := beq_iff_eq.mpr c72
                                  have c72b1 : (t236 != 0) = false := bne_eq_false_iff_eq.mpr c72
                                  clear c72
                                  have H' := Aside0.mk H
                                  clear H
                                  have hnb73 := NB223_224.out
                                  have hnc73 := NB224_223.out
                                  have hcz74_0 : wc.cell? ⟨gb223, 0, none⟩ = some (.int .i64 a0_0) := (blk_cell BK223.out 0).trans rfl
                                  have hcz74_1 : wc.cell? ⟨gb223, 1, none⟩ = some (.int .i64 a0_1) := (blk_cell BK223.out 1).trans rfl
                                  have hcz74_2 : wc.cell? ⟨gb223, 2, none⟩ = some (.string a0_2) := (blk_cell BK223.out 2).trans rfl
                                  have hcz74_3 : wc.cell? ⟨gb223, 3, none⟩ = some (.slice A0_3 l0_3.length c0_3) := (blk_cell BK223.out 3).trans rfl
                                  have hcz74_4 : wc.cell? ⟨gb223, 4, none⟩ = some (.slice A0_4 l0_4.length c0_4) := (blk_cell BK223.out 4).trans rfl
                                  have hfz74_0 := blk_frozen BK223.out 0
                                  have hfz74_1 := blk_frozen BK223.out 1
                                  have hfz74_2 := blk_frozen BK223.out 2
                                  have hfz74_3 := blk_frozen BK223.out 3
                                  have hfz74_4 := blk_frozen BK223.out 4
                                  try go_wp2
                                  have n0_ := Aside0.mk (blk_drew BK223.out)
                                  have n1_ := Aside0.mk (blk_drew BK224.out)
                                  have n2_ := Aside0.mk (below_drew1 HB.out)
                                  clear BK223
                                  clear BK224
                                  clear HB
                                  have BK223 := n0_
                                  have BK224 := n1_
                                  have HB := n2_
                                  clear n0_ n1_ n2_
                                  have p234 : 0 ≤ (x5_2 : Int) := of_decide_eq_true (by first | (with_reducible assumption) | assumption)
                                  have q234 : x5_2 < (l0_4.length : Int) := of_decide_eq_true (by first | (with_reducible assumption) | assumption)
                                  obtain ⟨ad234, A234_3, c234_3, A234_4, c234_4, e234, hx234_0, hx234_1, hx234_2, hx234_3, hx234_4, hl234_3, hi234_3, hl234_4, hi234_4⟩ := at_T25 HR0_4.out x5_2 p234 q234
                                  have hw234_4 := hx234_4
                                  have hw234_3 := hx234_3
                                  have hw234_2 := hx234_2
                                  have hw234_1 := hx234_1
                                  have hw234_0 := hx234_0
                                  cases e234
                                  replace hx234_0 := (HB.out.cell (World.block_lt_of_cell? w _ hx234_0)).trans hx234_0
                                  replace hx234_1 := (HB.out.cell (World.block_lt_of_cell? w _ hx234_1)).trans hx234_1
                                  replace hx234_2 := (HB.out.cell (World.block_lt_of_cell? w _ hx234_2)).trans hx234_2
                                  replace hx234_3 := (HB.out.cell (World.block_lt_of_cell? w _ hx234_3)).trans hx234_3
                                  replace hx234_4 := (HB.out.cell (World.block_lt_of_cell? w _ hx234_4)).trans hx234_4
                                  have HR234_3 := Aside0.mk hi234_3
                                  have HC234_3 := Aside0.mk hl234_3
                                  clear hi234_3 hl234_3
                                  have HR234_4 := Aside0.mk hi234_4
                                  have HC234_4 := Aside0.mk hl234_4
                                  clear hi234_4 hl234_4
                                  replace p234 := eq_true p234
                                  replace q234 := eq_true q234
                                  have p235 : 0 ≤ (x5_2 : Int) := of_decide_eq_true (by first | (with_reducible assumption) | assumption)
                                  have q235 : x5_2 < (l1_4.length : Int) := of_decide_eq_true (by first | (with_reducible assumption) | assumption)
                                  obtain ⟨ad235, A235_3, c235_3, A235_4, c235_4, e235, hx235_0, hx235_1, hx235_2, hx235_3, hx235_4, hl235_3, hi235_3, hl235_4, hi235_4⟩ := at_T25 HR1_4.out x5_2 p235 q235
                                  have hw235_4 := hx235_4
                                  have hw235_3 := hx235_3
                                  have hw235_2 := hx235_2
                                  have hw235_1 := hx235_1
                                  have hw235_0 := hx235_0
                                  cases e235
                                  replace hx235_0 := (HB.out.cell (World.block_lt_of_cell? w _ hx235_0)).trans hx235_0
                                  replace hx235_1 := (HB.out.cell (World.block_lt_of_cell? w _ hx235_1)).trans hx235_1
                                  replace hx235_2 := (HB.out.cell (World.block_lt_of_cell? w _ hx235_2)).trans hx235_2
                                  replace hx235_3 := (HB.out.cell (World.block_lt_of_cell? w _ hx235_3)).trans hx235_3
                                  replace hx235_4 := (HB.out.cell (World.block_lt_of_cell? w _ hx235_4)).trans hx235_4
                                  have HR235_3 := Aside0.mk hi235_3
                                  have HC235_3 := Aside0.mk hl235_3
                                  clear hi235_3 hl235_3
                                  have HR235_4 := Aside0.mk hi235_4
                                  have HC235_4 := Aside0.mk hl235_4
                                  clear hi235_4 hl235_4
                                  replace p235 := eq_true p235
                                  replace q235 := eq_true q235
                                  refine start_ (n := 12) (S := fun w' => w'.cell? ⟨gb223, 0, none⟩ = some (.int .i64 a0_0) ∧ w'.cell? ⟨gb223, 1, none⟩ = some (.int .i64 a0_1) ∧ w'.cell? ⟨gb223, 2, none⟩ = some (.string a0_2) ∧ w'.cell? ⟨gb223, 3, none⟩ = some (.slice A0_3 l0_3.length c0_3) ∧ w'.cell? ⟨gb223, 4, none⟩ = some (.slice (some ad234) l0_4.length c0_4) ∧ w'.cell? ⟨gb224, 0, none⟩ = some (.int .i64 a1_0) ∧ w'.cell? ⟨gb224, 1, none⟩ = some (.int .i64 a1_1) ∧ w'.cell? ⟨gb224, 2, none⟩ = some (.string a1_2) ∧ w'.cell? ⟨gb224, 3, none⟩ = some (.slice A1_3 l1_3.length c1_3) ∧ w'.cell? ⟨gb224, 4, none⟩ = some (.slice (some ad235) l1_4.length c1_4) ∧ w'.cell? (ad234.add ((x5_2).toNat * 5)) = some (.int .i64 ((rd_T25 l0_4 x5_2).f0)) ∧ w'.cell? ⟨(ad234.add ((x5_2).toNat * 5)).block, (ad234.add ((x5_2).toNat * 5)).off + 1, none⟩ = some (.int .i64 ((rd_T25 l0_4 x5_2).f1)) ∧ w'.cell? ⟨(ad234.add ((x5_2).toNat * 5)).block, (ad234.add ((x5_2).toNat * 5)).off + 2, none⟩ = some (.string ((rd_T25 l0_4 x5_2).f2)) ∧ w'.cell? ⟨(ad234.add ((x5_2).toNat * 5)).block, (ad234.add ((x5_2).toNat * 5)).off + 3, none⟩ = some (.slice A234_3 ((rd_T25 l0_4 x5_2).f3).length c234_3) ∧ w'.cell? ⟨(ad234.add ((x5_2).toNat * 5)).block, (ad234.add ((x5_2).toNat * 5)).off + 4, none⟩ = some (.slice A234_4 ((rd_T25 l0_4 x5_2).f4).length c234_4) ∧ w'.cell? (ad235.add ((x5_2).toNat * 5)) = some (.int .i64 ((rd_T25 l1_4 x5_2).f0)) ∧ w'.cell? ⟨(ad235.add ((x5_2).toNat * 5)).block, (ad235.add ((x5_2).toNat * 5)).off + 1, none⟩ = some (.int .i64 ((rd_T25 l1_4 x5_2).f1)) ∧ w'.cell? ⟨(ad235.add ((x5_2).toNat * 5)).block, (ad235.add ((x5_2).toNat * 5)).off + 2, none⟩ = some (.string ((rd_T25 l1_4 x5_2).f2)) ∧ w'.cell? ⟨(ad235.add ((x5_2).toNat * 5)).block, (ad235.add ((x5_2).toNat * 5)).off + 3, none⟩ = some (.slice A235_3 ((rd_T25 l1_4 x5_2).f3).length c235_3) ∧ w'.cell? ⟨(ad235.add ((x5_2).toNat * 5)).block, (ad235.add ((x5_2).toNat * 5)).off + 4, none⟩ = some (.slice A235_4 ((rd_T25 l1_4 x5_2).f4).length c235_4)) (ds := []) #[false, false, false, false, false, false, false, false, false, false, false, false] (by kernel_rfl) rfl rfl ⟨(blk_cell BK223.out 0).trans rfl, (blk_cell BK223.out 1).trans rfl, (blk_cell BK223.out 2).trans rfl, (blk_cell BK223.out 3).trans rfl, (blk_cell BK223.out 4).trans rfl, (blk_cell BK224.out 0).trans rfl, (blk_cell BK224.out 1).trans rfl, (blk_cell BK224.out 2).trans rfl, (blk_cell BK224.out 3).trans rfl, (blk_cell BK224.out 4).trans rfl, ((HB.out.cell (World.block_lt_of_cell? w _ hw234_0)).trans hw234_0), ((HB.out.cell (World.block_lt_of_cell? w _ hw234_1)).trans hw234_1), ((HB.out.cell (World.block_lt_of_cell? w _ hw234_2)).trans hw234_2), ((HB.out.cell (World.block_lt_of_cell? w _ hw234_3)).trans hw234_3), ((HB.out.cell (World.block_lt_of_cell? w _ hw234_4)).trans hw234_4), ((HB.out.cell (World.block_lt_of_cell? w _ hw235_0)).trans hw235_0), ((HB.out.cell (World.block_lt_of_cell? w _ hw235_1)).trans hw235_1), ((HB.out.cell (World.block_lt_of_cell? w _ hw235_2)).trans hw235_2), ((HB.out.cell (World.block_lt_of_cell? w _ hw235_3)).trans hw235_3), ((HB.out.cell (World.block_lt_of_cell? w _ hw235_4)).trans hw235_4)⟩ (fun hHeld => ?_); refine with_tabW munimentref03_Plain.tab21 munimentref03_Plain.bits21 (fun HT_ HW_ => ?_)
                                  generalize wc.drew = w75 at BK223 BK224 HB HR234_3 HR234_4 HR235_3 HR235_4 hx234_0 hx234_1 hx234_2 hx234_3 hx234_4 hx235_0 hx235_1 hx235_2 hx235_3 hx235_4 hHeld ⊢
                                  refine pure_ (i := 0) (N := some 73) (v := ?_) (a' := ?_) #[true, false, false, false, false, false, false, false, false, false, false, false] rfl rfl (any_of HT_.out (by kernel_rfl)) (fun _ _ _ h => h) (Or.inl ⟨by rfl, ?_⟩) ?_ ?_
                                  rotate_left
                                  · intro w'
                                    go_simp
                                    with_reducible rfl
                                  rotate_left
                                  · simp only [Act.put, List.setIfInBounds_toArray, List.set_cons_zero, List.set_cons_succ, i64_w, i32_w]
                                    rfl
                                  refine pure_ (i := 2) (N := some 75) (v := ?_) (a' := ?_) #[true, false, true, false, false, false, false, false, false, false, false, false] rfl rfl (any_of HT_.out (by kernel_rfl)) (fun _ _ _ h => h) (Or.inl ⟨by rfl, ?_⟩) ?_ ?_
                                  rotate_left
                                  · intro w'
                                    go_simp
                                    with_reducible rfl
                                  rotate_left
                                  · simp only [Act.put, List.setIfInBounds_toArray, List.set_cons_zero, List.set_cons_succ, i64_w, i32_w]
                                    rfl
                                  refine pure_ (i := 5) (N := some 78) (v := ?_) (a' := ?_) #[true, false, true, false, false, true, false, false, false, false, false, false] rfl rfl (any_of HT_.out (by kernel_rfl)) (fun _ _ _ h => h) (Or.inl ⟨by rfl, ?_⟩) ?_ ?_
                                  rotate_left
                                  · intro w'
                                    go_simp
                                    with_reducible rfl
                                  rotate_left
                                  · simp only [Act.put, List.setIfInBounds_toArray, List.set_cons_zero, List.set_cons_succ, i64_w, i32_w]
                                    rfl
                                  refine pure_ (i := 7) (N := some 80) (v := ?_) (a' := ?_) #[true, false, true, false, false, true, false, true, false, false, false, false] rfl rfl (any_of HT_.out (by kernel_rfl)) (fun _ _ _ h => h) (Or.inl ⟨by rfl, ?_⟩) ?_ ?_
                                  rotate_left
                                  · intro w'
                                    go_simp
                                    with_reducible rfl
                                  rotate_left
                                  · simp only [Act.put, List.setIfInBounds_toArray, List.set_cons_zero, List.set_cons_succ, i64_w, i32_w]
                                    rfl
                                  refine take_ (i := 1) (N := some 74) (v := ?_) (a' := ?_) #[true, true, true, false, false, true, false, true, false, false, false, false] rfl rfl (take_ofW HT_.out HW_.out (by kernel_rfl)) (fun _ _ _ h => h) (Or.inl ⟨by rfl, ?_⟩) hHeld ?_ ?_
                                  rotate_left
                                  · rintro w' ⟨s0, s1, s2, s3, s4, s5, s6, s7, s8, s9, s10, s11, s12, s13, s14, s15, s16, s17, s18, s19⟩
                                    go_simp
                                    with_reducible rfl
                                  rotate_left
                                  · simp only [Act.put, List.setIfInBounds_toArray, List.set_cons_zero, List.set_cons_succ, i64_w, i32_w]
                                    rfl
                                  refine pure_ (i := 3) (N := some 76) (v := ?_) (a' := ?_) #[true, true, true, true, false, true, false, true, false, false, false, false] rfl rfl (any_of HT_.out (by kernel_rfl)) (fun _ _ _ h => h) (Or.inl ⟨by rfl, ?_⟩) ?_ ?_
                                  rotate_left
                                  · intro w'
                                    go_simp
                                    with_reducible rfl
                                  rotate_left
                                  · simp only [Act.put, List.setIfInBounds_toArray, List.set_cons_zero, List.set_cons_succ, i64_w, i32_w]
                                    rfl
                                  refine take_ (i := 4) (N := some 77) (v := ?_) (a' := ?_) #[true, true, true, true, true, true, false, true, false, false, false, false] rfl rfl (take_ofW HT_.out HW_.out (by kernel_rfl)) (fun _ _ _ h => h) (Or.inl ⟨by rfl, ?_⟩) hHeld ?_ ?_
                                  rotate_left
                                  · rintro w' ⟨s0, s1, s2, s3, s4, s5, s6, s7, s8, s9, s10, s11, s12, s13, s14, s15, s16, s17, s18, s19⟩
                                    go_simp
                                    with_reducible rfl
                                  rotate_left
                                  · simp only [Act.put, List.setIfInBounds_toArray, List.set_cons_zero, List.set_cons_succ, i64_w, i32_w]
                                    rfl
                                  refine take_ (i := 6) (N := some 79) (v := ?_) (a' := ?_) #[true, true, true, true, true, true, true, true, false, false, false, false] rfl rfl (take_ofW HT_.out HW_.out (by kernel_rfl)) (fun _ _ _ h => h) (Or.inl ⟨by rfl, ?_⟩) hHeld ?_ ?_
                                  rotate_left
                                  · rintro w' ⟨s0, s1, s2, s3, s4, s5, s6, s7, s8, s9, s10, s11, s12, s13, s14, s15, s16, s17, s18, s19⟩
                                    go_simp
                                    with_reducible rfl
                                  rotate_left
                                  · simp only [Act.put, List.setIfInBounds_toArray, List.set_cons_zero, List.set_cons_succ, i64_w, i32_w]
                                    rfl
                                  refine pure_ (i := 8) (N := some 81) (v := ?_) (a' := ?_) #[true, true, true, true, true, true, true, true, true, false, false, false] rfl rfl (any_of HT_.out (by kernel_rfl)) (fun _ _ _ h => h) (Or.inl ⟨by rfl, ?_⟩) ?_ ?_
                                  rotate_left
                                  · intro w'
                                    go_simp
                                    with_reducible rfl
                                  rotate_left
                                  · simp only [Act.put, List.setIfInBounds_toArray, List.set_cons_zero, List.set_cons_succ, i64_w, i32_w]
                                    rfl
                                  refine take_ (i := 9) (N := some 82) (v := ?_) (a' := ?_) #[true, true, true, true, true, true, true, true, true, true, false, false] rfl rfl (take_ofW HT_.out HW_.out (by kernel_rfl)) (fun _ _ _ h => h) (Or.inl ⟨by rfl, ?_⟩) hHeld ?_ ?_
                                  rotate_left
                                  · rintro w' ⟨s0, s1, s2, s3, s4, s5, s6, s7, s8, s9, s10, s11, s12, s13, s14, s15, s16, s17, s18, s19⟩
                                    go_simp
                                    with_reducible rfl
                                  rotate_left
                                  · simp only [Act.put, List.setIfInBounds_toArray, List.set_cons_zero, List.set_cons_succ, i64_w, i32_w]
                                    rfl
                                  refine one_ (i := 10) (N := some 83) #[true, true, true, true, true, true, true, true, true, true, true, false] rfl rfl (one_of HT_.out (by kernel_rfl)) (by decide) (fun K hK => ?_)
                                  refine goes_ Tryd.func84 (by kernel_rfl) rfl #[.agg #[.int .i64 ((rd_T25 l0_4 x5_2).f0), .int .i64 ((rd_T25 l0_4 x5_2).f1), .string ((rd_T25 l0_4 x5_2).f2), .slice A234_3 ((rd_T25 l0_4 x5_2).f3).length c234_3, .slice A234_4 ((rd_T25 l0_4 x5_2).f4).length c234_4], .agg #[.int .i64 ((rd_T25 l1_4 x5_2).f0), .int .i64 ((rd_T25 l1_4 x5_2).f1), .string ((rd_T25 l1_4 x5_2).f2), .slice A235_3 ((rd_T25 l1_4 x5_2).f3).length c235_3, .slice A235_4 ((rd_T25 l1_4 x5_2).f4).length c235_4]] (by rfl) rfl rfl (by (try simp only [List.map_toArray, List.map_cons, List.map_nil]); first | done | rfl | (simp only [List.length_drop, List.length_take]; rfl)) ?_
                                  with_reducible refine (ih kj36 (by have := HJ28.out; have := HK2.out; have := HJ36.out; omega) ((rd_T25 l0_4 x5_2).f0) ((rd_T25 l0_4 x5_2).f1) ((rd_T25 l0_4 x5_2).f2) _ _ ((rd_T25 l0_4 x5_2).f3) _ _ ((rd_T25 l0_4 x5_2).f4) ((rd_T25 l1_4 x5_2).f0) ((rd_T25 l1_4 x5_2).f1) ((rd_T25 l1_4 x5_2).f2) _ _ ((rd_T25 l1_4 x5_2).f3) _ _ ((rd_T25 l1_4 x5_2).f4) t236 _ ?side1 ?side2 ?side3 ?side4 ?side5 ?side6 ?side7 ?side8 A71.out).mono ?_
                                  (case side1 => repeat (first | exact (Kd.C_below HR234_3.out HB.out) | (with_reducible refine Kd.C_alloc ?_ _) | (with_reducible refine Kd.C_drewN ?_ _) | (with_reducible refine Kd.C_drew ?_)))
                                  (case side2 => exact HC234_3.out)
                                  (case side3 => repeat (first | exact (Kd.C_below HR234_4.out HB.out) | (with_reducible refine Kd.C_alloc ?_ _) | (with_reducible refine Kd.C_drewN ?_ _) | (with_reducible refine Kd.C_drew ?_)))
                                  (case side4 => exact HC234_4.out)
                                  (case side5 => repeat (first | exact (Kd.C_below HR235_3.out HB.out) | (with_reducible refine Kd.C_alloc ?_ _) | (with_reducible refine Kd.C_drewN ?_ _) | (with_reducible refine Kd.C_drew ?_)))
                                  (case side6 => exact HC235_3.out)
                                  (case side7 => repeat (first | exact (Kd.C_below HR235_4.out HB.out) | (with_reducible refine Kd.C_alloc ?_ _) | (with_reducible refine Kd.C_drewN ?_ _) | (with_reducible refine Kd.C_drew ?_)))
                                  (case side8 => exact HC235_4.out)
                                  rintro e w76 ⟨rfl, hb⟩
                                  refine ⟨_, rfl, ?_⟩
                                  have n0_ := Aside0.mk (blk_below (g := gb223) (o := .cells #[.int .i64 a0_0, .int .i64 a0_1, .string a0_2, .slice A0_3 l0_3.length c0_3, .slice (some ad234) l0_4.length c0_4] 25 (0, 0)) (by (with_reducible repeat (first | refine blk_drewN ?_ _ | refine blk_drew ?_ | refine blk_alloc ?_ _)); exact BK223.out) hb)
                                  have n1_ := Aside0.mk (blk_below (g := gb224) (o := .cells #[.int .i64 a1_0, .int .i64 a1_1, .string a1_2, .slice A1_3 l1_3.length c1_3, .slice (some ad235) l1_4.length c1_4] 25 (0, 0)) (by (with_reducible repeat (first | refine blk_drewN ?_ _ | refine blk_drew ?_ | refine blk_alloc ?_ _)); exact BK224.out) hb)
                                  have n2_ := Aside0.mk (below_step (by repeat (first | (with_reducible first | exact HB.out | apply below_alloc | apply pw_below_drewN | apply below_drew1 | refine below_set ?_ GE223.out | refine below_set ?_ GE224.out) | exact HB.out)) hb)
                                  clear BK223
                                  clear BK224
                                  clear HB
                                  have BK223 := n0_
                                  have BK224 := n1_
                                  have HB := n2_
                                  clear n0_ n1_ n2_
                                  (try clear hb)
                                  (try clear hb2)
                                  (try clear hk)
                                  (try clear hi)
                                  refine hK.out _ _ ⟨(blk_cell BK223.out 0).trans rfl, (blk_cell BK223.out 1).trans rfl, (blk_cell BK223.out 2).trans rfl, (blk_cell BK223.out 3).trans rfl, (blk_cell BK223.out 4).trans rfl, (blk_cell BK224.out 0).trans rfl, (blk_cell BK224.out 1).trans rfl, (blk_cell BK224.out 2).trans rfl, (blk_cell BK224.out 3).trans rfl, (blk_cell BK224.out 4).trans rfl, ((HB.out.cell (World.block_lt_of_cell? w _ hw234_0)).trans hw234_0), ((HB.out.cell (World.block_lt_of_cell? w _ hw234_1)).trans hw234_1), ((HB.out.cell (World.block_lt_of_cell? w _ hw234_2)).trans hw234_2), ((HB.out.cell (World.block_lt_of_cell? w _ hw234_3)).trans hw234_3), ((HB.out.cell (World.block_lt_of_cell? w _ hw234_4)).trans hw234_4), ((HB.out.cell (World.block_lt_of_cell? w _ hw235_0)).trans hw235_0), ((HB.out.cell (World.block_lt_of_cell? w _ hw235_1)).trans hw235_1), ((HB.out.cell (World.block_lt_of_cell? w _ hw235_2)).trans hw235_2), ((HB.out.cell (World.block_lt_of_cell? w _ hw235_3)).trans hw235_3), ((HB.out.cell (World.block_lt_of_cell? w _ hw235_4)).trans hw235_4)⟩ (fun hHeld => ?_)
                                  clear hK K
                                  refine norm_ (a' := ?_) ?_ ?_
                                  rotate_left
                                  · show Act.put _ (some 83) _ = _
                                    simp only [Act.put, List.setIfInBounds_toArray, List.set_cons_zero, List.set_cons_succ, i64_w, i32_w]
                                    rfl
                                  refine pure_ (i := 11) (N := some 7) (v := ?_) (a' := ?_) #[true, true, true, true, true, true, true, true, true, true, true, true] rfl rfl (any_of HT_.out (by kernel_rfl)) (fun _ _ _ h => h) (Or.inl ⟨by rfl, ?_⟩) ?_ ?_
                                  rotate_left
                                  · intro w'
                                    go_simp
                                    with_reducible rfl
                                  rotate_left
                                  · simp only [Act.put, List.setIfInBounds_toArray, List.set_cons_zero, List.set_cons_succ, i64_w, i32_w]
                                    rfl
                                  refine done_ (done_of HT_.out (by kernel_rfl)) ?_
                                  try go_wp2
                                  go_roundg kj36
                                  case measure => have := HJ28.out; have := HK2.out; have := HJ36.out; omega
                                  case rel => exact ⟨(wrap64 (x5_2 + 1)), (by first | rfl | (simp; done) | (simp [*]; done)), H', ⟨by have := HJ28.out; have := HK2.out; have := HJ36.out; omega⟩, ⟨by (with_reducible repeat (first | refine blk_drewN ?_ _ | refine blk_drew ?_ | refine blk_alloc ?_ _)); exact BK223.out⟩, ⟨by (with_reducible repeat (first | refine blk_drewN ?_ _ | refine blk_drew ?_ | refine blk_alloc ?_ _)); exact BK224.out⟩, ⟨by repeat (first | (with_reducible first | exact HB.out | apply below_alloc | apply pw_below_drewN | apply below_drew1 | refine below_set ?_ GE223.out | refine below_set ?_ GE224.out) | exact HB.out)⟩⟩
                                · rw [if_neg c72] at H
                                  have c72b0 : (t236 == 0) = false := beq_eq_false_iff_ne.mpr c72
                                  have c72b1 : (t236 != 0) = true := bne_iff_ne.mpr c72
                                  obtain rfl := Option.some.inj H
                                  have hnb77 := NB223_224.out
                                  have hnc77 := NB224_223.out
                                  have hcz78_0 : wc.cell? ⟨gb223, 0, none⟩ = some (.int .i64 a0_0) := (blk_cell BK223.out 0).trans rfl
                                  have hcz78_1 : wc.cell? ⟨gb223, 1, none⟩ = some (.int .i64 a0_1) := (blk_cell BK223.out 1).trans rfl
                                  have hcz78_2 : wc.cell? ⟨gb223, 2, none⟩ = some (.string a0_2) := (blk_cell BK223.out 2).trans rfl
                                  have hcz78_3 : wc.cell? ⟨gb223, 3, none⟩ = some (.slice A0_3 l0_3.length c0_3) := (blk_cell BK223.out 3).trans rfl
                                  have hcz78_4 : wc.cell? ⟨gb223, 4, none⟩ = some (.slice A0_4 l0_4.length c0_4) := (blk_cell BK223.out 4).trans rfl
                                  have hfz78_0 := blk_frozen BK223.out 0
                                  have hfz78_1 := blk_frozen BK223.out 1
                                  have hfz78_2 := blk_frozen BK223.out 2
                                  have hfz78_3 := blk_frozen BK223.out 3
                                  have hfz78_4 := blk_frozen BK223.out 4
                                  try go_wp2
                                  have n0_ := Aside0.mk (blk_drew BK223.out)
                                  have n1_ := Aside0.mk (blk_drew BK224.out)
                                  have n2_ := Aside0.mk (below_drew1 HB.out)
                                  clear BK223
                                  clear BK224
                                  clear HB
                                  have BK223 := n0_
                                  have BK224 := n1_
                                  have HB := n2_
                                  clear n0_ n1_ n2_
                                  have p234 : 0 ≤ (x5_2 : Int) := of_decide_eq_true (by first | (with_reducible assumption) | assumption)
                                  have q234 : x5_2 < (l0_4.length : Int) := of_decide_eq_true (by first | (with_reducible assumption) | assumption)
                                  obtain ⟨ad234, A234_3, c234_3, A234_4, c234_4, e234, hx234_0, hx234_1, hx234_2, hx234_3, hx234_4, hl234_3, hi234_3, hl234_4, hi234_4⟩ := at_T25 HR0_4.out x5_2 p234 q234
                                  have hw234_4 := hx234_4
                                  have hw234_3 := hx234_3
                                  have hw234_2 := hx234_2
                                  have hw234_1 := hx234_1
                                  have hw234_0 := hx234_0
                                  cases e234
                                  replace hx234_0 := (HB.out.cell (World.block_lt_of_cell? w _ hx234_0)).trans hx234_0
                                  replace hx234_1 := (HB.out.cell (World.block_lt_of_cell? w _ hx234_1)).trans hx234_1
                                  replace hx234_2 := (HB.out.cell (World.block_lt_of_cell? w _ hx234_2)).trans hx234_2
                                  replace hx234_3 := (HB.out.cell (World.block_lt_of_cell? w _ hx234_3)).trans hx234_3
                                  replace hx234_4 := (HB.out.cell (World.block_lt_of_cell? w _ hx234_4)).trans hx234_4
                                  have HR234_3 := Aside0.mk hi234_3
                                  have HC234_3 := Aside0.mk hl234_3
                                  clear hi234_3 hl234_3
                                  have HR234_4 := Aside0.mk hi234_4
                                  have HC234_4 := Aside0.mk hl234_4
                                  clear hi234_4 hl234_4
                                  replace p234 := eq_true p234
                                  replace q234 := eq_true q234
                                  have p235 : 0 ≤ (x5_2 : Int) := of_decide_eq_true (by first | (with_reducible assumption) | assumption)
                                  have q235 : x5_2 < (l1_4.length : Int) := of_decide_eq_true (by first | (with_reducible assumption) | assumption)
                                  obtain ⟨ad235, A235_3, c235_3, A235_4, c235_4, e235, hx235_0, hx235_1, hx235_2, hx235_3, hx235_4, hl235_3, hi235_3, hl235_4, hi235_4⟩ := at_T25 HR1_4.out x5_2 p235 q235
                                  have hw235_4 := hx235_4
                                  have hw235_3 := hx235_3
                                  have hw235_2 := hx235_2
                                  have hw235_1 := hx235_1
                                  have hw235_0 := hx235_0
                                  cases e235
                                  replace hx235_0 := (HB.out.cell (World.block_lt_of_cell? w _ hx235_0)).trans hx235_0
                                  replace hx235_1 := (HB.out.cell (World.block_lt_of_cell? w _ hx235_1)).trans hx235_1
                                  replace hx235_2 := (HB.out.cell (World.block_lt_of_cell? w _ hx235_2)).trans hx235_2
                                  replace hx235_3 := (HB.out.cell (World.block_lt_of_cell? w _ hx235_3)).trans hx235_3
                                  replace hx235_4 := (HB.out.cell (World.block_lt_of_cell? w _ hx235_4)).trans hx235_4
                                  have HR235_3 := Aside0.mk hi235_3
                                  have HC235_3 := Aside0.mk hl235_3
                                  clear hi235_3 hl235_3
                                  have HR235_4 := Aside0.mk hi235_4
                                  have HC235_4 := Aside0.mk hl235_4
                                  clear hi235_4 hl235_4
                                  replace p235 := eq_true p235
                                  replace q235 := eq_true q235
                                  refine start_ (n := 12) (S := fun w' => w'.cell? ⟨gb223, 0, none⟩ = some (.int .i64 a0_0) ∧ w'.cell? ⟨gb223, 1, none⟩ = some (.int .i64 a0_1) ∧ w'.cell? ⟨gb223, 2, none⟩ = some (.string a0_2) ∧ w'.cell? ⟨gb223, 3, none⟩ = some (.slice A0_3 l0_3.length c0_3) ∧ w'.cell? ⟨gb223, 4, none⟩ = some (.slice (some ad234) l0_4.length c0_4) ∧ w'.cell? ⟨gb224, 0, none⟩ = some (.int .i64 a1_0) ∧ w'.cell? ⟨gb224, 1, none⟩ = some (.int .i64 a1_1) ∧ w'.cell? ⟨gb224, 2, none⟩ = some (.string a1_2) ∧ w'.cell? ⟨gb224, 3, none⟩ = some (.slice A1_3 l1_3.length c1_3) ∧ w'.cell? ⟨gb224, 4, none⟩ = some (.slice (some ad235) l1_4.length c1_4) ∧ w'.cell? (ad234.add ((x5_2).toNat * 5)) = some (.int .i64 ((rd_T25 l0_4 x5_2).f0)) ∧ w'.cell? ⟨(ad234.add ((x5_2).toNat * 5)).block, (ad234.add ((x5_2).toNat * 5)).off + 1, none⟩ = some (.int .i64 ((rd_T25 l0_4 x5_2).f1)) ∧ w'.cell? ⟨(ad234.add ((x5_2).toNat * 5)).block, (ad234.add ((x5_2).toNat * 5)).off + 2, none⟩ = some (.string ((rd_T25 l0_4 x5_2).f2)) ∧ w'.cell? ⟨(ad234.add ((x5_2).toNat * 5)).block, (ad234.add ((x5_2).toNat * 5)).off + 3, none⟩ = some (.slice A234_3 ((rd_T25 l0_4 x5_2).f3).length c234_3) ∧ w'.cell? ⟨(ad234.add ((x5_2).toNat * 5)).block, (ad234.add ((x5_2).toNat * 5)).off + 4, none⟩ = some (.slice A234_4 ((rd_T25 l0_4 x5_2).f4).length c234_4) ∧ w'.cell? (ad235.add ((x5_2).toNat * 5)) = some (.int .i64 ((rd_T25 l1_4 x5_2).f0)) ∧ w'.cell? ⟨(ad235.add ((x5_2).toNat * 5)).block, (ad235.add ((x5_2).toNat * 5)).off + 1, none⟩ = some (.int .i64 ((rd_T25 l1_4 x5_2).f1)) ∧ w'.cell? ⟨(ad235.add ((x5_2).toNat * 5)).block, (ad235.add ((x5_2).toNat * 5)).off + 2, none⟩ = some (.string ((rd_T25 l1_4 x5_2).f2)) ∧ w'.cell? ⟨(ad235.add ((x5_2).toNat * 5)).block, (ad235.add ((x5_2).toNat * 5)).off + 3, none⟩ = some (.slice A235_3 ((rd_T25 l1_4 x5_2).f3).length c235_3) ∧ w'.cell? ⟨(ad235.add ((x5_2).toNat * 5)).block, (ad235.add ((x5_2).toNat * 5)).off + 4, none⟩ = some (.slice A235_4 ((rd_T25 l1_4 x5_2).f4).length c235_4)) (ds := []) #[false, false, false, false, false, false, false, false, false, false, false, false] (by kernel_rfl) rfl rfl ⟨(blk_cell BK223.out 0).trans rfl, (blk_cell BK223.out 1).trans rfl, (blk_cell BK223.out 2).trans rfl, (blk_cell BK223.out 3).trans rfl, (blk_cell BK223.out 4).trans rfl, (blk_cell BK224.out 0).trans rfl, (blk_cell BK224.out 1).trans rfl, (blk_cell BK224.out 2).trans rfl, (blk_cell BK224.out 3).trans rfl, (blk_cell BK224.out 4).trans rfl, ((HB.out.cell (World.block_lt_of_cell? w _ hw234_0)).trans hw234_0), ((HB.out.cell (World.block_lt_of_cell? w _ hw234_1)).trans hw234_1), ((HB.out.cell (World.block_lt_of_cell? w _ hw234_2)).trans hw234_2), ((HB.out.cell (World.block_lt_of_cell? w _ hw234_3)).trans hw234_3), ((HB.out.cell (World.block_lt_of_cell? w _ hw234_4)).trans hw234_4), ((HB.out.cell (World.block_lt_of_cell? w _ hw235_0)).trans hw235_0), ((HB.out.cell (World.block_lt_of_cell? w _ hw235_1)).trans hw235_1), ((HB.out.cell (World.block_lt_of_cell? w _ hw235_2)).trans hw235_2), ((HB.out.cell (World.block_lt_of_cell? w _ hw235_3)).trans hw235_3), ((HB.out.cell (World.block_lt_of_cell? w _ hw235_4)).trans hw235_4)⟩ (fun hHeld => ?_); refine with_tabW munimentref03_Plain.tab21 munimentref03_Plain.bits21 (fun HT_ HW_ => ?_)
                                  generalize wc.drew = w79 at BK223 BK224 HB HR234_3 HR234_4 HR235_3 HR235_4 hx234_0 hx234_1 hx234_2 hx234_3 hx234_4 hx235_0 hx235_1 hx235_2 hx235_3 hx235_4 hHeld ⊢
                                  refine pure_ (i := 0) (N := some 73) (v := ?_) (a' := ?_) #[true, false, false, false, false, false, false, false, false, false, false, false] rfl rfl (any_of HT_.out (by kernel_rfl)) (fun _ _ _ h => h) (Or.inl ⟨by rfl, ?_⟩) ?_ ?_
                                  rotate_left
                                  · intro w'
                                    go_simp
                                    with_reducible rfl
                                  rotate_left
                                  · simp only [Act.put, List.setIfInBounds_toArray, List.set_cons_zero, List.set_cons_succ, i64_w, i32_w]
                                    rfl
                                  refine pure_ (i := 2) (N := some 75) (v := ?_) (a' := ?_) #[true, false, true, false, false, false, false, false, false, false, false, false] rfl rfl (any_of HT_.out (by kernel_rfl)) (fun _ _ _ h => h) (Or.inl ⟨by rfl, ?_⟩) ?_ ?_
                                  rotate_left
                                  · intro w'
                                    go_simp
                                    with_reducible rfl
                                  rotate_left
                                  · simp only [Act.put, List.setIfInBounds_toArray, List.set_cons_zero, List.set_cons_succ, i64_w, i32_w]
                                    rfl
                                  refine pure_ (i := 5) (N := some 78) (v := ?_) (a' := ?_) #[true, false, true, false, false, true, false, false, false, false, false, false] rfl rfl (any_of HT_.out (by kernel_rfl)) (fun _ _ _ h => h) (Or.inl ⟨by rfl, ?_⟩) ?_ ?_
                                  rotate_left
                                  · intro w'
                                    go_simp
                                    with_reducible rfl
                                  rotate_left
                                  · simp only [Act.put, List.setIfInBounds_toArray, List.set_cons_zero, List.set_cons_succ, i64_w, i32_w]
                                    rfl
                                  refine pure_ (i := 7) (N := some 80) (v := ?_) (a' := ?_) #[true, false, true, false, false, true, false, true, false, false, false, false] rfl rfl (any_of HT_.out (by kernel_rfl)) (fun _ _ _ h => h) (Or.inl ⟨by rfl, ?_⟩) ?_ ?_
                                  rotate_left
                                  · intro w'
                                    go_simp
                                    with_reducible rfl
                                  rotate_left
                                  · simp only [Act.put, List.setIfInBounds_toArray, List.set_cons_zero, List.set_cons_succ, i64_w, i32_w]
                                    rfl
                                  refine take_ (i := 1) (N := some 74) (v := ?_) (a' := ?_) #[true, true, true, false, false, true, false, true, false, false, false, false] rfl rfl (take_ofW HT_.out HW_.out (by kernel_rfl)) (fun _ _ _ h => h) (Or.inl ⟨by rfl, ?_⟩) hHeld ?_ ?_
                                  rotate_left
                                  · rintro w' ⟨s0, s1, s2, s3, s4, s5, s6, s7, s8, s9, s10, s11, s12, s13, s14, s15, s16, s17, s18, s19⟩
                                    go_simp
                                    with_reducible rfl
                                  rotate_left
                                  · simp only [Act.put, List.setIfInBounds_toArray, List.set_cons_zero, List.set_cons_succ, i64_w, i32_w]
                                    rfl
                                  refine pure_ (i := 3) (N := some 76) (v := ?_) (a' := ?_) #[true, true, true, true, false, true, false, true, false, false, false, false] rfl rfl (any_of HT_.out (by kernel_rfl)) (fun _ _ _ h => h) (Or.inl ⟨by rfl, ?_⟩) ?_ ?_
                                  rotate_left
                                  · intro w'
                                    go_simp
                                    with_reducible rfl
                                  rotate_left
                                  · simp only [Act.put, List.setIfInBounds_toArray, List.set_cons_zero, List.set_cons_succ, i64_w, i32_w]
                                    rfl
                                  refine take_ (i := 4) (N := some 77) (v := ?_) (a' := ?_) #[true, true, true, true, true, true, false, true, false, false, false, false] rfl rfl (take_ofW HT_.out HW_.out (by kernel_rfl)) (fun _ _ _ h => h) (Or.inl ⟨by rfl, ?_⟩) hHeld ?_ ?_
                                  rotate_left
                                  · rintro w' ⟨s0, s1, s2, s3, s4, s5, s6, s7, s8, s9, s10, s11, s12, s13, s14, s15, s16, s17, s18, s19⟩
                                    go_simp
                                    with_reducible rfl
                                  rotate_left
                                  · simp only [Act.put, List.setIfInBounds_toArray, List.set_cons_zero, List.set_cons_succ, i64_w, i32_w]
                                    rfl
                                  refine take_ (i := 6) (N := some 79) (v := ?_) (a' := ?_) #[true, true, true, true, true, true, true, true, false, false, false, false] rfl rfl (take_ofW HT_.out HW_.out (by kernel_rfl)) (fun _ _ _ h => h) (Or.inl ⟨by rfl, ?_⟩) hHeld ?_ ?_
                                  rotate_left
                                  · rintro w' ⟨s0, s1, s2, s3, s4, s5, s6, s7, s8, s9, s10, s11, s12, s13, s14, s15, s16, s17, s18, s19⟩
                                    go_simp
                                    with_reducible rfl
                                  rotate_left
                                  · simp only [Act.put, List.setIfInBounds_toArray, List.set_cons_zero, List.set_cons_succ, i64_w, i32_w]
                                    rfl
                                  refine pure_ (i := 8) (N := some 81) (v := ?_) (a' := ?_) #[true, true, true, true, true, true, true, true, true, false, false, false] rfl rfl (any_of HT_.out (by kernel_rfl)) (fun _ _ _ h => h) (Or.inl ⟨by rfl, ?_⟩) ?_ ?_
                                  rotate_left
                                  · intro w'
                                    go_simp
                                    with_reducible rfl
                                  rotate_left
                                  · simp only [Act.put, List.setIfInBounds_toArray, List.set_cons_zero, List.set_cons_succ, i64_w, i32_w]
                                    rfl
                                  refine take_ (i := 9) (N := some 82) (v := ?_) (a' := ?_) #[true, true, true, true, true, true, true, true, true, true, false, false] rfl rfl (take_ofW HT_.out HW_.out (by kernel_rfl)) (fun _ _ _ h => h) (Or.inl ⟨by rfl, ?_⟩) hHeld ?_ ?_
                                  rotate_left
                                  · rintro w' ⟨s0, s1, s2, s3, s4, s5, s6, s7, s8, s9, s10, s11, s12, s13, s14, s15, s16, s17, s18, s19⟩
                                    go_simp
                                    with_reducible rfl
                                  rotate_left
                                  · simp only [Act.put, List.setIfInBounds_toArray, List.set_cons_zero, List.set_cons_succ, i64_w, i32_w]
                                    rfl
                                  refine one_ (i := 10) (N := some 83) #[true, true, true, true, true, true, true, true, true, true, true, false] rfl rfl (one_of HT_.out (by kernel_rfl)) (by decide) (fun K hK => ?_)
                                  refine goes_ Tryd.func84 (by kernel_rfl) rfl #[.agg #[.int .i64 ((rd_T25 l0_4 x5_2).f0), .int .i64 ((rd_T25 l0_4 x5_2).f1), .string ((rd_T25 l0_4 x5_2).f2), .slice A234_3 ((rd_T25 l0_4 x5_2).f3).length c234_3, .slice A234_4 ((rd_T25 l0_4 x5_2).f4).length c234_4], .agg #[.int .i64 ((rd_T25 l1_4 x5_2).f0), .int .i64 ((rd_T25 l1_4 x5_2).f1), .string ((rd_T25 l1_4 x5_2).f2), .slice A235_3 ((rd_T25 l1_4 x5_2).f3).length c235_3, .slice A235_4 ((rd_T25 l1_4 x5_2).f4).length c235_4]] (by rfl) rfl rfl (by (try simp only [List.map_toArray, List.map_cons, List.map_nil]); first | done | rfl | (simp only [List.length_drop, List.length_take]; rfl)) ?_
                                  with_reducible refine (ih kj36 (by have := HJ28.out; have := HK2.out; have := HJ36.out; omega) ((rd_T25 l0_4 x5_2).f0) ((rd_T25 l0_4 x5_2).f1) ((rd_T25 l0_4 x5_2).f2) _ _ ((rd_T25 l0_4 x5_2).f3) _ _ ((rd_T25 l0_4 x5_2).f4) ((rd_T25 l1_4 x5_2).f0) ((rd_T25 l1_4 x5_2).f1) ((rd_T25 l1_4 x5_2).f2) _ _ ((rd_T25 l1_4 x5_2).f3) _ _ ((rd_T25 l1_4 x5_2).f4) t236 _ ?side1 ?side2 ?side3 ?side4 ?side5 ?side6 ?side7 ?side8 A71.out).mono ?_
                                  (case side1 => repeat (first | exact (Kd.C_below HR234_3.out HB.out) | (with_reducible refine Kd.C_alloc ?_ _) | (with_reducible refine Kd.C_drewN ?_ _) | (with_reducible refine Kd.C_drew ?_)))
                                  (case side2 => exact HC234_3.out)
                                  (case side3 => repeat (first | exact (Kd.C_below HR234_4.out HB.out) | (with_reducible refine Kd.C_alloc ?_ _) | (with_reducible refine Kd.C_drewN ?_ _) | (with_reducible refine Kd.C_drew ?_)))
                                  (case side4 => exact HC234_4.out)
                                  (case side5 => repeat (first | exact (Kd.C_below HR235_3.out HB.out) | (with_reducible refine Kd.C_alloc ?_ _) | (with_reducible refine Kd.C_drewN ?_ _) | (with_reducible refine Kd.C_drew ?_)))
                                  (case side6 => exact HC235_3.out)
                                  (case side7 => repeat (first | exact (Kd.C_below HR235_4.out HB.out) | (with_reducible refine Kd.C_alloc ?_ _) | (with_reducible refine Kd.C_drewN ?_ _) | (with_reducible refine Kd.C_drew ?_)))
                                  (case side8 => exact HC235_4.out)
                                  rintro e w80 ⟨rfl, hb⟩
                                  refine ⟨_, rfl, ?_⟩
                                  have n0_ := Aside0.mk (blk_below (g := gb223) (o := .cells #[.int .i64 a0_0, .int .i64 a0_1, .string a0_2, .slice A0_3 l0_3.length c0_3, .slice (some ad234) l0_4.length c0_4] 25 (0, 0)) (by (with_reducible repeat (first | refine blk_drewN ?_ _ | refine blk_drew ?_ | refine blk_alloc ?_ _)); exact BK223.out) hb)
                                  have n1_ := Aside0.mk (blk_below (g := gb224) (o := .cells #[.int .i64 a1_0, .int .i64 a1_1, .string a1_2, .slice A1_3 l1_3.length c1_3, .slice (some ad235) l1_4.length c1_4] 25 (0, 0)) (by (with_reducible repeat (first | refine blk_drewN ?_ _ | refine blk_drew ?_ | refine blk_alloc ?_ _)); exact BK224.out) hb)
                                  have n2_ := Aside0.mk (below_step (by repeat (first | (with_reducible first | exact HB.out | apply below_alloc | apply pw_below_drewN | apply below_drew1 | refine below_set ?_ GE223.out | refine below_set ?_ GE224.out) | exact HB.out)) hb)
                                  clear BK223
                                  clear BK224
                                  clear HB
                                  have BK223 := n0_
                                  have BK224 := n1_
                                  have HB := n2_
                                  clear n0_ n1_ n2_
                                  (try clear hb)
                                  (try clear hb2)
                                  (try clear hk)
                                  (try clear hi)
                                  refine hK.out _ _ ⟨(blk_cell BK223.out 0).trans rfl, (blk_cell BK223.out 1).trans rfl, (blk_cell BK223.out 2).trans rfl, (blk_cell BK223.out 3).trans rfl, (blk_cell BK223.out 4).trans rfl, (blk_cell BK224.out 0).trans rfl, (blk_cell BK224.out 1).trans rfl, (blk_cell BK224.out 2).trans rfl, (blk_cell BK224.out 3).trans rfl, (blk_cell BK224.out 4).trans rfl, ((HB.out.cell (World.block_lt_of_cell? w _ hw234_0)).trans hw234_0), ((HB.out.cell (World.block_lt_of_cell? w _ hw234_1)).trans hw234_1), ((HB.out.cell (World.block_lt_of_cell? w _ hw234_2)).trans hw234_2), ((HB.out.cell (World.block_lt_of_cell? w _ hw234_3)).trans hw234_3), ((HB.out.cell (World.block_lt_of_cell? w _ hw234_4)).trans hw234_4), ((HB.out.cell (World.block_lt_of_cell? w _ hw235_0)).trans hw235_0), ((HB.out.cell (World.block_lt_of_cell? w _ hw235_1)).trans hw235_1), ((HB.out.cell (World.block_lt_of_cell? w _ hw235_2)).trans hw235_2), ((HB.out.cell (World.block_lt_of_cell? w _ hw235_3)).trans hw235_3), ((HB.out.cell (World.block_lt_of_cell? w _ hw235_4)).trans hw235_4)⟩ (fun hHeld => ?_)
                                  clear hK K
                                  refine norm_ (a' := ?_) ?_ ?_
                                  rotate_left
                                  · show Act.put _ (some 83) _ = _
                                    simp only [Act.put, List.setIfInBounds_toArray, List.set_cons_zero, List.set_cons_succ, i64_w, i32_w]
                                    rfl
                                  refine pure_ (i := 11) (N := some 7) (v := ?_) (a' := ?_) #[true, true, true, true, true, true, true, true, true, true, true, true] rfl rfl (any_of HT_.out (by kernel_rfl)) (fun _ _ _ h => h) (Or.inl ⟨by rfl, ?_⟩) ?_ ?_
                                  rotate_left
                                  · intro w'
                                    go_simp
                                    with_reducible rfl
                                  rotate_left
                                  · simp only [Act.put, List.setIfInBounds_toArray, List.set_cons_zero, List.set_cons_succ, i64_w, i32_w]
                                    rfl
                                  refine done_ (done_of HT_.out (by kernel_rfl)) ?_
                                  try go_wp2
                                  go_ret
                                  exact ⟨by first | rfl | (simp [errW_none, errW_some] <;> rfl) | (simp [*, errW_none, errW_some] <;> rfl), by repeat (first | (with_reducible first | exact HB.out | apply below_alloc | apply pw_below_drewN | apply below_drew1 | refine below_set ?_ GE223.out | refine below_set ?_ GE224.out) | exact HB.out)⟩
                              · rw [if_neg c70] at H
                                exact absurd H (by simp)
                            · rw [if_neg c69] at H
                              exact absurd H (by simp)
                          · rw [if_neg c68] at H
                            exact absurd H (by simp)
                      · replace c44 := Bool.eq_false_iff.mpr c44
                        subst c44
                        have H1 : ((munimentref03_lengths.f (l0_4.length : Int) (l1_4.length : Int)).bind fun t227 => (some t227)) = some r := by rw [if_neg (show ¬ (false = true) by decide)] at H; exact H
                        clear H
                        have H := H1
                        clear H1
                        replace H := Option.bind_eq_some_iff.mp H
                        obtain ⟨t227, A810, H⟩ := H
                        replace H : (some t227) = some r := H
                        have A81 := Aside0.mk A810
                        clear A810
                        obtain rfl := Option.some.inj H
                        have hnb82 := NB223_224.out
                        have hnc82 := NB224_223.out
                        have hcz83_0 : wc.cell? ⟨gb223, 0, none⟩ = some (.int .i64 a0_0) := (blk_cell BK223.out 0).trans rfl
                        have hcz83_1 : wc.cell? ⟨gb223, 1, none⟩ = some (.int .i64 a0_1) := (blk_cell BK223.out 1).trans rfl
                        have hcz83_2 : wc.cell? ⟨gb223, 2, none⟩ = some (.string a0_2) := (blk_cell BK223.out 2).trans rfl
                        have hcz83_3 : wc.cell? ⟨gb223, 3, none⟩ = some (.slice A0_3 l0_3.length c0_3) := (blk_cell BK223.out 3).trans rfl
                        have hcz83_4 : wc.cell? ⟨gb223, 4, none⟩ = some (.slice A0_4 l0_4.length c0_4) := (blk_cell BK223.out 4).trans rfl
                        have hfz83_0 := blk_frozen BK223.out 0
                        have hfz83_1 := blk_frozen BK223.out 1
                        have hfz83_2 := blk_frozen BK223.out 2
                        have hfz83_3 := blk_frozen BK223.out 3
                        have hfz83_4 := blk_frozen BK223.out 4
                        have hcz84_0 : wc.cell? ⟨gb224, 0, none⟩ = some (.int .i64 a1_0) := (blk_cell BK224.out 0).trans rfl
                        have hcz84_1 : wc.cell? ⟨gb224, 1, none⟩ = some (.int .i64 a1_1) := (blk_cell BK224.out 1).trans rfl
                        have hcz84_2 : wc.cell? ⟨gb224, 2, none⟩ = some (.string a1_2) := (blk_cell BK224.out 2).trans rfl
                        have hcz84_3 : wc.cell? ⟨gb224, 3, none⟩ = some (.slice A1_3 l1_3.length c1_3) := (blk_cell BK224.out 3).trans rfl
                        have hcz84_4 : wc.cell? ⟨gb224, 4, none⟩ = some (.slice A1_4 l1_4.length c1_4) := (blk_cell BK224.out 4).trans rfl
                        have hfz84_0 := blk_frozen BK224.out 0
                        have hfz84_1 := blk_frozen BK224.out 1
                        have hfz84_2 := blk_frozen BK224.out 2
                        have hfz84_3 := blk_frozen BK224.out 3
                        have hfz84_4 := blk_frozen BK224.out 4
                        go_wp2_with (first | ((with_reducible refine gate_callee (f := 127) rfl ?_); refine goesL_ (some 93) rfl rfl Tryd.func127 (by kernel_rfl) rfl #[.int .i64 (l0_4.length : Int), .int .i64 (l1_4.length : Int)] rfl (by (try simp only [List.map_toArray, List.map_cons, List.map_nil]); first | done | rfl | (simp only [List.length_drop, List.length_take]; rfl)) ?_; (with_reducible refine (munimentref03_lengths.calls (l0_4.length : Int) (l1_4.length : Int) t227 _ A81.out).mono ?_); rintro e w' ⟨rfl, ⟨nd, rfl⟩⟩; refine ⟨_, rfl, ?_⟩))
                        go_ret
                        exact ⟨by first | rfl | (simp [errW_none, errW_some] <;> rfl) | (simp [*, errW_none, errW_some] <;> rfl), by repeat (first | (with_reducible first | exact HB.out | apply below_alloc | apply pw_below_drewN | apply below_drew1 | refine below_set ?_ GE223.out | refine below_set ?_ GE224.out) | exact HB.out)⟩
            · replace c36 := Bool.eq_false_iff.mpr c36
              subst c36
              have H1 : (some 0) = some r := by rw [if_neg (show ¬ (false = true) by decide)] at H; exact H
              clear H
              have H := H1
              clear H1
              obtain rfl := Option.some.inj H
              go_wp2
              go_ret
              exact ⟨by first | rfl | (simp [errW_none, errW_some] <;> rfl) | (simp [*, errW_none, errW_some] <;> rfl), by repeat (first | (with_reducible first | exact HB.out | apply below_alloc | apply pw_below_drewN | apply below_drew1 | refine below_set ?_ GE223.out | refine below_set ?_ GE224.out) | exact HB.out)⟩
  · rw [if_neg c3] at H
    have c3b0 : (a0_0 == a1_0) = false := beq_eq_false_iff_ne.mpr c3
    have c3b1 : (a0_0 != a1_0) = true := bne_iff_ne.mpr c3
    replace H := Option.bind_eq_some_iff.mp H
    obtain ⟨t225, A850, H⟩ := H
    replace H : (some t225) = some r := H
    have A85 := Aside0.mk A850
    clear A850
    obtain rfl := Option.some.inj H
    go_enter Tryd.func84, Tryd.ntmps84
    go_wp2_with (first | ((with_reducible refine gate_dst (N := 2) rfl ?_); (try (refine gate_guard (by rfl) ?_; dsimp only)); refine box_event ?hg (N := 2) ?hd (cs := #[.int .i64 a0_0, .int .i64 a0_1, .string a0_2, .slice A0_3 l0_3.length c0_3, .slice A0_4 l0_4.length c0_4]) (t := 25) ?hr ?_; (case hd => rfl); (case hg => rfl); (case hr => first | (go_simp; done) | (go_simp; rfl)); intro gb223 hg w86 hbox hb; have n0_ := Aside0.mk (below_step (by repeat (first | (with_reducible first | exact HB.out | apply below_alloc | apply pw_below_drewN | apply below_drew1) | exact HB.out)) hb); have n1_ := Aside0.mk (hbox); have n2_ := Aside0.mk ((by rw [hg]; exact (below_size (by repeat (first | (with_reducible first | exact HB.out | apply below_alloc | apply pw_below_drewN | apply below_drew1) | exact HB.out))) : w.heap.size ≤ gb223)); have n3_ := Aside0.mk ((by rw [hg]; exact (below_size (by repeat (first | (with_reducible first | exact HB.out | apply below_alloc | apply pw_below_drewN | apply below_drew1) | exact HB.out))) : w.heap.size ≤ gb223)); clear HB; have HB := n0_; have BK223 := n1_; have GW223 := n2_; have GE223 := n3_; clear n0_ n1_ n2_ n3_; clear hb hbox hg) | ((with_reducible refine gate_dst (N := 3) rfl ?_); (try (refine gate_guard (by rfl) ?_; dsimp only)); refine box_event ?hg (N := 3) ?hd (cs := #[.int .i64 a1_0, .int .i64 a1_1, .string a1_2, .slice A1_3 l1_3.length c1_3, .slice A1_4 l1_4.length c1_4]) (t := 25) ?hr ?_; (case hd => rfl); (case hg => rfl); (case hr => first | (go_simp; done) | (go_simp; rfl)); intro gb224 hg w87 hbox hb; have n0_ := Aside0.mk (blk_below (g := gb223) (o := .cells #[.int .i64 a0_0, .int .i64 a0_1, .string a0_2, .slice A0_3 l0_3.length c0_3, .slice A0_4 l0_4.length c0_4] 25 (0, 0)) (by (with_reducible repeat (first | refine blk_drewN ?_ _ | refine blk_drew ?_ | refine blk_alloc ?_ _)); exact BK223.out) hb); have n1_ := Aside0.mk (below_step (by repeat (first | (with_reducible first | exact HB.out | apply below_alloc | apply pw_below_drewN | apply below_drew1 | refine below_set ?_ GE223.out) | exact HB.out)) hb); have n2_ := Aside0.mk (hbox); have n3_ := Aside0.mk ((by rw [hg]; exact (below_size (by repeat (first | (with_reducible first | exact HB.out | apply below_alloc | apply pw_below_drewN | apply below_drew1 | refine below_set ?_ GE223.out) | exact HB.out))) : w.heap.size ≤ gb224)); have n4_ := Aside0.mk ((by rw [hg]; exact (below_size (by repeat (first | (with_reducible first | exact HB.out | apply below_alloc | apply pw_below_drewN | apply below_drew1 | refine below_set ?_ GE223.out) | exact HB.out))) : w.heap.size ≤ gb224)); have n5_ := Aside0.mk ((by rw [hg]; exact Nat.ne_of_lt (blk_lt (g := gb223) (o := .cells #[.int .i64 a0_0, .int .i64 a0_1, .string a0_2, .slice A0_3 l0_3.length c0_3, .slice A0_4 l0_4.length c0_4] 25 (0, 0)) (by (with_reducible repeat (first | refine blk_drewN ?_ _ | refine blk_drew ?_ | refine blk_alloc ?_ _)); exact BK223.out)) : gb223 ≠ gb224)); have n6_ := Aside0.mk ((by rw [hg]; exact Nat.ne_of_gt (blk_lt (g := gb223) (o := .cells #[.int .i64 a0_0, .int .i64 a0_1, .string a0_2, .slice A0_3 l0_3.length c0_3, .slice A0_4 l0_4.length c0_4] 25 (0, 0)) (by (with_reducible repeat (first | refine blk_drewN ?_ _ | refine blk_drew ?_ | refine blk_alloc ?_ _)); exact BK223.out)) : gb224 ≠ gb223)); clear BK223; clear HB; have BK223 := n0_; have HB := n1_; have BK224 := n2_; have GW224 := n3_; have GE224 := n4_; have NB223_224 := n5_; have NB224_223 := n6_; clear n0_ n1_ n2_ n3_ n4_ n5_ n6_; clear hb hbox hg; have hnb88 := NB223_224.out; have hnc88 := NB224_223.out; have hcz89_0 : w87.cell? ⟨gb223, 0, none⟩ = some (.int .i64 a0_0) := (blk_cell BK223.out 0).trans rfl; have hcz89_1 : w87.cell? ⟨gb223, 1, none⟩ = some (.int .i64 a0_1) := (blk_cell BK223.out 1).trans rfl; have hcz89_2 : w87.cell? ⟨gb223, 2, none⟩ = some (.string a0_2) := (blk_cell BK223.out 2).trans rfl; have hcz89_3 : w87.cell? ⟨gb223, 3, none⟩ = some (.slice A0_3 l0_3.length c0_3) := (blk_cell BK223.out 3).trans rfl; have hcz89_4 : w87.cell? ⟨gb223, 4, none⟩ = some (.slice A0_4 l0_4.length c0_4) := (blk_cell BK223.out 4).trans rfl; have hfz89_0 := blk_frozen BK223.out 0; have hfz89_1 := blk_frozen BK223.out 1; have hfz89_2 := blk_frozen BK223.out 2; have hfz89_3 := blk_frozen BK223.out 3; have hfz89_4 := blk_frozen BK223.out 4; have hcz90_0 : w87.cell? ⟨gb224, 0, none⟩ = some (.int .i64 a1_0) := (blk_cell BK224.out 0).trans rfl; have hcz90_1 : w87.cell? ⟨gb224, 1, none⟩ = some (.int .i64 a1_1) := (blk_cell BK224.out 1).trans rfl; have hcz90_2 : w87.cell? ⟨gb224, 2, none⟩ = some (.string a1_2) := (blk_cell BK224.out 2).trans rfl; have hcz90_3 : w87.cell? ⟨gb224, 3, none⟩ = some (.slice A1_3 l1_3.length c1_3) := (blk_cell BK224.out 3).trans rfl; have hcz90_4 : w87.cell? ⟨gb224, 4, none⟩ = some (.slice A1_4 l1_4.length c1_4) := (blk_cell BK224.out 4).trans rfl; have hfz90_0 := blk_frozen BK224.out 0; have hfz90_1 := blk_frozen BK224.out 1; have hfz90_2 := blk_frozen BK224.out 2; have hfz90_3 := blk_frozen BK224.out 3; have hfz90_4 := blk_frozen BK224.out 4) | ((with_reducible refine gate_callee (f := 127) rfl ?_); refine goesL_ (some 17) rfl rfl Tryd.func127 (by kernel_rfl) rfl #[.int .i64 a0_0, .int .i64 a1_0] rfl (by (try simp only [List.map_toArray, List.map_cons, List.map_nil]); first | done | rfl | (simp only [List.length_drop, List.length_take]; rfl)) ?_; (with_reducible refine (munimentref03_lengths.calls a0_0 a1_0 t225 _ A85.out).mono ?_); rintro e w' ⟨rfl, ⟨nd, rfl⟩⟩; refine ⟨_, rfl, ?_⟩))
    go_ret
    exact ⟨by first | rfl | (simp [errW_none, errW_some] <;> rfl) | (simp [*, errW_none, errW_some] <;> rfl), by repeat (first | (with_reducible first | exact HB.out | apply below_alloc | apply pw_below_drewN | apply below_drew1 | refine below_set ?_ GE223.out | refine below_set ?_ GE224.out) | exact HB.out)⟩

end Go.Proofs.YtehdnjegipcpfaaDoor.PFilterHolds
