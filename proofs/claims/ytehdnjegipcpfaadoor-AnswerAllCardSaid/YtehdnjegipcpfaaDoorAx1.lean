/-
  plainDocs: printed by the kit's print.sh, laid over the filter's own words by a program of this session's.
-/
import Derived.Test.YtehdnjegipcpfaaDoorAx0
namespace Go.Proofs.YtehdnjegipcpfaaDoor.PAns
open Go.RowKit Go.Proofs.YtehdnjegipcpfaaDoorW.PrintWords Go.Proofs.YtehdnjegipcpfaaDoorW.PrintLast Go.Proofs.YtehdnjegipcpfaaDoorW.PrintMore
open PFilterHolds
attribute [local go_sem] max2_int min2_int max_two min_two max_three min_three max_four min_four
set_option linter.unusedVariables false
set_option linter.unusedSimpArgs false
def munimentlaw16_plainDocs.l0 : Nat → List (S42) → List (S72) → Int → Option ((List (S72)))
  | 0, _, _, _ => none
  | k + 1, x0, x3, x4 => if x4 < (x0.length : Int) then (if 0 ≤ x4 then (if x3.length < 1466015503701 then (munimentlaw16_plainDocs.l0 k x0 (x3 ++ [(⟨(rd_T42 x0 x4).f0, (⟨(rd_T42 x0 x4).f1.f0, (rd_T42 x0 x4).f1.f1, (rd_T42 x0 x4).f1.f2, (rd_T42 x0 x4).f1.f3, (rd_T42 x0 x4).f1.f4⟩ : S25)⟩ : S72)]) (wrap64 (x4 + 1))) else (none)) else (none)) else (some x3)
def munimentlaw16_plainDocs.f (k : Nat) (l0 : List (S42)) : Option ((List (S72))) := munimentlaw16_plainDocs.l0 k l0 ([] : List (S72)) 0
theorem munimentlaw16_plainDocs.mono_l : ∀ k, (∀ y0 y1 y2, LeO (munimentlaw16_plainDocs.l0 k y0 y1 y2) (munimentlaw16_plainDocs.l0 (k + 1) y0 y1 y2))
  | 0 => fun _ _ _ r h => by simp [munimentlaw16_plainDocs.l0] at h
  | k + 1 => by
    have ih0 := munimentlaw16_plainDocs.mono_l k
    · intro y0 y1 y2
      unfold munimentlaw16_plainDocs.l0
      repeat' first
      | (with_reducible exact ih0 _ _ _)
      | (with_reducible exact LeO.refl _)
      | (with_reducible exact LeO.none _)
      | (with_reducible refine LeO.ite ?_ ?_)
      | (with_reducible refine LeO.bind ?_ (fun _ => ?_))
      | exact ih0 _ _ _
      | exact LeO.none _
      | refine LeO.ite ?_ ?_
      | refine LeO.bind ?_ (fun _ => ?_)
theorem munimentlaw16_plainDocs.mono : ∀ a0 k, LeO (munimentlaw16_plainDocs.f k a0) (munimentlaw16_plainDocs.f (k + 1) a0) := by
  intro a0 k
  have ih0 := munimentlaw16_plainDocs.mono_l k
  unfold munimentlaw16_plainDocs.f
  repeat' first
      | (with_reducible exact ih0 _ _ _)
      | (with_reducible exact LeO.refl _)
      | (with_reducible exact LeO.none _)
      | (with_reducible refine LeO.ite ?_ ?_)
      | (with_reducible refine LeO.bind ?_ (fun _ => ?_))
      | exact ih0 _ _ _
      | exact LeO.none _
      | refine LeO.ite ?_ ?_
      | refine LeO.bind ?_ (fun _ => ?_)
set_option maxHeartbeats 8000000 in
set_option maxRecDepth 100000 in
theorem munimentlaw16_plainDocs.calls (k : Nat) (P0_ : Nat → Prop) (A0 : Option Addr) (c0 : Nat) (l0 : List (S42)) (r : List (S72)) (w : World) (hs0 : Kd.V k42 42 w w.heap.size (fun k_ => P0_ k_) (.slice A0 l0.length c0) l0) (h : munimentlaw16_plainDocs.f k l0 = some r) :
    Calls Tryd.prog 26 #[.slice A0 l0.length c0] w fun e w' => ∃ v0_ : Value, e = .returned (v0_) ∧ Kd.N k72 72 w' w.heap.size (fun k_ => (P0_ k_ ∨ w.heap.size ≤ k_)) v0_ r ∧ Below w.heap.size w w' := by
  have hu42 := Tryd.underlying42
  have HO0 := Aside0.mk (show Kd.V k42 42 w w.heap.size (fun k_ => (P0_ k_ ∨ w.heap.size ≤ k_)) (.slice A0 l0.length c0) l0 from Kd.V_mono hs0 (fun k_ hk => .inl hk))
  have HB := Aside0.mk (Below.refl w.heap.size w)
  have H : (munimentlaw16_plainDocs.l0 k l0 ([] : List (S72)) 0) = some r := h
  clear h
  have H' := Aside0.mk H
  clear H
  go_enter Tryd.func26, Tryd.ntmps26
  go_wp2
  go_loopg [3, 4] k (fun kq v3 v4 w' => ∃ (x3_1 : List (S72)) (x4_1 : Int), v4 = .int .i64 x4_1 ∧ Aside0 (munimentlaw16_plainDocs.l0 kq l0 x3_1 x4_1 = some r) ∧ Aside0 (kq ≤ k) ∧ Aside0 (Kd.V k42 42 w' w.heap.size (fun k_ => (P0_ k_ ∨ w.heap.size ≤ k_) ∧ some k_ ≠ (v3 : Value).ownBlock) (.slice A0 l0.length c0) l0) ∧ Aside0 (Kd.N k72 72 w' w.heap.size (fun k_ => (P0_ k_ ∨ w.heap.size ≤ k_)) v3 x3_1) ∧ Aside0 (Below w.heap.size w w'))
  case atStart => exact ⟨(([] : List (S72))), (0), (by first | rfl | (simp; done) | (simp [*]; done)), H', ⟨Nat.le_refl _⟩, ⟨by (with_reducible repeat (first | apply Kd.V_alloc | apply Kd.V_drewN | apply Kd.V_drew)); exact Kd.V_mono HO0.out (fun _ hk => ⟨hk, (by simp [Value.ownBlock])⟩)⟩, ⟨by first | exact Kd.R_nil _ _ _ _ _ | exact Kd.N_nil _ _ _ _ _ | exact Kd.V_nil _ _ _ _ _ | exact Kd.Q_nil _ _ _ _ _ | exact Kd.S_nil _ _ _ _ _⟩, ⟨by repeat (first | (with_reducible first | exact HB.out | apply below_alloc | apply pw_below_drewN | apply below_drew1) | exact HB.out)⟩⟩
  case round =>
    clear H'
    obtain ⟨x3_1, x4_1, rfl, HA, HK1, HO_0, HO_3, HB⟩ := hrel
    cases gk with
    | zero => exact absurd HA.out (by simp [munimentlaw16_plainDocs.l0])
    | succ k1 =>
      have H := HA.out
      clear HA
      simp only [munimentlaw16_plainDocs.l0] at H
      by_cases c2 : x4_1 < (l0.length : Int)
      · rw [if_pos c2] at H
        have c2b0 : decide (x4_1 < (l0.length : Int)) = true := decide_eq_true c2
        clear c2
        by_cases c3 : 0 ≤ x4_1
        · rw [if_pos c3] at H
          have c3b0 : decide (0 ≤ x4_1) = true := decide_eq_true c3
          clear c3
          by_cases c4 : x3_1.length < 1466015503701
          · rw [if_pos c4] at H
            have LMc4 := Aside0.mk c4
            clear c4
            obtain ⟨y247, hy247⟩ : ∃ y_ : List (S72), y_ = (x3_1 ++ [(⟨(rd_T42 l0 x4_1).f0, (⟨(rd_T42 l0 x4_1).f1.f0, (rd_T42 l0 x4_1).f1.f1, (rd_T42 l0 x4_1).f1.f2, (rd_T42 l0 x4_1).f1.f3, (rd_T42 l0 x4_1).f1.f4⟩ : S25)⟩ : S72)]) := ⟨_, rfl⟩
            replace H : (munimentlaw16_plainDocs.l0 k1 l0 y247 (wrap64 (x4_1 + 1))) = some r := by first | (rw [hy247]; with_reducible exact H) | (have H2_ := (Option.bind_some _ _).symm.trans H; rw [hy247]; with_reducible exact H2_) | (have H2_ := (Option.bind_some _ _).symm.trans H; with_reducible exact H2_) | with_reducible exact H | (rw [hy247]; exact H) | exact H
            have Ny247 := Aside0.mk hy247
            clear hy247
            have H' := Aside0.mk H
            clear H
            have p246 : 0 ≤ (x4_1 : Int) := of_decide_eq_true (by first | (with_reducible assumption) | assumption)
            have q246 : x4_1 < (l0.length : Int) := of_decide_eq_true (by first | (with_reducible assumption) | assumption)
            obtain ⟨ad246, A246_4, c246_4, A246_5, c246_5, e246, hx246_0, hx246_1, hx246_2, hx246_3, hx246_4, hx246_5, hl246_4, hi246_4, hl246_5, hi246_5⟩ := at_T42 (Kd.V_reads' HO_0.out).2.2 x4_1 p246 q246
            cases e246
            obtain ⟨ce246, hce246, hMe246, hcc246⟩ := Kd.V_get HO_0.out z42 x4_1 p246 (by first | exact q246 | exact of_decide_eq_true (by first | (with_reducible assumption) | assumption) | (have e_ := (Kd.V_reads' HO_0.out).1; omega))
            obtain ⟨ua246_4, uc246_4, ua246_5, uc246_5, rfl, ul246_4, ge246_4, ul246_5, ge246_5⟩ := k42_openF hMe246
            have hv246_4 := hcc246 4 _ rfl
            rw [add_field _ _ 4 (by omega)] at hv246_4
            replace hv246_4 := Option.some.inj (hv246_4.symm.trans hx246_4)
            injection hv246_4 with hva_ hvn_ hvc_
            rw [hva_] at ge246_4
            rw [hvc_] at ul246_4
            have HL246_4 := Aside0.mk (show Kd.V Kd.string 9 _ w.heap.size _ _ ((rd_T42 l0 x4_1).f1.f3) from Kd.V_mk ul246_4 ge246_4)
            clear hva_ hvn_ hvc_ ge246_4 ul246_4
            have hv246_5 := hcc246 5 _ rfl
            rw [add_field _ _ 5 (by omega)] at hv246_5
            replace hv246_5 := Option.some.inj (hv246_5.symm.trans hx246_5)
            injection hv246_5 with hva_ hvn_ hvc_
            rw [hva_] at ge246_5
            rw [hvc_] at ul246_5
            have HL246_5 := Aside0.mk (show Kd.V k25 25 _ w.heap.size _ _ ((rd_T42 l0 x4_1).f1.f4) from Kd.V_mk ul246_5 ge246_5)
            clear hva_ hvn_ hvc_ ge246_5 ul246_5
            clear hcc246 hce246
            have HR246_4 := Aside0.mk hi246_4
            have HC246_4 := Aside0.mk hl246_4
            clear hi246_4 hl246_4
            have HR246_5 := Aside0.mk hi246_5
            have HC246_5 := Aside0.mk hl246_5
            clear hi246_5 hl246_5
            replace p246 := eq_true p246
            replace q246 := eq_true q246
            go_wp2_with (first | ((with_reducible refine gate_builtin (b := .append) (xs := #[.tmp 11, .tmp 16]) rfl ?_); at_builtin; refine Kd.N_append k72 (w0 := w) w.heap.size rfl (.tmp 11) (.tmp 16) 46 72 (.agg #[(.string ⟨#[]⟩), (.int .i64 0), (.int .i64 0), (.string ⟨#[]⟩), (.slice none 0 0), (.slice none 0 0)]) 96 rfl Tryd.underlying46 info72 rfl (by decide) (by omega) u3 x3_1 (⟨(rd_T42 l0 x4_1).f0, (⟨(rd_T42 l0 x4_1).f1.f0, (rd_T42 l0 x4_1).f1.f1, (rd_T42 l0 x4_1).f1.f2, (rd_T42 l0 x4_1).f1.f3, (rd_T42 l0 x4_1).f1.f4⟩ : S25)⟩ : S72) [.string ((rd_T42 l0 x4_1).f0), .int .i64 ((rd_T42 l0 x4_1).f1.f0), .int .i64 ((rd_T42 l0 x4_1).f1.f1), .string ((rd_T42 l0 x4_1).f1.f2), .slice A246_4 ((rd_T42 l0 x4_1).f1.f3).length c246_4, .slice A246_5 ((rd_T42 l0 x4_1).f1.f4).length c246_5] (fun k_ => (P0_ k_ ∨ w.heap.size ≤ k_)) (fun k_ => ((fun k_ => (P0_ k_ ∨ w.heap.size ≤ k_))) k_ ∧ some k_ ≠ (u3 : Value).ownBlock) rfl rfl ?aP (fun _ hk => hk) ?aF ?aO ?aB ?aS ?aL ?_; (case aP => exact (k72_mkF _ _ (⟨(rd_T42 l0 x4_1).f0, (⟨(rd_T42 l0 x4_1).f1.f0, (rd_T42 l0 x4_1).f1.f1, (rd_T42 l0 x4_1).f1.f2, (rd_T42 l0 x4_1).f1.f3, (rd_T42 l0 x4_1).f1.f4⟩ : S25)⟩ : S72) (Kd.V_reads' (Kd.V_mono (ok' := (fun k_ => ((fun k_ => (P0_ k_ ∨ w.heap.size ≤ k_))) k_ ∧ some k_ ≠ (u3 : Value).ownBlock)) (HL246_4.out) (fun k_ hk => ⟨hk.1, hk.2⟩))).2.1 (Kd.V_F (Kd.V_mono (ok' := (fun k_ => ((fun k_ => (P0_ k_ ∨ w.heap.size ≤ k_))) k_ ∧ some k_ ≠ (u3 : Value).ownBlock)) (HL246_4.out) (fun k_ hk => ⟨hk.1, hk.2⟩))) (Kd.V_reads' (Kd.V_mono (ok' := (fun k_ => ((fun k_ => (P0_ k_ ∨ w.heap.size ≤ k_))) k_ ∧ some k_ ≠ (u3 : Value).ownBlock)) (HL246_5.out) (fun k_ hk => ⟨hk.1, hk.2⟩))).2.1 (Kd.V_F (Kd.V_mono (ok' := (fun k_ => ((fun k_ => (P0_ k_ ∨ w.heap.size ≤ k_))) k_ ∧ some k_ ≠ (u3 : Value).ownBlock)) (HL246_5.out) (fun k_ hk => ⟨hk.1, hk.2⟩))))); (case aB => exact (by repeat (first | (with_reducible first | exact HB.out | apply below_alloc | apply pw_below_drewN | apply below_drew1) | exact HB.out))); (case aF => exact (fun k_ hk => (.inr (Nat.le_trans (below_size (by repeat (first | (with_reducible first | exact HB.out | apply below_alloc | apply pw_below_drewN | apply below_drew1) | exact HB.out))) hk)))); (case aO => exact (by (with_reducible repeat (first | apply Kd.N_alloc | apply Kd.N_drewN | apply Kd.N_drew)); exact HO_3.out)); (case aS => exact (below_size (by repeat (first | (with_reducible first | exact HB.out | apply below_alloc | apply pw_below_drewN | apply below_drew1) | exact HB.out)))); (case aL => have := LMc4.out; omega); intro v248 w5 ho hb hg hat; rw [← Ny247.out] at ho; have n0_ := Aside0.mk (Kd.V_afterv (ok := (fun k_ => (P0_ k_ ∨ w.heap.size ≤ k_))) (by (with_reducible repeat (first | apply Kd.V_alloc | apply Kd.V_drewN | apply Kd.V_drew)); exact HO_0.out) hg hat); have n1_ := Aside0.mk (Kd.V_afterv (ok := (fun k_ => (P0_ k_ ∨ w.heap.size ≤ k_))) (by (with_reducible repeat (first | apply Kd.V_alloc | apply Kd.V_drewN | apply Kd.V_drew)); exact HL246_4.out) hg hat); have n2_ := Aside0.mk (Kd.V_afterv (ok := (fun k_ => (P0_ k_ ∨ w.heap.size ≤ k_))) (by (with_reducible repeat (first | apply Kd.V_alloc | apply Kd.V_drewN | apply Kd.V_drew)); exact HL246_5.out) hg hat); have n3_ := Aside0.mk (hb); have n4_ := Aside0.mk (ho); clear HO_0; clear HL246_4; clear HL246_5; clear HB; clear HO_3; have HO_0 := n0_; have HL246_4 := n1_; have HL246_5 := n2_; have HB := n3_; have HO249 := n4_; clear n0_ n1_ n2_ n3_ n4_; clear ho hb hg hat))
            go_roundg k1
            case measure => have := HK1.out; omega
            case rel => exact ⟨(y247), (wrap64 (x4_1 + 1)), (by first | rfl | (simp; done) | (simp [*]; done)), H', ⟨by have := HK1.out; omega⟩, ⟨by (with_reducible repeat (first | apply Kd.V_alloc | apply Kd.V_drewN | apply Kd.V_drew)); exact HO_0.out⟩, ⟨by (with_reducible repeat (first | apply Kd.N_alloc | apply Kd.N_drewN | apply Kd.N_drew)); exact HO249.out⟩, ⟨by repeat (first | (with_reducible first | exact HB.out | apply below_alloc | apply pw_below_drewN | apply below_drew1) | exact HB.out)⟩⟩
          · rw [if_neg c4] at H
            exact absurd H (by simp)
        · rw [if_neg c3] at H
          exact absurd H (by simp)
      · rw [if_neg c2] at H
        have c2b0 : decide (x4_1 < (l0.length : Int)) = false := decide_eq_false c2
        clear c2
        obtain rfl := Option.some.inj H
        go_wp2
        go_ret
        exact ⟨_, by first | rfl | (simp [errW_none, errW_some] <;> rfl) | (simp [*, errW_none, errW_some] <;> rfl), by (with_reducible repeat (first | apply Kd.N_alloc | apply Kd.N_drewN | apply Kd.N_drew)); exact HO_3.out, by repeat (first | (with_reducible first | exact HB.out | apply below_alloc | apply pw_below_drewN | apply below_drew1) | exact HB.out)⟩
end Go.Proofs.YtehdnjegipcpfaaDoor.PAns
