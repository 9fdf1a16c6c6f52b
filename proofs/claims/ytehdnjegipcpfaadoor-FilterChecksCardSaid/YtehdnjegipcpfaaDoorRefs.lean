/-
  The reference's path: the contracts of its Steps, number, place and Get; no condition.
-/
import Derived.Test.YtehdnjegipcpfaaDoorReff
import Derived.Test.YtehdnjegipcpfaaDoorHold
import Derived.Test.YtehdnjegipcpfaaDoorPFilterHoldsx7
namespace Go.Proofs.YtehdnjegipcpfaaDoor
open Go.RowKit Go.Proofs.YtehdnjegipcpfaaDoorW.PrintWords Go.Proofs.YtehdnjegipcpfaaDoorW.PrintLast Go.Proofs.YtehdnjegipcpfaaDoorW.PrintMore
open PFilterHolds Go.Shelf

set_option maxRecDepth 100000 in
set_option maxHeartbeats 4000000 in
theorem steps_ref (p : ByteArray) (w : World) (hp : p.size ≤ 1000000) :
    Calls Tryd.prog 100 #[.string p] w fun e w' => StepsEnd w.heap.size (stepsJ vstr p) e w' ∧ Below w.heap.size w w' := by
  obtain ⟨i0, hi, hz0, hz1, hz2⟩ := info_parts info9
  obtain ⟨ANS, hA⟩ : ∃ ANS, stepsJ vstr p = ANS := ⟨_, rfl⟩
  rw [hA]
  have HA := Lib.hid hA; clear hA
  go_enter Tryd.func100, Tryd.ntmps100
  go_wp2
  go_loopw [4, 5, 6] (fun v4 v5 v6 wr => ∃ (i g : Nat) (out : List ByteArray), g ≤ i ∧ i ≤ p.size + 1 ∧ out.length ≤ 4 ∧ v5 = .int .i64 g ∧ v6 = .int .i64 i ∧ ANS = stepsL vstr p (p.size + 1 - i) i g out ∧ wr.ownsRow w.heap.size 9 1 v4 out.length (out.map Value.string) ∧ Below w.heap.size w wr)
    (fun _ _ v6 _ => p.size + 1 - (intOf v6).toNat)
  case atStart => exact ⟨0, 0, [], Nat.le_refl _, Nat.zero_le _, by simp, rfl, rfl, HA.out.symm, World.ownsRow_nil _ _ _ _, Below.refl _ _⟩
  case round =>
    obtain ⟨i, g, out, hgi, hip, hout, rfl, rfl, hS, hrow, hB⟩ := hrel
    have HS := Lib.hid hS; clear hS
    have HB := Lib.hid hB; clear hB
    obtain ⟨r4, k4, rfl⟩ := row_len hrow
    have HR := Lib.hid hrow; clear hrow
    by_cases hlt : i ≤ p.size
    · have hii : (i : Int) ≤ (p.size : Int) := by omega
      have hst := HS.out
      rw [show p.size + 1 - i = (p.size - i) + 1 by omega] at hst
      unfold stepsL at hst
      clear HS
      have HST := Lib.hid hst; clear hst
      obtain ⟨CB, hCB⟩ : ∃ b, decide (i < p.size ∧ ¬ bt p i = 46) = b := ⟨_, rfl⟩
      have HCB := Lib.hid hCB; clear hCB
      go_upto_region 6 with fail
      go_cut [22] from 7 to 53 (fun b wx => b = .bool CB ∧ wx = wr)
      case first =>
        by_cases hlt2 : i < p.size
        · have hjj : (i : Int) < (p.size : Int) := by omega
          have hbt : ((p[i]'hlt2).toNat : Int) = bt p i := bt_at p (i : Int) hlt2
          by_cases h46 : bt p i = 46
          · have hq : (((p[i]'hlt2).toNat : Int) != 46) = false := by rw [hbt, h46]; rfl
            clear hbt
            go_wp2_with fail
            go_meet
            exact ⟨by rw [← HCB.out]; simp [h46], rfl⟩
          · have hq : (((p[i]'hlt2).toNat : Int) != 46) = true := by rw [hbt]; simpa using h46
            clear hbt
            go_wp2_with fail
            go_meet
            exact ⟨by rw [← HCB.out]; simp [h46, hlt2], rfl⟩
        · have hjj : ¬ (i : Int) < (p.size : Int) := by omega
          go_wp2_with fail
          go_meet
          exact ⟨by rw [← HCB.out]; simp [hlt2], rfl⟩
      case rest =>
        obtain ⟨rfl, rfl⟩ := hcut
        cases CB with
        | true =>
          have hc := of_decide_eq_true HCB.out
          have hst := HST.out
          rw [if_pos hc] at hst
          have hi1 := hc.1
          clear HST hc HCB
          have HST := Lib.hid hst; clear hst
          go_wp2_with fail
          go_roundw
          case rel =>
            exact ⟨i + 1, g, out, by omega, by omega, hout, rfl, by go_num, by rw [HST.out]; congr 1; omega, HR.out, HB.out⟩
          case measure => simp [intOf]; omega
        | false =>
          have hc := of_decide_eq_false HCB.out
          have hst := HST.out
          rw [if_neg hc] at hst
          clear HST hc HCB
          obtain ⟨BB, hBB⟩ : ∃ b, stepsBad vstr p i g out.length = b := ⟨_, rfl⟩
          rw [hBB] at hst
          have HBB := Lib.hid hBB; clear hBB
          have HST := Lib.hid hst; clear hst
          go_upto_region 7 with fail
          go_cut [44] from 7 to 53 (fun b wx => b = .bool BB ∧ wx.ownsRow w.heap.size 9 1 (.slice r4 out.length k4) out.length (out.map Value.string) ∧ Below w.heap.size w wx)
          case first =>
            have hbb := HBB.out
            unfold stepsBad at hbb
            by_cases e1 : i = g
            · clear HBB
              rw [decide_eq_true e1, Bool.true_or, Bool.true_or, Bool.true_or] at hbb
              subst hbb
              subst e1
              go_wp2_with fail
              go_meet
              exact ⟨rfl, HR.out, HB.out⟩
            have t1 : ((i : Int) == (g : Int)) = false := by simp; omega
            by_cases e2 : 60 < i - g
            · have t2 : decide (60 < (i : Int) - (g : Int)) = true := decide_eq_true (by omega)
              clear HBB
              rw [decide_eq_true e2, Bool.or_true, Bool.true_or, Bool.true_or] at hbb
              subst hbb
              go_wp2_with fail
              go_meet
              exact ⟨rfl, HR.out, HB.out⟩
            have t2 : decide (60 < (i : Int) - (g : Int)) = false := decide_eq_false (by omega)
            by_cases e3 : out.length = 4
            · have t3 : ((out.length : Int) == 4) = true := by simp [e3]
              clear HBB
              rw [decide_eq_true e3, Bool.or_true, Bool.true_or] at hbb
              subst hbb
              clear e3
              go_wp2_with fail
              go_meet
              exact ⟨rfl, HR.out, HB.out⟩
            have t3 : ((out.length : Int) == 4) = false := by simp; omega
            rw [decide_eq_false e1, decide_eq_false e2, decide_eq_false e3, Bool.false_or, Bool.false_or, Bool.false_or] at hbb
            have hV := fun W => valid_ref (p.extract g i) (by simp; omega) W
            generalize vstr (p.extract g i) = r at hbb hV
            subst hbb
            clear HBB
            have hgi' : (g : Int) ≤ (i : Int) := by omega
            go_wp2_with fail
            refine (hV _).mono ?_; rintro e w' ⟨rfl, hb⟩
            have hR2 := own_below HR.out hb
            have hB2 := HB.out.trans (hb.mono HB.out.size)
            have HR2 := Lib.hid hR2
            have HB2 := Lib.hid hB2
            clear hR2 hB2 hb
            go_wp2_with fail
            go_meet
            exact ⟨rfl, HR2.out, HB2.out⟩
          case rest =>
            obtain ⟨rfl, hrow, hB⟩ := hcut
            clear HR HB
            cases BB with
            | true =>
              have hst := HST.out
              rw [if_pos rfl] at hst
              subst hst
              clear HST HBB
              have HB := Lib.hid hB; clear hB hrow
              go_wp2_with fail
              go_ret2
              exact ⟨rfl, HB.out⟩
            | false =>
              have hst := HST.out
              rw [if_neg (by simp)] at hst
              clear HST
              have HST := Lib.hid hst; clear hst
              have hle : out.length < 4 := by
                have := HBB.out
                unfold stepsBad at this
                simp only [Bool.or_eq_false_iff, decide_eq_false_iff_not] at this
                omega
              clear HBB
              have HB := Lib.hid hB; clear hB
              have hgi' : (g : Int) ≤ (i : Int) := by omega
              go_wp2_with (first
                | (at_builtin; refine wpList_append_lies _ rfl _ _ 22 rfl w.heap.size 9 i0 (.string ⟨#[]⟩) 1 16 Tryd.underlying22 hi hz0 hz1 hz2 rfl (by decide) _ _ _ rfl (hrow.alloc _) ⟨wc.heap.size, 0, none⟩ 1 1 [.string (p.extract g i)] rfl rfl (cell_one_new _ _ _) ?c2 (by decide) ?c3 ?c4 ?c5 _ rfl ?_)
                | go_in)
              case c2 => first | rfl | (intro u hu; simp at hu; subst hu; rfl)
              case c3 => first | rfl | (unfold maxLen; omega)
              case c4 => first | omega | (simp; omega)
              case c5 => have := HB.out.size; simp; omega
              intro gl cl' w1 hown1 hg1 hat1 hlt1
              have hB1 : Below w.heap.size w w1 := (HB.out.alloc HB.out.size _).grown hg1 (by simp; have := HB.out.size; omega) (fun j hj => (hrow.lt j hj).1)
              have H1 := Lib.hid hown1; clear hown1
              have HB1 := Lib.hid hB1; clear hB1
              clear hg1 hat1 hlt1 hrow
              go_wp2_with fail
              go_roundw
              case rel =>
                refine ⟨i + 1, i + 1, out ++ [p.extract g i], Nat.le_refl _, by omega, by simp; omega, by go_num, by go_num, by rw [HST.out]; congr 1; omega, ?_, HB1.out⟩
                simpa using H1.out
              case measure => simp [intOf]; omega
    · have hd : decide ((i : Int) ≤ (p.size : Int)) = false := decide_eq_false (by omega)
      have hS : ANS = some out := by rw [HS.out, show p.size + 1 - i = 0 by omega]; rfl
      have HSS := Lib.hid hS; clear hS HS
      go_wp2_with fail
      go_ret2
      refine ⟨?_, HB.out⟩
      rw [HSS.out]
      exact ⟨_, rfl, HR.out⟩

theorem num_pair : ∀ k, (∀ a b, munimentref02_number.j0 k a b = path_number.j0 k a b) ∧ (∀ a b c, munimentref02_number.l0 k a b c = path_number.l0 k a b c)
  | 0 => ⟨fun _ _ => by unfold munimentref02_number.j0 path_number.j0; rfl, fun _ _ _ => by unfold munimentref02_number.l0 path_number.l0; rfl⟩
  | k + 1 => by
    obtain ⟨h1, h2⟩ := num_pair k
    refine ⟨fun a b => ?_, fun a b c => ?_⟩
    · unfold munimentref02_number.j0 path_number.j0
      simp only [h2]
    · unfold munimentref02_number.l0 path_number.l0
      simp only [h2]

theorem num_f (k : Nat) (a : ByteArray) : munimentref02_number.f k a = path_number.f k a := by
  unfold munimentref02_number.f path_number.f
  simp only [(num_pair k).1]

theorem place_pair : ∀ k, (∀ a b c d e f, munimentref02_place.j0 k a b c d e f = path_place.j0 k a b c d e f) ∧ (∀ a b c d e f g, munimentref02_place.l0 k a b c d e f g = path_place.l0 k a b c d e f g)
  | 0 => ⟨fun _ _ _ _ _ _ => by unfold munimentref02_place.j0 path_place.j0; rfl, fun _ _ _ _ _ _ _ => by unfold munimentref02_place.l0 path_place.l0; rfl⟩
  | k + 1 => by
    obtain ⟨h1, h2⟩ := place_pair k
    refine ⟨fun a b c d e f => ?_, fun a b c d e f g => ?_⟩
    · unfold munimentref02_place.j0 path_place.j0
      simp only [h2]
    · unfold munimentref02_place.l0 path_place.l0
      simp only [h2]

theorem place_f (k : Nat) (a : Int) (b : Int) (c : ByteArray) (d : List ByteArray) (e : List S25) (f : ByteArray) : munimentref02_place.f k a b c d e f = path_place.f k a b c d e f := by
  unfold munimentref02_place.f path_place.f
  simp only [num_f, (place_pair k).1]

theorem place_ref (x : S25) (s : ByteArray) (hb : x.f3.length ≤ 1000) (A3 : Option Addr) (c3 : Nat) (A4 : Option Addr) (c4 : Nat) (w : World) (h : Rd w A3 c3 A4 c4 x) :
    Calls Tryd.prog 126 #[av x A3 c3 A4 c4, .string s] w fun e w' => e = .returned (.int .i64 (placeJ x s)) ∧ Below w.heap.size w w' := by
  obtain ⟨m, e⟩ := place_tot x s hb
  exact munimentref02_place.calls m x.f0 x.f1 x.f2 A3 c3 x.f3 A4 c4 x.f4 s (placeJ x s) w h.g3 h.l3 h.g4 h.l4 ((place_f _ _ _ _ _ _ _).trans e)

set_option maxRecDepth 100000 in
set_option maxHeartbeats 4000000 in
theorem get_ref (x : S25) (p : ByteArray) (A3 : Option Addr) (c3 : Nat) (A4 : Option Addr) (c4 : Nat) (w : World) (hf : fmJ x = true) (h : Rd w A3 c3 A4 c4 x) (hp : p.size ≤ 1000000) :
    Calls Tryd.prog 82 #[av x A3 c3 A4 c4, .string p] w fun e w' => GetEnd (getJ x p) e w' ∧ Below w.heap.size w w' := by
  have hb0 := two_boxes w (.cells (cs25 x A3 c3 A4 c4) 25) (.cells #[.int .i64 0, .int .i64 0, .string ⟨#[]⟩, .slice none 0 0, .slice none 0 0] 25)
  have hS := steps_ref p ((w.alloc (.cells (cs25 x A3 c3 A4 c4) 25)).alloc (.cells #[.int .i64 0, .int .i64 0, .string ⟨#[]⟩, .slice none 0 0, .slice none 0 0] 25)) hp
  have hsz : ((w.alloc (.cells (cs25 x A3 c3 A4 c4) 25)).alloc (.cells #[.int .i64 0, .int .i64 0, .string ⟨#[]⟩, .slice none 0 0, .slice none 0 0] 25)).heap.size = w.heap.size + 2 := by simp
  rw [hsz] at hS
  have hk0 := two_boxes_0 w (.cells (cs25 x A3 c3 A4 c4) 25) (.cells #[.int .i64 0, .int .i64 0, .string ⟨#[]⟩, .slice none 0 0, .slice none 0 0] 25)
  have hk1 := two_boxes_1 w (.cells (cs25 x A3 c3 A4 c4) 25) (.cells #[.int .i64 0, .int .i64 0, .string ⟨#[]⟩, .slice none 0 0, .slice none 0 0] 25)
  obtain ⟨ANS, hA⟩ : ∃ a, getJ x p = a := ⟨_, rfl⟩
  rw [hA]
  unfold getJ at hA
  simp only [hf, if_true] at hA
  obtain ⟨q, hq⟩ : ∃ q, stepsJ vstr p = q := ⟨_, rfl⟩
  have hl4 : ∀ l, q = some l → l.length ≤ 4 := fun l e => stepsL_len vstr p _ _ _ [] l (by simp) (hq.trans e)
  rw [hq] at hA hS
  clear hq hsz
  have HA := Lib.hid hA; clear hA
  have HB0 := Lib.hid hb0; clear hb0
  have HK0 := Lib.hid hk0; clear hk0
  have HK1 := Lib.hid hk1; clear hk1
  have HRD := Lib.hid h; clear h
  have HF := Lib.hid hf; clear hf
  obtain ⟨x0, x1, x2, x3, x4⟩ := x
  cases q with
  | none =>
    clear hl4
    go_enter Tryd.func82, Tryd.ntmps82
    go_wp2_with fail
    refine hS.mono ?_
    rintro e w1 ⟨hE, hb⟩
    have hE' : e = .returned (.tuple #[.slice none 0 0, .int .i64 2]) := hE
    subst hE'
    have hb' : Below ((w.alloc (.cells (cs25 ⟨x0, x1, x2, x3, x4⟩ A3 c3 A4 c4) 25)).alloc (.cells #[.int .i64 0, .int .i64 0, .string ⟨#[]⟩, .slice none 0 0, .slice none 0 0] 25)).heap.size ((w.alloc (.cells (cs25 ⟨x0, x1, x2, x3, x4⟩ A3 c3 A4 c4) 25)).alloc (.cells #[.int .i64 0, .int .i64 0, .string ⟨#[]⟩, .slice none 0 0, .slice none 0 0] 25)) w1 := by simpa using hb
    have k1 := blk_below HK1.out hb'
    have hB1 := HB0.out.trans (hb'.mono HB0.out.size)
    have HB1 := Lib.hid hB1; clear hB1 hb hb' hS hE
    have q0 : w1.cell? ⟨w.heap.size + 1, 0, none⟩ = some (.int .i64 0) := (blk_cell k1 0).trans rfl
    have q1 : w1.cell? ⟨w.heap.size + 1, 1, none⟩ = some (.int .i64 0) := (blk_cell k1 1).trans rfl
    have q2 : w1.cell? ⟨w.heap.size + 1, 2, none⟩ = some (.string ⟨#[]⟩) := (blk_cell k1 2).trans rfl
    have q3 : w1.cell? ⟨w.heap.size + 1, 3, none⟩ = some (.slice none 0 0) := (blk_cell k1 3).trans rfl
    have q4 : w1.cell? ⟨w.heap.size + 1, 4, none⟩ = some (.slice none 0 0) := (blk_cell k1 4).trans rfl
    have z0 := blk_frozen k1 0
    have z1 := blk_frozen k1 1
    have z2 := blk_frozen k1 2
    have z3 := blk_frozen k1 3
    have z4 := blk_frozen k1 4
    clear k1
    go_wp2_with fail
    refine bodyPost_ret (v := .tuple #[.agg #[.int .i64 0, .int .i64 0, .string ⟨#[]⟩, .slice none 0 0, .slice none 0 0], .bool false]) ?_ rfl ?_
    · simp [results, Tryd.results82, go_sem, q0, q1, q2, q3, q4]
    refine ⟨?_, below_set5 HB1.out (by omega) _ _ _ _ _⟩
    rw [← HA.out]
    rfl
  | some l =>
    have hl4' := hl4 l rfl
    clear hl4
    go_enter Tryd.func82, Tryd.ntmps82
    go_wp2_with fail
    refine hS.mono ?_
    rintro e w1 ⟨hE, hb⟩
    obtain ⟨vv, rfl, hrow⟩ : ∃ v, e = .returned (.tuple #[v, .int .i64 0]) ∧ w1.ownsRow (w.heap.size + 2) 9 1 v l.length (l.map Value.string) := hE
    obtain ⟨Al, cl, rfl⟩ := row_len hrow
    have hb' : Below ((w.alloc (.cells (cs25 ⟨x0, x1, x2, x3, x4⟩ A3 c3 A4 c4) 25)).alloc (.cells #[.int .i64 0, .int .i64 0, .string ⟨#[]⟩, .slice none 0 0, .slice none 0 0] 25)).heap.size ((w.alloc (.cells (cs25 ⟨x0, x1, x2, x3, x4⟩ A3 c3 A4 c4) 25)).alloc (.cells #[.int .i64 0, .int .i64 0, .string ⟨#[]⟩, .slice none 0 0, .slice none 0 0] 25)) w1 := by simpa using hb
    have k0 := blk_below HK0.out hb'
    have k1 := blk_below HK1.out hb'
    have hB1 := HB0.out.trans (hb'.mono HB0.out.size)
    have hlt2 : w.heap.size + 1 < w1.heap.size := blk_lt k1
    have hX := Formed_ref ⟨x0, x1, x2, x3, x4⟩ A3 c3 A4 c4 w1 (HRD.out.below hB1)
    rw [HF.out] at hX
    have f0 : w1.cell? ⟨w.heap.size, 0, none⟩ = some (.int .i64 x0) := (blk_cell k0 0).trans rfl
    have f1 : w1.cell? ⟨w.heap.size, 1, none⟩ = some (.int .i64 x1) := (blk_cell k0 1).trans rfl
    have f2 : w1.cell? ⟨w.heap.size, 2, none⟩ = some (.string x2) := (blk_cell k0 2).trans rfl
    have f3 : w1.cell? ⟨w.heap.size, 3, none⟩ = some (.slice A3 x3.length c3) := (blk_cell k0 3).trans rfl
    have f4 : w1.cell? ⟨w.heap.size, 4, none⟩ = some (.slice A4 x4.length c4) := (blk_cell k0 4).trans rfl
    have HK0' := Lib.hid k0
    have HK1' := Lib.hid k1
    have HB1 := Lib.hid hB1
    have HR := Lib.hid hrow
    clear k0 k1 hB1 hb hb' hS hrow HK0 HK1 HB0
    go_wp2_with fail
    refine hX.mono ?_
    rintro e w2 ⟨rfl, hb⟩
    have hB2 := HB1.out.trans (hb.mono HB1.out.size)
    have k0 := blk_below HK0'.out hb
    have k1 := blk_below HK1'.out hb
    have hrow2 := own_below HR.out hb
    have HB2 := Lib.hid hB2
    have HK0 := Lib.hid k0
    have HK1 := Lib.hid k1
    have HR2 := Lib.hid hrow2
    clear hB2 k0 k1 hrow2 hb hX f0 f1 f2 f3 f4 HK0' HK1' HB1 HR hlt2
    go_wp2_with fail
    go_loopw [8, 9] (fun v8 v9 wr => ∃ (j : Nat) (y : S25) (B3 : Option Addr) (d3 : Nat) (B4 : Option Addr) (d4 : Nat), j ≤ l.length ∧ v8 = .int .i64 j ∧ wr.heap[w.heap.size]? = some (.cells (cs25 y B3 d3 B4 d4) 25 (0, 0)) ∧ wr.heap[w.heap.size + 1]? = some (.cells #[.int .i64 0, .int .i64 0, .string ⟨#[]⟩, .slice none 0 0, .slice none 0 0] 25 (0, 0)) ∧ Rd w B3 d3 B4 d4 y ∧ fmJ y = true ∧ ANS = walkJ y (l.drop j) ∧ wr.ownsRow (w.heap.size + 2) 9 1 (.slice Al l.length cl) l.length (l.map Value.string) ∧ Below w.heap.size w wr) (fun v8 _ _ => l.length - (intOf v8).toNat)
    case atStart => exact ⟨0, ⟨x0, x1, x2, x3, x4⟩, A3, c3, A4, c4, Nat.zero_le _, rfl, HK0.out, HK1.out, HRD.out, HF.out, HA.out.symm, HR2.out, HB2.out⟩
    case round =>
      obtain ⟨j, y, B3, d3, B4, d4, hj, rfl, k0, k1, hRy, hfy, hS, hrow, hB⟩ := hrel
      have HS := Lib.hid hS; clear hS
      have HB := Lib.hid hB; clear hB
      have HRY := Lib.hid hRy; clear hRy
      have HFY := Lib.hid hfy; clear hfy
      have hlt2 : w.heap.size + 1 < wr.heap.size := blk_lt k1
      obtain ⟨y0, y1, y2, y3, y4⟩ := y
      have e0 : wr.cell? ⟨w.heap.size, 0, none⟩ = some (.int .i64 y0) := (blk_cell k0 0).trans rfl
      have e1 : wr.cell? ⟨w.heap.size, 1, none⟩ = some (.int .i64 y1) := (blk_cell k0 1).trans rfl
      have e2 : wr.cell? ⟨w.heap.size, 2, none⟩ = some (.string y2) := (blk_cell k0 2).trans rfl
      have e3 : wr.cell? ⟨w.heap.size, 3, none⟩ = some (.slice B3 y3.length d3) := (blk_cell k0 3).trans rfl
      have e4 : wr.cell? ⟨w.heap.size, 4, none⟩ = some (.slice B4 y4.length d4) := (blk_cell k0 4).trans rfl
      clear HK0 HK1 HR2 HB2 HA HRD HF
      by_cases hlt : j < l.length
      · have hji : (j : Int) < (l.length : Int) := by omega
        obtain ⟨g, capg, hform, hgb, hglt⟩ := hrow.form (by omega)
        have hAl : Al = some ⟨g, 0, none⟩ := by injection hform
        subst hAl
        obtain ⟨s, hs⟩ : ∃ s, l[j]? = some s := ⟨_, List.getElem?_eq_getElem hlt⟩
        have e9 : wr.cell? ⟨g, j, none⟩ = some (.string s) := by
          have := hrow.cells (g := g) rfl j (.string s) (by rw [List.getElem?_map, hs]; rfl)
          rw [Addr.add_lit, Nat.zero_add] at this
          exact this
        have hd : l.drop j = s :: l.drop (j + 1) := by
          obtain ⟨hi, rfl⟩ := List.getElem?_eq_some_iff.1 hs
          exact List.drop_eq_getElem_cons hi
        have HD := Lib.hid hd; clear hd hs
        have h24 := few_items HFY.out
        have hcw := place_ref ⟨y0, y1, y2, y3, y4⟩ s (by have := h24.1; omega) B3 d3 B4 d4 wr.drew ((HRY.out.below HB.out).below (Below.refl _ wr).drew)
        have hpl := placeJ_lt HFY.out s
        obtain ⟨q, hq⟩ : ∃ q, placeJ ⟨y0, y1, y2, y3, y4⟩ s = q := ⟨_, rfl⟩
        rw [hq] at hcw hpl
        have HQ := Lib.hid hq; clear hq
        have HPL := Lib.hid hpl; clear hpl
        have HK0 := Lib.hid k0; clear k0
        have HK1 := Lib.hid k1; clear k1
        have HR := Lib.hid hrow; clear hrow hform
        have HG := Lib.hid hgb; clear hgb hglt h24
        go_upto_region 7 with fail
        refine start_ (n := 7) (S := fun w' => w'.cell? ⟨w.heap.size, 0, none⟩ = some (.int .i64 y0) ∧ w'.cell? ⟨w.heap.size, 1, none⟩ = some (.int .i64 y1) ∧ w'.cell? ⟨w.heap.size, 2, none⟩ = some (.string y2) ∧ w'.cell? ⟨w.heap.size, 3, none⟩ = some (.slice B3 y3.length d3) ∧ w'.cell? ⟨w.heap.size, 4, none⟩ = some (.slice B4 y4.length d4) ∧ w'.cell? ⟨g, j, none⟩ = some (.string s)) (ds := []) #[false, false, false, false, false, false, false] (by kernel_rfl) rfl rfl ⟨e0, e1, e2, e3, e4, e9⟩ (fun hHeld => ?_)
        refine pure_ (i := 1) (N := some 30) (v := ?_) (a' := ?_) #[false, true, false, false, false, false, false] rfl rfl (by kernel_rfl) (fun _ _ _ h => h) (Or.inl ⟨by rfl, ?_⟩) ?_ ?_
        rotate_left
        · intro w'
          go_simp
          with_reducible rfl
        rotate_left
        · simp only [Act.put, List.setIfInBounds_toArray, List.set_cons_zero, List.set_cons_succ]
          rfl
        refine pure_ (i := 2) (N := some 31) (v := ?_) (a' := ?_) #[false, true, true, false, false, false, false] rfl rfl (by kernel_rfl) (fun _ _ _ h => h) (Or.inl ⟨by rfl, ?_⟩) ?_ ?_
        rotate_left
        · intro w'
          go_simp
          with_reducible rfl
        rotate_left
        · simp only [Act.put, List.setIfInBounds_toArray, List.set_cons_zero, List.set_cons_succ]
          rfl
        refine pure_ (i := 3) (N := some 32) (v := ?_) (a' := ?_) #[false, true, true, true, false, false, false] rfl rfl (by kernel_rfl) (fun _ _ _ h => h) (Or.inl ⟨by rfl, ?_⟩) ?_ ?_
        rotate_left
        · intro w'
          go_simp
          with_reducible rfl
        rotate_left
        · simp only [Act.put, List.setIfInBounds_toArray, List.set_cons_zero, List.set_cons_succ]
          rfl
        refine take_ (i := 0) (N := some 29) (v := ?_) (a' := ?_) #[true, true, true, true, false, false, false] rfl rfl (by kernel_rfl) (fun _ _ _ h => h) (Or.inl ⟨by rfl, ?_⟩) hHeld ?_ ?_
        rotate_left
        · rintro w' ⟨s0, s1, s2, s3, s4, s5⟩
          go_simp
          with_reducible rfl
        rotate_left
        · simp only [Act.put, List.setIfInBounds_toArray, List.set_cons_zero, List.set_cons_succ]
          rfl
        refine take_ (i := 4) (N := some 33) (v := ?_) (a' := ?_) #[true, true, true, true, true, false, false] rfl rfl (by kernel_rfl) (fun _ _ _ h => h) (Or.inl ⟨by rfl, ?_⟩) hHeld ?_ ?_
        rotate_left
        · rintro w' ⟨s0, s1, s2, s3, s4, s5⟩
          go_simp
          with_reducible rfl
        rotate_left
        · simp only [Act.put, List.setIfInBounds_toArray, List.set_cons_zero, List.set_cons_succ]
          rfl
        refine one_ (i := 5) (N := some 34) #[true, true, true, true, true, true, false] rfl rfl (by kernel_rfl) (by decide) (fun K hK => ?_)
        refine goes_ Tryd.func126 (by kernel_rfl) rfl #[.agg #[.int .i64 y0, .int .i64 y1, .string y2, .slice B3 y3.length d3, .slice B4 y4.length d4], .string s] (by rfl) rfl rfl (by simp only [List.map_toArray, List.map_cons, List.map_nil]; rfl) ?_
        with_reducible refine (hcw).mono ?_
        rintro e w2 ⟨rfl, hbc⟩
        refine ⟨_, rfl, ?_⟩
        have hbw : Below wr.heap.size wr w2 := (Below.refl _ wr).drew.trans hbc
        have HBC := Lib.hid hbw
        clear hbc hbw
        refine hK.out _ _ ⟨((HBC.out.cell (World.block_lt_of_cell? wr _ e0)).trans e0), ((HBC.out.cell (World.block_lt_of_cell? wr _ e1)).trans e1), ((HBC.out.cell (World.block_lt_of_cell? wr _ e2)).trans e2), ((HBC.out.cell (World.block_lt_of_cell? wr _ e3)).trans e3), ((HBC.out.cell (World.block_lt_of_cell? wr _ e4)).trans e4), ((HBC.out.cell (World.block_lt_of_cell? wr _ e9)).trans e9)⟩ (fun hHeld => ?_)
        clear hK K
        refine norm_ (a' := ?_) ?_ ?_
        rotate_left
        · show Act.put _ (some 34) _ = _
          simp only [Act.put, List.setIfInBounds_toArray, List.set_cons_zero, List.set_cons_succ]
          rfl
        refine pure_ (i := 6) (N := some 9) (v := ?_) (a' := ?_) #[true, true, true, true, true, true, true] rfl rfl (by kernel_rfl) (fun _ _ _ h => h) (Or.inl ⟨by rfl, ?_⟩) ?_ ?_
        rotate_left
        · intro w'
          go_simp
          with_reducible rfl
        rotate_left
        · simp only [Act.put, List.setIfInBounds_toArray, List.set_cons_zero, List.set_cons_succ]
          rfl
        refine done_ (by kernel_rfl) ?_

        have hB2 := HB.out.trans (HBC.out.mono HB.out.size)
        have k0 := blk_below HK0.out HBC.out
        have k1 := blk_below HK1.out HBC.out
        have hrow2 := own_below HR.out HBC.out
        have HR2 := Lib.hid hrow2; clear hrow2
        have HB2 := Lib.hid hB2; clear hB2
        clear hcw e0 e1 e2 e3 e4 e9 HR HB HK0 HBC
        have HK1b := Lib.hid k1
        by_cases hneg : q < 0
        · have t1 : decide (q < 0) = true := decide_eq_true hneg
          have q0 : w2.cell? ⟨w.heap.size + 1, 0, none⟩ = some (.int .i64 0) := (blk_cell k1 0).trans rfl
          have q1 : w2.cell? ⟨w.heap.size + 1, 1, none⟩ = some (.int .i64 0) := (blk_cell k1 1).trans rfl
          have q2 : w2.cell? ⟨w.heap.size + 1, 2, none⟩ = some (.string ⟨#[]⟩) := (blk_cell k1 2).trans rfl
          have q3 : w2.cell? ⟨w.heap.size + 1, 3, none⟩ = some (.slice none 0 0) := (blk_cell k1 3).trans rfl
          have q4 : w2.cell? ⟨w.heap.size + 1, 4, none⟩ = some (.slice none 0 0) := (blk_cell k1 4).trans rfl
          have z0 := blk_frozen k1 0
          have z1 := blk_frozen k1 1
          have z2 := blk_frozen k1 2
          have z3 := blk_frozen k1 3
          have z4 := blk_frozen k1 4
          clear k0 k1
          go_wp2_with fail
          refine bodyPost_ret (v := .tuple #[.agg #[.int .i64 0, .int .i64 0, .string ⟨#[]⟩, .slice none 0 0, .slice none 0 0], .bool false]) ?_ rfl ?_
          · simp [results, Tryd.results82, go_sem, q0, q1, q2, q3, q4]
          refine ⟨?_, below_set5 HB2.out (by omega) _ _ _ _ _⟩
          rw [HS.out, HD.out]
          unfold walkJ
          rw [HQ.out, if_pos hneg]
          rfl
        · have t1 : decide (q < 0) = false := decide_eq_false hneg
          obtain ⟨k, rfl⟩ : ∃ k : Nat, q = k := ⟨q.toNat, by omega⟩
          have hk4 : k < y4.length := by have := HPL.out.2 (by omega); simpa using this
          have hki : (k : Int) < (y4.length : Int) := by omega
          obtain ⟨u, hu⟩ : ∃ u, y4[k]? = some u := ⟨_, List.getElem?_eq_getElem hk4⟩
          obtain ⟨b', o', D3, m3, D4, m4, rfl, hb', i0, i1, i2, i3, i4, hRu⟩ := item_of HRY.out.g4 rfl k u hu
          replace i0 := (HB2.out.cell (World.block_lt_of_cell? w _ i0)).trans i0
          replace i1 := (HB2.out.cell (World.block_lt_of_cell? w _ i1)).trans i1
          replace i2 := (HB2.out.cell (World.block_lt_of_cell? w _ i2)).trans i2
          replace i3 := (HB2.out.cell (World.block_lt_of_cell? w _ i3)).trans i3
          replace i4 := (HB2.out.cell (World.block_lt_of_cell? w _ i4)).trans i4
          have hfu : fmJ u = true := items_formed HFY.out u (List.mem_of_getElem? hu)
          have hgd : y4.getD k z25 = u := by rw [List.getD_eq_getElem?_getD, hu]; rfl
          have HGD := Lib.hid hgd; clear hgd hu
          have HFU := Lib.hid hfu; clear hfu
          have HRU := Lib.hid hRu; clear hRu
          have e0 : w2.cell? ⟨w.heap.size, 0, none⟩ = some (.int .i64 y0) := (blk_cell k0 0).trans rfl
          have e1 : w2.cell? ⟨w.heap.size, 1, none⟩ = some (.int .i64 y1) := (blk_cell k0 1).trans rfl
          have e2 : w2.cell? ⟨w.heap.size, 2, none⟩ = some (.string y2) := (blk_cell k0 2).trans rfl
          have e3 : w2.cell? ⟨w.heap.size, 3, none⟩ = some (.slice B3 y3.length d3) := (blk_cell k0 3).trans rfl
          have e4 : w2.cell? ⟨w.heap.size, 4, none⟩ = some (.slice (some ⟨b', o', none⟩) y4.length d4) := (blk_cell k0 4).trans rfl
          have z0 := blk_frozen k0 0
          have z1 := blk_frozen k0 1
          have z2 := blk_frozen k0 2
          have z3 := blk_frozen k0 3
          have z4 := blk_frozen k0 4
          have HK0 := Lib.hid k0; clear k0 k1
          obtain ⟨u0, u1, u2, u3, u4⟩ := u
          go_wp2_with fail
          go_roundw
          case rel =>
            refine ⟨j + 1, ⟨u0, u1, u2, u3, u4⟩, D3, m3, D4, m4, by omega, by go_num, blk_set5 HK0.out _ _ _ _ _, blk_far5 HK1b.out (by omega) _ _ _ _ _, HRU.out, HFU.out, ?_, ?_, below_set5 HB2.out (Nat.le_refl _) _ _ _ _ _⟩
            · rw [HS.out, HD.out]
              conv => lhs; unfold walkJ
              rw [HQ.out, if_neg hneg, Int.toNat_natCast]
              simp only [HGD.out]
            · exact own_row_far (own_row_far (own_row_far (own_row_far (own_row_far HR2.out (by omega) _ _) (by omega) _ _) (by omega) _ _) (by omega) _ _) (by omega) _ _
          case measure => simp [intOf]; omega
      · obtain rfl : j = l.length := by omega
        have HK1 := Lib.hid k1
        have hans : ANS = some ⟨y0, y1, y2, y3, y4⟩ := by rw [HS.out, List.drop_length]; rfl
        have q0 : wr.cell? ⟨w.heap.size + 1, 0, none⟩ = some (.int .i64 0) := (blk_cell k1 0).trans rfl
        have q1 : wr.cell? ⟨w.heap.size + 1, 1, none⟩ = some (.int .i64 0) := (blk_cell k1 1).trans rfl
        have q2 : wr.cell? ⟨w.heap.size + 1, 2, none⟩ = some (.string ⟨#[]⟩) := (blk_cell k1 2).trans rfl
        have q3 : wr.cell? ⟨w.heap.size + 1, 3, none⟩ = some (.slice none 0 0) := (blk_cell k1 3).trans rfl
        have q4 : wr.cell? ⟨w.heap.size + 1, 4, none⟩ = some (.slice none 0 0) := (blk_cell k1 4).trans rfl
        have z0 := blk_frozen k1 0
        have z1 := blk_frozen k1 1
        have z2 := blk_frozen k1 2
        have z3 := blk_frozen k1 3
        have z4 := blk_frozen k1 4
        clear k1 k0 hrow HS
        subst hans
        go_wp2_with fail
        refine bodyPost_ret (v := .tuple #[.agg #[.int .i64 y0, .int .i64 y1, .string y2, .slice B3 y3.length d3, .slice B4 y4.length d4], .bool true]) ?_ rfl ?_
        · simp [results, Tryd.results82, go_sem, q0, q1, q2, q3, q4]
        have hfin := below_set5 HB.out (by omega : w.heap.size ≤ w.heap.size + 1) (.int .i64 y0) (.int .i64 y1) (.string y2) (.slice B3 y3.length d3) (.slice B4 y4.length d4)
        exact ⟨⟨B3, d3, B4, d4, rfl, HRY.out.below hfin⟩, hfin⟩

end Go.Proofs.YtehdnjegipcpfaaDoor
