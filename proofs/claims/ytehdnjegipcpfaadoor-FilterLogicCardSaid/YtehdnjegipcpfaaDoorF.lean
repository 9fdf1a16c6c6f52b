/-
  The contract of path.Steps, under utf8's tables.
-/
import Derived.Test.YtehdnjegipcpfaaDoorE
namespace Go.Proofs.YtehdnjegipcpfaaDoor
open Go.RowKit Go.Proofs.YtehdnjegipcpfaaDoorW.PrintWords Go.Proofs.YtehdnjegipcpfaaDoorW.PrintLast Go.Proofs.YtehdnjegipcpfaaDoorW.PrintMore
open PFilterHolds Go.Shelf

theorem info9 : (Tryd.prog.info? 9).map (fun i => (i.zero, i.size, i.bytes)) = some (some (.string ⟨#[]⟩), 1, 16) := by kernel_rfl


def stepsBad (v : ByteArray → Bool) (p : ByteArray) (i g n : Nat) : Bool := decide (i = g) || decide (60 < i - g) || decide (n = 4) || !v (p.extract g i)

/-- The steps of a path, from a place on. -/
def stepsL (v : ByteArray → Bool) (p : ByteArray) : Nat → Nat → Nat → List ByteArray → Option (List ByteArray)
  | 0, _, _, out => some out
  | f + 1, i, g, out =>
    if i < p.size ∧ ¬ bt p i = 46 then stepsL v p f (i + 1) g out
    else if stepsBad v p i g out.length then none
    else stepsL v p f (i + 1) (i + 1) (out ++ [p.extract g i])
def stepsJ (v : ByteArray → Bool) (p : ByteArray) : Option (List ByteArray) := stepsL v p (p.size + 1) 0 0 []

theorem row_len {w : World} {base : Nat} {e : TypeId} {n : Nat} {v : Value} {xs : List Value} (h : w.ownsRow base e 1 v n xs) : ∃ r c, v = .slice r n c := by
  rcases h.2 with ⟨e, h0⟩ | ⟨g, cap, cur, rfl, _⟩
  · exact ⟨none, 0, by rw [h0]; exact e⟩
  · exact ⟨_, _, rfl⟩

theorem own_below {w w' : World} {base : Nat} {e : TypeId} {size n : Nat} {v : Value} {xs : List Value} (h : w.ownsRow base e size v n xs) (hb : Below w.heap.size w w') : w'.ownsRow base e size v n xs := by
  have hlt := h.lt
  obtain ⟨h1, h2⟩ := h
  refine ⟨h1, ?_⟩
  rcases h2 with h2 | ⟨g, cap, cur, rfl, hb', hg, r⟩
  · exact .inl h2
  · exact .inr ⟨g, cap, cur, rfl, hb', (hb.block g (hlt g rfl).2).trans hg, r⟩

/-- What Steps hands back. -/
def StepsEnd (base : Nat) (r : Option (List ByteArray)) (e : Ending) (w' : World) : Prop :=
  match r with
  | none => e = .returned (.tuple #[.slice none 0 0, .int .i64 2])
  | some l => ∃ v, e = .returned (.tuple #[v, .int .i64 0]) ∧ w'.ownsRow base 9 1 v l.length (l.map Value.string)

set_option maxRecDepth 100000 in
set_option maxHeartbeats 4000000 in
theorem steps_any (p : ByteArray) (w : World) (hT : Tabs w) (hp : p.size ≤ 1000000) :
    Calls Tryd.prog 73 #[.string p] w fun e w' => StepsEnd w.heap.size (stepsJ vstr p) e w' ∧ Below w.heap.size w w' := by
  obtain ⟨i0, hi, hz0, hz1, hz2⟩ := info_parts info9
  obtain ⟨ANS, hA⟩ : ∃ ANS, stepsJ vstr p = ANS := ⟨_, rfl⟩
  rw [hA]
  have HA := Lib.hid hA; clear hA
  have HT := Lib.hid hT; clear hT
  go_enter Tryd.func73, Tryd.ntmps73
  go_wp2
  go_loopw [4, 5, 6] (fun v4 v5 v6 wr => ∃ (i g : Nat) (out : List ByteArray), g ≤ i ∧ i ≤ p.size + 1 ∧ out.length ≤ 4 ∧ v5 = .int .i64 g ∧ v6 = .int .i64 i ∧ ANS = stepsL vstr p (p.size + 1 - i) i g out ∧ wr.ownsRow w.heap.size 9 1 v4 out.length (out.map Value.string) ∧ Below w.heap.size w wr)
    (fun _ _ v6 _ => p.size + 1 - (intOf v6).toNat)
  case atStart => exact ⟨0, 0, [], Nat.le_refl _, Nat.zero_le _, by simp, rfl, rfl, HA.out.symm, World.ownsRow_nil _ _ _ _, Below.refl _ _⟩
  case round =>
    obtain ⟨i, g, out, hgi, hip, hout, rfl, rfl, hS, hrow, hB⟩ := hrel
    have HS := Lib.hid hS; clear hS
    have HB := Lib.hid hB; clear hB
    obtain ⟨r4, k4, rfl⟩ := row_len hrow
    have HR := Lib.hid hrow; clear hrow
    by_cases hlt : i ≤ p.size
    · have hii : (i : Int) ≤ (p.size : Int) := by omega
      have hst := HS.out
      rw [show p.size + 1 - i = (p.size - i) + 1 by omega] at hst
      unfold stepsL at hst
      clear HS
      have HST := Lib.hid hst; clear hst
      obtain ⟨CB, hCB⟩ : ∃ b, decide (i < p.size ∧ ¬ bt p i = 46) = b := ⟨_, rfl⟩
      have HCB := Lib.hid hCB; clear hCB
      go_upto_region 6 with fail
      go_cut [22] from 7 to 53 (fun b wx => b = .bool CB ∧ wx = wr)
      case first =>
        by_cases hlt2 : i < p.size
        · have hjj : (i : Int) < (p.size : Int) := by omega
          have hbt : ((p[i]'hlt2).toNat : Int) = bt p i := bt_at p (i : Int) hlt2
          by_cases h46 : bt p i = 46
          · have hq : (((p[i]'hlt2).toNat : Int) != 46) = false := by rw [hbt, h46]; rfl
            clear hbt
            go_wp2_with fail
            go_meet
            exact ⟨by rw [← HCB.out]; simp [h46], rfl⟩
          · have hq : (((p[i]'hlt2).toNat : Int) != 46) = true := by rw [hbt]; simpa using h46
            clear hbt
            go_wp2_with fail
            go_meet
            exact ⟨by rw [← HCB.out]; simp [h46, hlt2], rfl⟩
        · have hjj : ¬ (i : Int) < (p.size : Int) := by omega
          go_wp2_with fail
          go_meet
          exact ⟨by rw [← HCB.out]; simp [hlt2], rfl⟩
      case rest =>
        obtain ⟨rfl, rfl⟩ := hcut
        cases CB with
        | true =>
          have hc := of_decide_eq_true HCB.out
          have hst := HST.out
          rw [if_pos hc] at hst
          have hi1 := hc.1
          clear HST hc HCB
          have HST := Lib.hid hst; clear hst
          go_wp2_with fail
          go_roundw
          case rel =>
            exact ⟨i + 1, g, out, by omega, by omega, hout, rfl, by go_num, by rw [HST.out]; congr 1; omega, HR.out, HB.out⟩
          case measure => simp [intOf]; omega
        | false =>
          have hc := of_decide_eq_false HCB.out
          have hst := HST.out
          rw [if_neg hc] at hst
          clear HST hc HCB
          obtain ⟨BB, hBB⟩ : ∃ b, stepsBad vstr p i g out.length = b := ⟨_, rfl⟩
          rw [hBB] at hst
          have HBB := Lib.hid hBB; clear hBB
          have HST := Lib.hid hst; clear hst
          go_upto_region 7 with fail
          go_cut [44] from 7 to 53 (fun b wx => b = .bool BB ∧ wx.ownsRow w.heap.size 9 1 (.slice r4 out.length k4) out.length (out.map Value.string) ∧ Below w.heap.size w wx)
          case first =>
            have hbb := HBB.out
            unfold stepsBad at hbb
            by_cases e1 : i = g
            · clear HBB
              rw [decide_eq_true e1, Bool.true_or, Bool.true_or, Bool.true_or] at hbb
              subst hbb
              subst e1
              go_wp2_with fail
              go_meet
              exact ⟨rfl, HR.out, HB.out⟩
            have t1 : ((i : Int) == (g : Int)) = false := by simp; omega
            by_cases e2 : 60 < i - g
            · have t2 : decide (60 < (i : Int) - (g : Int)) = true := decide_eq_true (by omega)
              clear HBB
              rw [decide_eq_true e2, Bool.or_true, Bool.true_or, Bool.true_or] at hbb
              subst hbb
              go_wp2_with fail
              go_meet
              exact ⟨rfl, HR.out, HB.out⟩
            have t2 : decide (60 < (i : Int) - (g : Int)) = false := decide_eq_false (by omega)
            by_cases e3 : out.length = 4
            · have t3 : ((out.length : Int) == 4) = true := by simp [e3]
              clear HBB
              rw [decide_eq_true e3, Bool.or_true, Bool.true_or] at hbb
              subst hbb
              clear e3
              go_wp2_with fail
              go_meet
              exact ⟨rfl, HR.out, HB.out⟩
            have t3 : ((out.length : Int) == 4) = false := by simp; omega
            rw [decide_eq_false e1, decide_eq_false e2, decide_eq_false e3, Bool.false_or, Bool.false_or, Bool.false_or] at hbb
            have hV := valid_any (p.extract g i) _ (by simp; omega) (HT.out.below HB.out)
            generalize vstr (p.extract g i) = r at hbb hV
            subst hbb
            clear HBB
            have hgi' : (g : Int) ≤ (i : Int) := by omega
            go_wp2_with fail
            refine hV.mono ?_; rintro e w' ⟨rfl, hb⟩
            have hR2 := own_below HR.out hb
            have hB2 := HB.out.trans (hb.mono HB.out.size)
            have HR2 := Lib.hid hR2
            have HB2 := Lib.hid hB2
            clear hR2 hB2 hb
            go_wp2_with fail
            go_meet
            exact ⟨rfl, HR2.out, HB2.out⟩
          case rest =>
            obtain ⟨rfl, hrow, hB⟩ := hcut
            clear HR HB
            cases BB with
            | true =>
              have hst := HST.out
              rw [if_pos rfl] at hst
              subst hst
              clear HST HBB
              have HB := Lib.hid hB; clear hB hrow
              go_wp2_with fail
              go_ret2
              exact ⟨rfl, HB.out⟩
            | false =>
              have hst := HST.out
              rw [if_neg (by simp)] at hst
              clear HST
              have HST := Lib.hid hst; clear hst
              have hle : out.length < 4 := by
                have := HBB.out
                unfold stepsBad at this
                simp only [Bool.or_eq_false_iff, decide_eq_false_iff_not] at this
                omega
              clear HBB
              have HB := Lib.hid hB; clear hB
              have hgi' : (g : Int) ≤ (i : Int) := by omega
              go_wp2_with (first
                | (at_builtin; refine wpList_append_lies _ rfl _ _ 22 rfl w.heap.size 9 i0 (.string ⟨#[]⟩) 1 16 Tryd.underlying22 hi hz0 hz1 hz2 rfl (by decide) _ _ _ rfl (hrow.alloc _) ⟨wc.heap.size, 0, none⟩ 1 1 [.string (p.extract g i)] rfl rfl (cell_one_new _ _ _) ?c2 (by decide) ?c3 ?c4 ?c5 _ rfl ?_)
                | go_in)
              case c2 => first | rfl | (intro u hu; simp at hu; subst hu; rfl)
              case c3 => first | rfl | (unfold maxLen; omega)
              case c4 => first | omega | (simp; omega)
              case c5 => have := HB.out.size; simp; omega
              intro gl cl' w1 hown1 hg1 hat1 hlt1
              have hB1 : Below w.heap.size w w1 := (HB.out.alloc HB.out.size _).grown hg1 (by simp; have := HB.out.size; omega) (fun j hj => (hrow.lt j hj).1)
              have H1 := Lib.hid hown1; clear hown1
              have HB1 := Lib.hid hB1; clear hB1
              clear hg1 hat1 hlt1 hrow
              go_wp2_with fail
              go_roundw
              case rel =>
                refine ⟨i + 1, i + 1, out ++ [p.extract g i], Nat.le_refl _, by omega, by simp; omega, by go_num, by go_num, by rw [HST.out]; congr 1; omega, ?_, HB1.out⟩
                simpa using H1.out
              case measure => simp [intOf]; omega
    · have hd : decide ((i : Int) ≤ (p.size : Int)) = false := decide_eq_false (by omega)
      have hS : ANS = some out := by rw [HS.out, show p.size + 1 - i = 0 by omega]; rfl
      have HSS := Lib.hid hS; clear hS HS
      go_wp2_with fail
      go_ret2
      refine ⟨?_, HB.out⟩
      rw [HSS.out]
      exact ⟨_, rfl, HR.out⟩

end Go.Proofs.YtehdnjegipcpfaaDoor
