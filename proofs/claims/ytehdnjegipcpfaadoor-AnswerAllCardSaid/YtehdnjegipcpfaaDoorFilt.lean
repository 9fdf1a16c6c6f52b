/-
  The contract of path.Steps, under utf8's tables. How many clauses a filter has, in plain Lean; the contract of filter.test; no condition. The contracts of filter.clause and filter.clauses at formed values, under utf8's tables. The contracts of filter.clauses and filter.Check, under utf8's tables.
-/
import Derived.Test.YtehdnjegipcpfaaDoorBase
namespace Go.Proofs.YtehdnjegipcpfaaDoor
open Go.RowKit Go.Proofs.YtehdnjegipcpfaaDoorW.PrintWords Go.Proofs.YtehdnjegipcpfaaDoorW.PrintLast Go.Proofs.YtehdnjegipcpfaaDoorW.PrintMore
open PFilterHolds Go.Shelf
theorem info9 : (Tryd.prog.info? 9).map (fun i => (i.zero, i.size, i.bytes)) = some (some (.string ⟨#[]⟩), 1, 16) := by kernel_rfl
def stepsBad (v : ByteArray → Bool) (p : ByteArray) (i g n : Nat) : Bool := decide (i = g) || decide (60 < i - g) || decide (n = 4) || !v (p.extract g i)
def stepsL (v : ByteArray → Bool) (p : ByteArray) : Nat → Nat → Nat → List ByteArray → Option (List ByteArray)
  | 0, _, _, out => some out
  | f + 1, i, g, out =>
    if i < p.size ∧ ¬ bt p i = 46 then stepsL v p f (i + 1) g out
    else if stepsBad v p i g out.length then none
    else stepsL v p f (i + 1) (i + 1) (out ++ [p.extract g i])
def stepsJ (v : ByteArray → Bool) (p : ByteArray) : Option (List ByteArray) := stepsL v p (p.size + 1) 0 0 []
theorem row_len {w : World} {base : Nat} {e : TypeId} {n : Nat} {v : Value} {xs : List Value} (h : w.ownsRow base e 1 v n xs) : ∃ r c, v = .slice r n c := by
  rcases h.2 with ⟨e, h0⟩ | ⟨g, cap, cur, rfl, _⟩
  · exact ⟨none, 0, by rw [h0]; exact e⟩
  · exact ⟨_, _, rfl⟩
theorem own_below {w w' : World} {base : Nat} {e : TypeId} {size n : Nat} {v : Value} {xs : List Value} (h : w.ownsRow base e size v n xs) (hb : Below w.heap.size w w') : w'.ownsRow base e size v n xs := by
  have hlt := h.lt
  obtain ⟨h1, h2⟩ := h
  refine ⟨h1, ?_⟩
  rcases h2 with h2 | ⟨g, cap, cur, rfl, hb', hg, r⟩
  · exact .inl h2
  · exact .inr ⟨g, cap, cur, rfl, hb', (hb.block g (hlt g rfl).2).trans hg, r⟩
def StepsEnd (base : Nat) (r : Option (List ByteArray)) (e : Ending) (w' : World) : Prop :=
  match r with
  | none => e = .returned (.tuple #[.slice none 0 0, .int .i64 2])
  | some l => ∃ v, e = .returned (.tuple #[v, .int .i64 0]) ∧ w'.ownsRow base 9 1 v l.length (l.map Value.string)
set_option maxRecDepth 100000 in
set_option maxHeartbeats 4000000 in
theorem steps_any (p : ByteArray) (w : World) (hT : Tabs w) (hp : p.size ≤ 1000000) :
    Calls Tryd.prog 73 #[.string p] w fun e w' => StepsEnd w.heap.size (stepsJ vstr p) e w' ∧ Below w.heap.size w w' := by
  obtain ⟨i0, hi, hz0, hz1, hz2⟩ := info_parts info9
  obtain ⟨ANS, hA⟩ : ∃ ANS, stepsJ vstr p = ANS := ⟨_, rfl⟩
  rw [hA]
  have HA := Lib.hid hA; clear hA
  have HT := Lib.hid hT; clear hT
  go_enter Tryd.func73, Tryd.ntmps73
  go_wp2
  go_loopw [4, 5, 6] (fun v4 v5 v6 wr => ∃ (i g : Nat) (out : List ByteArray), g ≤ i ∧ i ≤ p.size + 1 ∧ out.length ≤ 4 ∧ v5 = .int .i64 g ∧ v6 = .int .i64 i ∧ ANS = stepsL vstr p (p.size + 1 - i) i g out ∧ wr.ownsRow w.heap.size 9 1 v4 out.length (out.map Value.string) ∧ Below w.heap.size w wr)
    (fun _ _ v6 _ => p.size + 1 - (intOf v6).toNat)
  case atStart => exact ⟨0, 0, [], Nat.le_refl _, Nat.zero_le _, by simp, rfl, rfl, HA.out.symm, World.ownsRow_nil _ _ _ _, Below.refl _ _⟩
  case round =>
    obtain ⟨i, g, out, hgi, hip, hout, rfl, rfl, hS, hrow, hB⟩ := hrel
    have HS := Lib.hid hS; clear hS
    have HB := Lib.hid hB; clear hB
    obtain ⟨r4, k4, rfl⟩ := row_len hrow
    have HR := Lib.hid hrow; clear hrow
    by_cases hlt : i ≤ p.size
    · have hii : (i : Int) ≤ (p.size : Int) := by omega
      have hst := HS.out
      rw [show p.size + 1 - i = (p.size - i) + 1 by omega] at hst
      unfold stepsL at hst
      clear HS
      have HST := Lib.hid hst; clear hst
      obtain ⟨CB, hCB⟩ : ∃ b, decide (i < p.size ∧ ¬ bt p i = 46) = b := ⟨_, rfl⟩
      have HCB := Lib.hid hCB; clear hCB
      go_upto_region 6 with fail
      go_cut [22] from 7 to 53 (fun b wx => b = .bool CB ∧ wx = wr)
      case first =>
        by_cases hlt2 : i < p.size
        · have hjj : (i : Int) < (p.size : Int) := by omega
          have hbt : ((p[i]'hlt2).toNat : Int) = bt p i := bt_at p (i : Int) hlt2
          by_cases h46 : bt p i = 46
          · have hq : (((p[i]'hlt2).toNat : Int) != 46) = false := by rw [hbt, h46]; rfl
            clear hbt
            go_wp2_with fail
            go_meet
            exact ⟨by rw [← HCB.out]; simp [h46], rfl⟩
          · have hq : (((p[i]'hlt2).toNat : Int) != 46) = true := by rw [hbt]; simpa using h46
            clear hbt
            go_wp2_with fail
            go_meet
            exact ⟨by rw [← HCB.out]; simp [h46, hlt2], rfl⟩
        · have hjj : ¬ (i : Int) < (p.size : Int) := by omega
          go_wp2_with fail
          go_meet
          exact ⟨by rw [← HCB.out]; simp [hlt2], rfl⟩
      case rest =>
        obtain ⟨rfl, rfl⟩ := hcut
        cases CB with
        | true =>
          have hc := of_decide_eq_true HCB.out
          have hst := HST.out
          rw [if_pos hc] at hst
          have hi1 := hc.1
          clear HST hc HCB
          have HST := Lib.hid hst; clear hst
          go_wp2_with fail
          go_roundw
          case rel =>
            exact ⟨i + 1, g, out, by omega, by omega, hout, rfl, by go_num, by rw [HST.out]; congr 1; omega, HR.out, HB.out⟩
          case measure => simp [intOf]; omega
        | false =>
          have hc := of_decide_eq_false HCB.out
          have hst := HST.out
          rw [if_neg hc] at hst
          clear HST hc HCB
          obtain ⟨BB, hBB⟩ : ∃ b, stepsBad vstr p i g out.length = b := ⟨_, rfl⟩
          rw [hBB] at hst
          have HBB := Lib.hid hBB; clear hBB
          have HST := Lib.hid hst; clear hst
          go_upto_region 7 with fail
          go_cut [44] from 7 to 53 (fun b wx => b = .bool BB ∧ wx.ownsRow w.heap.size 9 1 (.slice r4 out.length k4) out.length (out.map Value.string) ∧ Below w.heap.size w wx)
          case first =>
            have hbb := HBB.out
            unfold stepsBad at hbb
            by_cases e1 : i = g
            · clear HBB
              rw [decide_eq_true e1, Bool.true_or, Bool.true_or, Bool.true_or] at hbb
              subst hbb
              subst e1
              go_wp2_with fail
              go_meet
              exact ⟨rfl, HR.out, HB.out⟩
            have t1 : ((i : Int) == (g : Int)) = false := by simp; omega
            by_cases e2 : 60 < i - g
            · have t2 : decide (60 < (i : Int) - (g : Int)) = true := decide_eq_true (by omega)
              clear HBB
              rw [decide_eq_true e2, Bool.or_true, Bool.true_or, Bool.true_or] at hbb
              subst hbb
              go_wp2_with fail
              go_meet
              exact ⟨rfl, HR.out, HB.out⟩
            have t2 : decide (60 < (i : Int) - (g : Int)) = false := decide_eq_false (by omega)
            by_cases e3 : out.length = 4
            · have t3 : ((out.length : Int) == 4) = true := by simp [e3]
              clear HBB
              rw [decide_eq_true e3, Bool.or_true, Bool.true_or] at hbb
              subst hbb
              clear e3
              go_wp2_with fail
              go_meet
              exact ⟨rfl, HR.out, HB.out⟩
            have t3 : ((out.length : Int) == 4) = false := by simp; omega
            rw [decide_eq_false e1, decide_eq_false e2, decide_eq_false e3, Bool.false_or, Bool.false_or, Bool.false_or] at hbb
            have hV := valid_any (p.extract g i) _ (by simp; omega) (HT.out.below HB.out)
            generalize vstr (p.extract g i) = r at hbb hV
            subst hbb
            clear HBB
            have hgi' : (g : Int) ≤ (i : Int) := by omega
            go_wp2_with fail
            refine hV.mono ?_; rintro e w' ⟨rfl, hb⟩
            have hR2 := own_below HR.out hb
            have hB2 := HB.out.trans (hb.mono HB.out.size)
            have HR2 := Lib.hid hR2
            have HB2 := Lib.hid hB2
            clear hR2 hB2 hb
            go_wp2_with fail
            go_meet
            exact ⟨rfl, HR2.out, HB2.out⟩
          case rest =>
            obtain ⟨rfl, hrow, hB⟩ := hcut
            clear HR HB
            cases BB with
            | true =>
              have hst := HST.out
              rw [if_pos rfl] at hst
              subst hst
              clear HST HBB
              have HB := Lib.hid hB; clear hB hrow
              go_wp2_with fail
              go_ret2
              exact ⟨rfl, HB.out⟩
            | false =>
              have hst := HST.out
              rw [if_neg (by simp)] at hst
              clear HST
              have HST := Lib.hid hst; clear hst
              have hle : out.length < 4 := by
                have := HBB.out
                unfold stepsBad at this
                simp only [Bool.or_eq_false_iff, decide_eq_false_iff_not] at this
                omega
              clear HBB
              have HB := Lib.hid hB; clear hB
              have hgi' : (g : Int) ≤ (i : Int) := by omega
              go_wp2_with (first
                | (at_builtin; refine wpList_append_lies _ rfl _ _ 22 rfl w.heap.size 9 i0 (.string ⟨#[]⟩) 1 16 Tryd.underlying22 hi hz0 hz1 hz2 rfl (by decide) _ _ _ rfl (hrow.alloc _) ⟨wc.heap.size, 0, none⟩ 1 1 [.string (p.extract g i)] rfl rfl (cell_one_new _ _ _) ?c2 (by decide) ?c3 ?c4 ?c5 _ rfl ?_)
                | go_in)
              case c2 => first | rfl | (intro u hu; simp at hu; subst hu; rfl)
              case c3 => first | rfl | (unfold maxLen; omega)
              case c4 => first | omega | (simp; omega)
              case c5 => have := HB.out.size; simp; omega
              intro gl cl' w1 hown1 hg1 hat1 hlt1
              have hB1 : Below w.heap.size w w1 := (HB.out.alloc HB.out.size _).grown hg1 (by simp; have := HB.out.size; omega) (fun j hj => (hrow.lt j hj).1)
              have H1 := Lib.hid hown1; clear hown1
              have HB1 := Lib.hid hB1; clear hB1
              clear hg1 hat1 hlt1 hrow
              go_wp2_with fail
              go_roundw
              case rel =>
                refine ⟨i + 1, i + 1, out ++ [p.extract g i], Nat.le_refl _, by omega, by simp; omega, by go_num, by go_num, by rw [HST.out]; congr 1; omega, ?_, HB1.out⟩
                simpa using H1.out
              case measure => simp [intOf]; omega
    · have hd : decide ((i : Int) ≤ (p.size : Int)) = false := decide_eq_false (by omega)
      have hS : ANS = some out := by rw [HS.out, show p.size + 1 - i = 0 by omega]; rfl
      have HSS := Lib.hid hS; clear hS HS
      go_wp2_with fail
      go_ret2
      refine ⟨?_, HB.out⟩
      rw [HSS.out]
      exact ⟨_, rfl, HR.out⟩
end Go.Proofs.YtehdnjegipcpfaaDoor
namespace Go.Proofs.YtehdnjegipcpfaaDoor
open Go.RowKit Go.Proofs.YtehdnjegipcpfaaDoorW.PrintWords Go.Proofs.YtehdnjegipcpfaaDoorW.PrintLast Go.Proofs.YtehdnjegipcpfaaDoorW.PrintMore
open PFilterHolds Go.Shelf
def testJ (s : ByteArray) (v : S25) : Bool :=
  if s.toList = [36, 101, 113] ∨ s.toList = [36, 110, 101] ∨ s.toList = [36, 108, 116] ∨ s.toList = [36, 108, 101] ∨ s.toList = [36, 103, 116] ∨ s.toList = [36, 103, 101] then true
  else if s.toList = [36, 105, 110] then v.f0 == 5
  else if s.toList = [36, 104, 97, 115] then v.f0 == 2 || v.f0 == 1
  else false
theorem test_tot (s : ByteArray) (v : S25) : filter_test.f 1 s v.f0 v.f1 v.f2 v.f3 v.f4 = some (testJ s v) := by
  unfold filter_test.f testJ filter_test.j0
  by_cases h1 : s.toList = [36, 101, 113]
  · simp [h1]
  by_cases h2 : s.toList = [36, 110, 101]
  · simp [h2]
  by_cases h3 : s.toList = [36, 108, 116]
  · simp [h3]
  by_cases h4 : s.toList = [36, 108, 101]
  · simp [h4]
  by_cases h5 : s.toList = [36, 103, 116]
  · simp [h5]
  by_cases h6 : s.toList = [36, 103, 101]
  · simp [h6]
  by_cases h7 : s.toList = [36, 105, 110]
  · simp [h7]
  by_cases h8 : s.toList = [36, 104, 97, 115]
  · simp only [h8]
    by_cases e : v.f0 = 2 <;> simp [e]
  · simp [h1, h2, h3, h4, h5, h6, h7, h8]
theorem test_any (s : ByteArray) (v : S25) (A3 : Option Addr) (c3 : Nat) (A4 : Option Addr) (c4 : Nat) (w : World) (h : Rd w A3 c3 A4 c4 v) :
    Calls Tryd.prog 88 #[.string s, av v A3 c3 A4 c4] w fun e w' => e = .returned (.bool (testJ s v)) ∧ Below w.heap.size w w' :=
  (filter_test.calls 1 s v.f0 v.f1 v.f2 A3 c3 v.f3 A4 c4 v.f4 (testJ s v) w h.g3 h.l3 h.g4 h.l4 (test_tot s v)).mono fun _ _ ⟨he, hb⟩ => ⟨he, hb⟩
theorem formed_mono : ∀ (k : Nat) (x : S25), formedJ k x = true → formedJ (k + 1) x = true
  | 0, x, h => by unfold formedJ at h; cases h
  | k + 1, x, h => by
    unfold formedJ at h ⊢
    simp only [Bool.and_eq_true] at h ⊢
    refine ⟨h.1, ?_⟩
    have h2 := h.2
    by_cases h5 : x.f0 < 5
    · rw [if_pos h5] at h2 ⊢; exact h2
    · rw [if_neg h5] at h2 ⊢
      simp only [Bool.and_eq_true, List.all_eq_true] at h2 ⊢
      exact ⟨h2.1, fun y hy => formed_mono k y (h2.2 y hy)⟩
def sumO : List (Option Nat) → Option Nat
  | [] => some 0
  | none :: _ => none
  | some a :: l => (sumO l).map (a + ·)
def isAnd (s : ByteArray) : Bool := s.toList == [36, 97, 110, 100]
def isOr (s : ByteArray) : Bool := s.toList == [36, 111, 114]
def isNot (s : ByteArray) : Bool := s.toList == [36, 110, 111, 116]
def testsOk (v : S25) : Bool := (List.range' 0 v.f3.length).all (fun i => testJ (v.f3.getD i ByteArray.empty) (v.f4.getD i z25))
def clauseJ (cl : S25 → Option Nat) (s : ByteArray) (v : S25) : Option Nat :=
  if isAnd s || isOr s then (if v.f0 != 5 || v.f4.length == 0 then none else (sumO (v.f4.map cl)).map (1 + ·))
  else if isNot s then (cl v).map (1 + ·)
  else if sgn s then none
  else if stepsJ vstr s = none then none
  else if testsJ v && !testsOk v then none
  else some 1
def clausesJ : Nat → S25 → Option Nat
  | 0, _ => none
  | k + 1, f => if f.f0 != 6 then none else sumO ((List.range' 0 f.f3.length).map (fun i => clauseJ (clausesJ k) (f.f3.getD i ByteArray.empty) (f.f4.getD i z25)))
def encO : Option Nat → Int
  | none => -1
  | some n => n
theorem sumO_le (b : Nat) : ∀ (l : List (Option Nat)), (∀ o ∈ l, ∀ n, o = some n → n ≤ b) → ∀ n, sumO l = some n → n ≤ l.length * b
  | [], _, n, h => by simp [sumO] at h; omega
  | none :: l, _, n, h => by simp [sumO] at h
  | some a :: l, hl, n, h => by
    simp only [sumO, Option.map_eq_some_iff] at h
    obtain ⟨m, hm, rfl⟩ := h
    have h1 := hl (some a) (by simp) a rfl
    have h2 := sumO_le b l (fun o ho => hl o (by simp [ho])) m hm
    simp only [List.length_cons, Nat.add_mul, Nat.one_mul]
    omega
theorem items_formed {k : Nat} {x : S25} (h : formedJ k x = true) : ∀ y ∈ x.f4, formedJ k y = true := by
  cases k with
  | zero => unfold formedJ at h; cases h
  | succ k => exact fun y hy => formed_mono k y ((formed_parts h).2.2.1 y hy)
theorem few_items {k : Nat} {x : S25} (h : formedJ k x = true) : x.f3.length ≤ 24 ∧ x.f4.length ≤ 24 := by
  cases k with
  | zero => unfold formedJ at h; cases h
  | succ k => exact ⟨(formed_parts h).1, (formed_parts h).2.1⟩
theorem clause_le {cl : S25 → Option Nat} {k b : Nat} (hb : ∀ x, formedJ k x = true → ∀ n, cl x = some n → n ≤ b) {s : ByteArray} {v : S25} (hv : formedJ k v = true) : ∀ n, clauseJ cl s v = some n → n ≤ 1 + 24 * b := by
  intro n h
  have h4 := (few_items hv).2
  unfold clauseJ at h
  repeat' split at h
  all_goals first | (cases h; done) | skip
  · simp only [Option.map_eq_some_iff] at h
    obtain ⟨m, hm, rfl⟩ := h
    have := sumO_le b _ (fun o ho n e => by
      obtain ⟨y, hy', hy⟩ := List.mem_map.1 ho
      exact hb y (items_formed hv y hy') n (hy.trans e)) m hm
    rw [List.length_map] at this
    have := Nat.mul_le_mul_right b h4
    omega
  · simp only [Option.map_eq_some_iff] at h
    obtain ⟨m, hm, rfl⟩ := h
    have := hb v hv m hm
    omega
  · injection h with h
    omega
theorem clauses_le : ∀ (k : Nat) (x : S25), formedJ k x = true → ∀ n, clausesJ k x = some n → n ≤ 1000 ^ k
  | 0, x, h, n, hn => by simp [clausesJ] at hn
  | k + 1, x, h, n, hn => by
    obtain ⟨p1, p2, p3, p4, p5, p6, p7, p8, p9⟩ := formed_parts h
    unfold clausesJ at hn
    split at hn
    · cases hn
    rename_i hk
    have hk6 : x.f0 = 6 := by simpa using hk
    have hl := p6 hk6
    have := sumO_le (1 + 24 * 1000 ^ k) _ (fun o ho n e => by
      obtain ⟨i, hi, hy⟩ := List.mem_map.1 ho
      have hi' : i < x.f4.length := by simp at hi; omega
      refine clause_le (k := k) (fun y hy n => clauses_le k y hy n) (s := x.f3.getD i ByteArray.empty) (v := x.f4.getD i z25) ?_ n (hy.trans e)
      rw [List.getD_eq_getElem?_getD, List.getElem?_eq_getElem hi']
      exact p3 _ (List.getElem_mem hi')) n hn
    rw [List.length_map, List.length_range'] at this
    have h1 : 1 ≤ 1000 ^ k := Nat.one_le_pow _ _ (by omega)
    have h2 : 1000 ^ (k + 1) = 1000 * 1000 ^ k := by rw [Nat.pow_succ]; omega
    have h3 := Nat.mul_le_mul_right (1 + 24 * 1000 ^ k) p1
    omega
end Go.Proofs.YtehdnjegipcpfaaDoor
namespace Go.Proofs.YtehdnjegipcpfaaDoor
open Go.RowKit Go.Proofs.YtehdnjegipcpfaaDoorW.PrintWords Go.Proofs.YtehdnjegipcpfaaDoorW.PrintLast Go.Proofs.YtehdnjegipcpfaaDoorW.PrintMore
open PFilterHolds Go.Shelf
def ClausesAt (k : Nat) : Prop := ∀ (x : S25) (A3 : Option Addr) (c3 : Nat) (A4 : Option Addr) (c4 : Nat) (w : World), formedJ k x = true → Rd w A3 c3 A4 c4 x → Tabs w →
    Calls Tryd.prog 35 #[av x A3 c3 A4 c4] w fun e w' => e = .returned (.int .i64 (encO (clausesJ k x))) ∧ Below w.heap.size w w'
def countO (n : Nat) (l : List (Option Nat)) : Option Nat := (sumO l).map (n + ·)
theorem countO_none (n : Nat) (l : List (Option Nat)) : countO n (none :: l) = none := rfl
theorem countO_some (n a : Nat) (l : List (Option Nat)) : countO n (some a :: l) = countO (n + a) l := by
  unfold countO
  simp only [sumO, Option.map_map]
  congr 1
  funext m
  simp [Nat.add_assoc]
theorem names_items {k : Nat} {x : S25} (h : formedJ k x = true) (h6 : x.f0 = 6) : x.f3.length = x.f4.length := by
  cases k with
  | zero => unfold formedJ at h; cases h
  | succ k => exact (formed_parts h).2.2.2.2.2.1 h6
set_option maxRecDepth 100000 in
set_option maxHeartbeats 4000000 in
theorem clause_any (k : Nat) (hk : k ≤ 5) (ih : ClausesAt k) (s : ByteArray) (hs : s.size ≤ 1000) (x : S25) (A3 : Option Addr) (c3 : Nat) (A4 : Option Addr) (c4 : Nat) (w : World) (hf : formedJ k x = true) (h : Rd w A3 c3 A4 c4 x) (hT : Tabs w) :
    Calls Tryd.prog 59 #[.string s, av x A3 c3 A4 c4] w fun e w' => e = .returned (.int .i64 (encO (clauseJ (clausesJ k) s x))) ∧ Below w.heap.size w w' := by
  obtain ⟨hl3, hl4⟩ := few_items hf
  have hb0 : Below w.heap.size w (w.alloc (.cells #[.int .i64 x.f0, .int .i64 x.f1, .string x.f2, .slice A3 x.f3.length c3, .slice A4 x.f4.length c4] 25)) := (Below.refl _ w).alloc (Nat.le_refl _) _
  have hblk := new_blk w (.cells #[.int .i64 x.f0, .int .i64 x.f1, .string x.f2, .slice A3 x.f3.length c3, .slice A4 x.f4.length c4] 25)
  have hpow : (1000 : Nat) ^ k ≤ 1000 ^ 5 := Nat.pow_le_pow_right (by omega) hk
  have hle := fun (y : S25) (hy : formedJ k y = true) => clauses_le k y hy
  have hit := items_formed hf
  obtain ⟨ANS, hA⟩ : ∃ ANS, clauseJ (clausesJ k) s x = ANS := ⟨_, rfl⟩
  rw [hA]
  have HA := Lib.hid hA; clear hA
  have HB0 := Lib.hid hb0; clear hb0
  have HBK := Lib.hid hblk; clear hblk
  have HT := Lib.hid hT; clear hT
  have HI := Lib.hid ih; clear ih
  have HF := Lib.hid hf; clear hf
  have HL := Lib.hid hle; clear hle
  have HIT := Lib.hid hit; clear hit
  have HRD := Lib.hid h; clear h
  obtain ⟨AO, hAO⟩ : ∃ b, (isAnd s || isOr s) = b := ⟨_, rfl⟩
  have HAO := Lib.hid hAO; clear hAO
  obtain ⟨x0, x1, x2, x3, x4⟩ := x
  simp only at hl3 hl4
  go_enter Tryd.func59, Tryd.ntmps59
  go_upto_region 1 with fail
  go_cut [14] from 15 to 20 (fun b wx => b = .bool AO ∧ Below w.heap.size w wx ∧ wx.heap[w.heap.size]? = some (.cells #[.int .i64 x0, .int .i64 x1, .string x2, .slice A3 x3.length c3, .slice A4 x4.length c4] 25 (0, 0)))
  case first =>
    have hAO := HAO.out
    unfold isAnd isOr at hAO
    cases t1 : s.toList == [36, 97, 110, 100] with
    | true =>
      rw [t1, Bool.true_or] at hAO
      subst hAO
      go_wp2_with fail
      go_meet
      exact ⟨rfl, HB0.out, HBK.out⟩
    | false =>
      rw [t1, Bool.false_or] at hAO
      subst hAO
      go_wp2_with fail
      go_meet
      exact ⟨rfl, HB0.out, HBK.out⟩
  case rest =>
    obtain ⟨rfl, hB, hK⟩ := hcut
    have f0 : wc.cell? ⟨w.heap.size, 0, none⟩ = some (.int .i64 x0) := (blk_cell hK 0).trans rfl
    have f4 : wc.cell? ⟨w.heap.size, 4, none⟩ = some (.slice A4 x4.length c4) := (blk_cell hK 4).trans rfl
    have HB := Lib.hid hB; clear hB
    have HK := Lib.hid hK; clear hK
    clear HB0 HBK
    have hA := HA.out
    unfold clauseJ at hA
    rw [HAO.out] at hA
    clear HA
    cases AO with
    | true =>
      rw [if_pos rfl] at hA
      clear HAO
      cases b1 : x0 != 5 with
      | true =>
        rw [b1, Bool.true_or, if_pos rfl] at hA
        subst hA
        go_wp2_with fail
        go_ret
        exact ⟨rfl, HB.out⟩
      | false =>
        rw [b1, Bool.false_or] at hA
        cases b2 : ((x4.length : Int) == 0) with
        | true =>
          have : (x4.length == 0) = true := by simpa using b2
          rw [if_pos this] at hA
          subst hA
          go_wp2_with fail
          go_ret
          exact ⟨rfl, HB.out⟩
        | false =>
          have : ¬ (x4.length == 0) = true := by
            intro e
            have e' : x4.length = 0 := by simpa using e
            rw [e'] at b2
            cases b2
          rw [if_neg this] at hA
          clear this
          have HA := Lib.hid hA; clear hA
          go_wp2_with fail
          go_loopw [5, 7, 8, 33] (fun v5 v7 v8 v33 wr => ∃ j n : Nat, j ≤ x4.length ∧ n ≤ 1 + j * 1000 ^ 5 ∧ v33 = .int .i64 j ∧ v5 = .int .i64 n ∧ ANS = countO n ((x4.drop j).map (clausesJ k)) ∧ Below w.heap.size w wr) (fun _ _ _ v33 _ => x4.length - (intOf v33).toNat)
          case atStart => exact ⟨0, 1, Nat.zero_le _, by omega, rfl, rfl, HA.out.symm, HB.out⟩
          case round =>
            obtain ⟨j, n, hj, hn, rfl, rfl, hS, hBr⟩ := hrel
            have HS := Lib.hid hS; clear hS
            have HR := Lib.hid hBr; clear hBr
            clear f0 f4
            by_cases hlt : j < x4.length
            · have hji : (j : Int) < (x4.length : Int) := by omega
              obtain ⟨y, hy⟩ : ∃ y, x4[j]? = some y := ⟨_, List.getElem?_eq_getElem hlt⟩
              obtain ⟨b, o, B3, d3, B4, d4, rfl, hb, e0, e1, e2, e3, e4, hR⟩ := item_of HRD.out.g4 rfl j y hy
              replace e0 := (HR.out.cell (World.block_lt_of_cell? w _ e0)).trans e0
              replace e1 := (HR.out.cell (World.block_lt_of_cell? w _ e1)).trans e1
              replace e2 := (HR.out.cell (World.block_lt_of_cell? w _ e2)).trans e2
              replace e3 := (HR.out.cell (World.block_lt_of_cell? w _ e3)).trans e3
              replace e4 := (HR.out.cell (World.block_lt_of_cell? w _ e4)).trans e4
              have hw1 : b < wr.heap.size := Nat.lt_of_lt_of_le hb HR.out.size
              have hfy : formedJ k y = true := HIT.out y (List.mem_of_getElem? hy)
              have hcall := fun W (hbW : Below w.heap.size w W) => HI.out y B3 d3 B4 d4 W hfy (hR.below hbW) (HT.out.below hbW)
              have hley := HL.out y hfy
              have hd : x4.drop j = y :: x4.drop (j + 1) := by
                obtain ⟨hi, rfl⟩ := List.getElem?_eq_some_iff.1 hy
                exact List.drop_eq_getElem_cons hi
              have HD := Lib.hid hd; clear hd
              clear hR hy
              have HC := Lib.hid hcall; clear hcall
              obtain ⟨y0, y1, y2, y3, y4⟩ := y
              obtain ⟨q, hq⟩ : ∃ q, clausesJ k ⟨y0, y1, y2, y3, y4⟩ = q := ⟨_, rfl⟩
              have hcw := HC.out (wr.alloc (.cells #[.int .i64 y0, .int .i64 y1, .string y2, .slice B3 y3.length d3, .slice B4 y4.length d4] 25)) (HR.out.alloc HR.out.size _)
              rw [hq] at hcw
              have hbig : ∀ a, q = some a → a ≤ 1000 ^ 5 := fun a e => Nat.le_trans (hley a (hq.trans e)) hpow
              have HQ := Lib.hid hq; clear hq hley HC
              have hB1 : Below w.heap.size w (wr.alloc (.cells #[.int .i64 y0, .int .i64 y1, .string y2, .slice B3 y3.length d3, .slice B4 y4.length d4] 25)) := HR.out.alloc HR.out.size _
              have HB1 := Lib.hid hB1; clear hB1
              cases q with
              | none =>
                clear hbig
                have hno : ANS = none := by rw [HS.out, HD.out, List.map_cons, HQ.out, countO_none]
                subst hno
                clear HS
                go_wp2_with fail
                refine hcw.mono ?_; rintro e w' ⟨rfl, hb'⟩
                have HB' := Lib.hid hb'; clear hb' hcw
                simp only [encO]
                go_wp2_with fail
                go_ret
                exact ⟨rfl, HB1.out.trans (HB'.out.mono HB1.out.size)⟩
              | some a =>
                have ha := hbig a rfl
                clear hbig
                have hS2 : ANS = countO (n + a) ((x4.drop (j + 1)).map (clausesJ k)) := by rw [HS.out, HD.out, List.map_cons, HQ.out, countO_some]
                have HS2 := Lib.hid hS2; clear hS2 HS
                have hncap : (n : Int) + a ≤ 25 * 1000 ^ 5 + 1 := by
                  have : j * 1000 ^ 5 ≤ 24 * 1000 ^ 5 := Nat.mul_le_mul_right _ (by omega)
                  omega
                go_wp2_with fail
                refine hcw.mono ?_; rintro e w' ⟨rfl, hb'⟩
                have HB' := Lib.hid hb'; clear hb' hcw
                simp only [encO]
                go_wp2_with fail
                go_roundw
                case rel =>
                  refine ⟨j + 1, n + a, by omega, by rw [Nat.add_mul]; omega, by go_num, ?_, HS2.out, HB1.out.trans (HB'.out.mono HB1.out.size)⟩
                  rw [show ((n + a : Nat) : Int) = (n : Int) + a by omega]
                case measure => simp [intOf]; omega
            · have hnl : ¬ (j : Int) < (x4.length : Int) := by omega
              have hS : ANS = some n := by rw [HS.out, List.drop_eq_nil_of_le (by omega)]; rfl
              subst hS
              clear HS
              go_wp2_with fail
              go_ret
              exact ⟨rfl, HR.out⟩
    | false =>
      rw [if_neg (by simp)] at hA
      clear HAO
      cases t2 : s.toList == [36, 110, 111, 116] with
      | true =>
        rw [show isNot s = true from t2, if_pos rfl] at hA
        have hcall := HI.out ⟨x0, x1, x2, x3, x4⟩ A3 c3 A4 c4 wc HF.out (HRD.out.below HB.out) (HT.out.below HB.out)
        obtain ⟨q, hq⟩ : ∃ q, clausesJ k ⟨x0, x1, x2, x3, x4⟩ = q := ⟨_, rfl⟩
        have hbig : ∀ a, q = some a → a ≤ 1000 ^ 5 := fun a e => Nat.le_trans (HL.out _ HF.out a (hq.trans e)) hpow
        have f1 : wc.cell? ⟨w.heap.size, 1, none⟩ = some (.int .i64 x1) := (blk_cell HK.out 1).trans rfl
        have f2 : wc.cell? ⟨w.heap.size, 2, none⟩ = some (.string x2) := (blk_cell HK.out 2).trans rfl
        have f3 : wc.cell? ⟨w.heap.size, 3, none⟩ = some (.slice A3 x3.length c3) := (blk_cell HK.out 3).trans rfl
        rw [hq] at hA hcall
        clear hq
        cases q with
        | none =>
          simp only [Option.map_none, encO] at hA hcall
          subst hA
          go_wp2_with fail
          refine hcall.mono ?_; rintro e w' ⟨rfl, hb'⟩
          have HB' := Lib.hid hb'; clear hb' hcall
          go_wp2_with fail
          go_ret
          exact ⟨rfl, HB.out.trans (HB'.out.mono HB.out.size)⟩
        | some a =>
          have ha := hbig a rfl
          simp only [Option.map_some, encO] at hA hcall
          subst hA
          have hb1 : decide (0 ≤ (a : Int)) = true := decide_eq_true (by omega)
          go_wp2_with fail
          refine hcall.mono ?_; rintro e w' ⟨rfl, hb'⟩
          have HB' := Lib.hid hb'; clear hb' hcall
          go_wp2_with fail
          go_ret
          refine ⟨?_, HB.out.trans (HB'.out.mono HB.out.size)⟩
          simp only [encO]
          rw [show ((1 + a : Nat) : Int) = (a : Int) + 1 by omega]
          rfl
      | false =>
        rw [show isNot s = false from t2, if_neg (by simp)] at hA
        have hP := prefix_any s wc
        cases t3 : sgn s with
        | true =>
          rw [t3] at hA hP
          rw [if_pos rfl] at hA
          subst hA
          go_wp2_with fail
          refine hP.mono ?_; rintro e w' ⟨rfl, hb'⟩
          have HB' := Lib.hid hb'; clear hb' hP
          go_wp2_with fail
          go_ret
          exact ⟨rfl, HB.out.trans (HB'.out.mono HB.out.size)⟩
        | false =>
          rw [t3] at hA hP
          rw [if_neg (by simp)] at hA
          have HA := Lib.hid hA; clear hA
          clear f0 f4
          go_wp2_with fail
          refine hP.mono ?_; rintro e w' ⟨rfl, hb'⟩
          have hB1 := HB.out.trans (hb'.mono HB.out.size)
          have hK1 := blk_below HK.out hb'
          clear hP hb' HK HB
          have HB := Lib.hid hB1
          have HK := Lib.hid hK1
          have hS := steps_any s w' (HT.out.below hB1) (by omega)
          clear hB1 hK1
          go_wp2_with fail
          refine hS.mono ?_; rintro e w2 ⟨he, hb'⟩
          have hB1 := HB.out.trans (hb'.mono HB.out.size)
          have hK1 := blk_below HK.out hb'
          clear hS hb' HK HB
          have HB := Lib.hid hB1; clear hB1
          have HK := Lib.hid hK1; clear hK1
          cases hst : stepsJ vstr s with
          | none =>
            rw [hst] at he
            obtain rfl := he
            have hA := HA.out
            rw [hst, if_pos rfl] at hA
            subst hA
            clear HA
            go_wp2_with fail
            go_ret
            exact ⟨rfl, HB.out⟩
          | some l =>
            rw [hst] at he
            obtain ⟨v, rfl, hrow⟩ := he
            obtain ⟨rv, kv, rfl⟩ := row_len hrow
            have hA := HA.out
            rw [hst, if_neg (by simp)] at hA
            clear HA hrow hst
            have HA := Lib.hid hA; clear hA
            have f0 : w2.cell? ⟨w.heap.size, 0, none⟩ = some (.int .i64 x0) := (blk_cell HK.out 0).trans rfl
            have f1 : w2.cell? ⟨w.heap.size, 1, none⟩ = some (.int .i64 x1) := (blk_cell HK.out 1).trans rfl
            have f2 : w2.cell? ⟨w.heap.size, 2, none⟩ = some (.string x2) := (blk_cell HK.out 2).trans rfl
            have f3 : w2.cell? ⟨w.heap.size, 3, none⟩ = some (.slice A3 x3.length c3) := (blk_cell HK.out 3).trans rfl
            have f4 : w2.cell? ⟨w.heap.size, 4, none⟩ = some (.slice A4 x4.length c4) := (blk_cell HK.out 4).trans rfl
            have hTs := tests_any ⟨x0, x1, x2, x3, x4⟩ A3 c3 A4 c4 w2 (HRD.out.below HB.out) (by show x3.length ≤ 1000000; omega)
            cases hts : testsJ ⟨x0, x1, x2, x3, x4⟩ with
            | false =>
              rw [hts] at hTs
              have hA := HA.out
              rw [hts, Bool.false_and, if_neg (by simp)] at hA
              subst hA
              clear HA
              go_wp2_with fail
              refine hTs.mono ?_; rintro e w3 ⟨rfl, hb'⟩
              have HB' := Lib.hid hb'; clear hb' hTs
              go_wp2_with fail
              go_ret
              exact ⟨rfl, HB.out.trans (HB'.out.mono HB.out.size)⟩
            | true =>
              rw [hts] at hTs
              have hx6 : x0 = 6 := by
                unfold testsJ at hts
                simp only [Bool.and_eq_true, beq_iff_eq] at hts
                exact hts.1
              have HLEN := Lib.hid (names_items HF.out hx6)
              have hA := HA.out
              rw [hts, Bool.true_and] at hA
              clear HA hts hx6
              have HA := Lib.hid hA; clear hA
              go_wp2_with fail
              refine hTs.mono ?_; rintro e w3 ⟨rfl, hb'⟩
              have hB1 := HB.out.trans (hb'.mono HB.out.size)
              have hK1 := blk_below HK.out hb'
              clear hTs hb' HK HB f0 f1 f2 f3 f4
              have HB := Lib.hid hB1; clear hB1
              have HK := Lib.hid hK1; clear hK1
              have f3 : w3.cell? ⟨w.heap.size, 3, none⟩ = some (.slice A3 x3.length c3) := (blk_cell HK.out 3).trans rfl
              go_wp2_with fail
              go_loopw [12, 13, 70] (fun v12 v13 v70 wr => ∃ j : Nat, j ≤ x3.length ∧ v70 = .int .i64 j ∧ (∀ i, i < j → testJ (x3.getD i ByteArray.empty) (x4.getD i z25) = true) ∧ Below w.heap.size w wr ∧ wr.heap[w.heap.size]? = some (.cells #[.int .i64 x0, .int .i64 x1, .string x2, .slice A3 x3.length c3, .slice A4 x4.length c4] 25 (0, 0))) (fun _ _ v70 _ => x3.length - (intOf v70).toNat)
              case atStart => exact ⟨0, Nat.zero_le _, rfl, fun i hi => absurd hi (Nat.not_lt_zero _), HB.out, HK.out⟩
              case round =>
                obtain ⟨j, hj, rfl, hok, hBr, hKr⟩ := hrel
                have f4 : wr.cell? ⟨w.heap.size, 4, none⟩ = some (.slice A4 x4.length c4) := (blk_cell hKr 4).trans rfl
                have HO := Lib.hid hok; clear hok
                have HR := Lib.hid hBr; clear hBr
                have HKR := Lib.hid hKr; clear hKr
                clear f3
                by_cases hlt : j < x3.length
                · have hji : (j : Int) < (x3.length : Int) := by omega
                  have hj4 : j < x4.length := by have := HLEN.out; omega
                  have hji' : (j : Int) < (x4.length : Int) := by omega
                  obtain ⟨t, ht⟩ : ∃ t, x3[j]? = some t := ⟨_, List.getElem?_eq_getElem hlt⟩
                  obtain ⟨y, hy⟩ : ∃ y, x4[j]? = some y := ⟨_, List.getElem?_eq_getElem hj4⟩
                  obtain ⟨b', o', rfl, hb', e9⟩ := name_of HRD.out.g3 rfl j t ht
                  obtain ⟨b, o, B3, d3, B4, d4, rfl, hb, e0, e1, e2, e3, e4, hR⟩ := item_of HRD.out.g4 rfl j y hy
                  replace e9 := (HR.out.cell (World.block_lt_of_cell? w _ e9)).trans e9
                  replace e0 := (HR.out.cell (World.block_lt_of_cell? w _ e0)).trans e0
                  replace e1 := (HR.out.cell (World.block_lt_of_cell? w _ e1)).trans e1
                  replace e2 := (HR.out.cell (World.block_lt_of_cell? w _ e2)).trans e2
                  replace e3 := (HR.out.cell (World.block_lt_of_cell? w _ e3)).trans e3
                  replace e4 := (HR.out.cell (World.block_lt_of_cell? w _ e4)).trans e4
                  have hcall := test_any t y B3 d3 B4 d4 wr (hR.below HR.out)
                  have hget : testJ (x3.getD j ByteArray.empty) (x4.getD j z25) = testJ t y := by
                    rw [List.getD_eq_getElem?_getD, ht, List.getD_eq_getElem?_getD, hy]; rfl
                  have HG := Lib.hid hget; clear hget
                  clear hR hy ht
                  obtain ⟨y0, y1, y2, y3, y4⟩ := y
                  cases hq : testJ t ⟨y0, y1, y2, y3, y4⟩ with
                  | false =>
                    rw [hq] at hcall
                    have hno : testsOk ⟨x0, x1, x2, x3, x4⟩ = false := List.all_eq_false.2 ⟨j, by simpa using hlt, by rw [HG.out, hq]; simp⟩
                    have hA := HA.out
                    rw [hno] at hA
                    simp only [Bool.not_false, if_true] at hA
                    subst hA
                    clear HA hno
                    go_wp2_with fail
                    refine hcall.mono ?_; rintro e w' ⟨rfl, hb'⟩
                    have HB' := Lib.hid hb'; clear hb' hcall
                    go_wp2_with fail
                    go_ret
                    exact ⟨rfl, HR.out.trans (HB'.out.mono HR.out.size)⟩
                  | true =>
                    rw [hq] at hcall
                    have HQ := Lib.hid hq; clear hq
                    go_wp2_with fail
                    refine hcall.mono ?_; rintro e w' ⟨rfl, hb'⟩
                    have HB' := Lib.hid hb'; clear hb' hcall
                    go_wp2_with fail
                    go_roundw
                    case rel =>
                      refine ⟨j + 1, by omega, by go_num, fun i hi => ?_, HR.out.trans (HB'.out.mono HR.out.size), blk_below HKR.out HB'.out⟩
                      by_cases hi' : i < j
                      · exact HO.out i hi'
                      · obtain rfl : i = j := by omega
                        rw [HG.out, HQ.out]
                    case measure => simp [intOf]; omega
                · have hnl : ¬ (j : Int) < (x3.length : Int) := by omega
                  have hall : testsOk ⟨x0, x1, x2, x3, x4⟩ = true := List.all_eq_true.2 (fun i hi => HO.out i (by
                    have h1 : i < x3.length := by simpa using hi
                    omega))
                  have hA := HA.out
                  rw [hall] at hA
                  simp only [Bool.not_true, Bool.false_eq_true, if_false] at hA
                  subst hA
                  clear HA hall
                  go_wp2_with fail
                  go_ret
                  exact ⟨rfl, HR.out⟩
end Go.Proofs.YtehdnjegipcpfaaDoor
namespace Go.Proofs.YtehdnjegipcpfaaDoor
open Go.RowKit Go.Proofs.YtehdnjegipcpfaaDoorW.PrintWords Go.Proofs.YtehdnjegipcpfaaDoorW.PrintLast Go.Proofs.YtehdnjegipcpfaaDoorW.PrintMore
open PFilterHolds Go.Shelf
theorem name_few {k : Nat} {x : S25} (h : formedJ (k + 1) x = true) : ∀ s ∈ x.f3, s.size ≤ 60 := by
  intro s hs
  have h9 := (formed_parts h).2.2.2.2.2.2.2.2
  obtain ⟨i, hi, rfl⟩ := List.getElem_of_mem hs
  have := List.all_eq_true.1 h9 i (by simpa using hi)
  unfold okAt textJ at this
  simp only [Bool.and_eq_true, decide_eq_true_eq] at this
  have h1 := this.1.1
  rw [List.getD_eq_getElem?_getD, List.getElem?_eq_getElem hi] at h1
  exact h1
set_option maxRecDepth 100000 in
set_option maxHeartbeats 4000000 in
theorem clauses_step (k : Nat) (hk : k ≤ 5) (ih : ClausesAt k) : ClausesAt (k + 1) := by
  intro x A3 c3 A4 c4 w hf h hT
  obtain ⟨hl3, hl4⟩ := few_items hf
  have hnm := name_few hf
  have hit := (formed_parts hf).2.2.1
  have hni := fun h6 => names_items hf h6
  have hb0 : Below w.heap.size w (w.alloc (.cells #[.int .i64 x.f0, .int .i64 x.f1, .string x.f2, .slice A3 x.f3.length c3, .slice A4 x.f4.length c4] 25)) := (Below.refl _ w).alloc (Nat.le_refl _) _
  have hblk := new_blk w (.cells #[.int .i64 x.f0, .int .i64 x.f1, .string x.f2, .slice A3 x.f3.length c3, .slice A4 x.f4.length c4] 25)
  have hpow : (1000 : Nat) ^ k ≤ 1000 ^ 5 := Nat.pow_le_pow_right (by omega) hk
  have hcl : ∀ (s : ByteArray) (y : S25), formedJ k y = true → ∀ n, clauseJ (clausesJ k) s y = some n → n ≤ 1 + 24 * 1000 ^ 5 := fun s y hy n hn => by
    have := clause_le (k := k) (b := 1000 ^ k) (fun z hz n => clauses_le k z hz n) hy n hn
    omega
  obtain ⟨ANS, hA⟩ : ∃ ANS, clausesJ (k + 1) x = ANS := ⟨_, rfl⟩
  rw [hA]
  unfold clausesJ at hA
  have HB0 := Lib.hid hb0; clear hb0
  have HBK := Lib.hid hblk; clear hblk
  have HT := Lib.hid hT; clear hT
  have HI := Lib.hid ih; clear ih
  have HCL := Lib.hid hcl; clear hcl
  have HIT := Lib.hid hit; clear hit
  have HNM := Lib.hid hnm; clear hnm
  have HNI := Lib.hid hni; clear hni
  have HRD := Lib.hid h; clear h
  clear hf
  obtain ⟨x0, x1, x2, x3, x4⟩ := x
  simp only at hl3 hl4 hA
  cases b1 : x0 != 6 with
  | true =>
    rw [b1, if_pos rfl] at hA
    subst hA
    go_enter Tryd.func35, Tryd.ntmps35
    go_wp2_with fail
    go_ret
    exact ⟨rfl, HB0.out⟩
  | false =>
    rw [b1, if_neg (by simp)] at hA
    have h6 : x0 = 6 := by simpa using b1
    have HLEN := Lib.hid (HNI.out h6)
    clear h6 HNI
    have HA := Lib.hid hA; clear hA
    go_enter Tryd.func35, Tryd.ntmps35
    go_wp2_with fail
    go_loopw [3, 4, 5, 6, 13] (fun v3 v4 v5 v6 v13 wr => ∃ j n : Nat, j ≤ x3.length ∧ n ≤ j * (1 + 24 * 1000 ^ 5) ∧ v13 = .int .i64 j ∧ v3 = .int .i64 n ∧ ANS = countO n ((List.range' j (x3.length - j)).map (fun i => clauseJ (clausesJ k) (x3.getD i ByteArray.empty) (x4.getD i z25))) ∧ Below w.heap.size w wr ∧ wr.heap[w.heap.size]? = some (.cells #[.int .i64 x0, .int .i64 x1, .string x2, .slice A3 x3.length c3, .slice A4 x4.length c4] 25 (0, 0))) (fun _ _ _ _ v13 _ => x3.length - (intOf v13).toNat)
    case atStart => exact ⟨0, 0, Nat.zero_le _, Nat.zero_le _, rfl, rfl, by rw [← HA.out]; unfold countO; simp, HB0.out, HBK.out⟩
    case round =>
      obtain ⟨j, n, hj, hn, rfl, rfl, hS, hBr, hKr⟩ := hrel
      have f4 : wr.cell? ⟨w.heap.size, 4, none⟩ = some (.slice A4 x4.length c4) := (blk_cell hKr 4).trans rfl
      have HS := Lib.hid hS; clear hS
      have HR := Lib.hid hBr; clear hBr
      have HKR := Lib.hid hKr; clear hKr
      by_cases hlt : j < x3.length
      · have hj4 : j < x4.length := by have := HLEN.out; omega
        have hji : (j : Int) < (x3.length : Int) := by omega
        have hji' : (j : Int) < (x4.length : Int) := by omega
        obtain ⟨t, ht⟩ : ∃ t, x3[j]? = some t := ⟨_, List.getElem?_eq_getElem hlt⟩
        obtain ⟨y, hy⟩ : ∃ y, x4[j]? = some y := ⟨_, List.getElem?_eq_getElem hj4⟩
        obtain ⟨b', o', rfl, hb', e9⟩ := name_of HRD.out.g3 rfl j t ht
        obtain ⟨b, o, B3, d3, B4, d4, rfl, hb, e0, e1, e2, e3, e4, hR⟩ := item_of HRD.out.g4 rfl j y hy
        replace e9 := (HR.out.cell (World.block_lt_of_cell? w _ e9)).trans e9
        replace e0 := (HR.out.cell (World.block_lt_of_cell? w _ e0)).trans e0
        replace e1 := (HR.out.cell (World.block_lt_of_cell? w _ e1)).trans e1
        replace e2 := (HR.out.cell (World.block_lt_of_cell? w _ e2)).trans e2
        replace e3 := (HR.out.cell (World.block_lt_of_cell? w _ e3)).trans e3
        replace e4 := (HR.out.cell (World.block_lt_of_cell? w _ e4)).trans e4
        have hfy : formedJ k y = true := HIT.out y (List.mem_of_getElem? hy)
        have hsz := HNM.out t (List.mem_of_getElem? ht)
        have hcall := clause_any k hk HI.out t (by omega) y B3 d3 B4 d4 wr hfy (hR.below HR.out) (HT.out.below HR.out)
        have hbig := HCL.out t y hfy
        have hd : (List.range' j (x3.length - j)).map (fun i => clauseJ (clausesJ k) (x3.getD i ByteArray.empty) (x4.getD i z25)) = clauseJ (clausesJ k) t y :: (List.range' (j + 1) (x3.length - (j + 1))).map (fun i => clauseJ (clausesJ k) (x3.getD i ByteArray.empty) (x4.getD i z25)) := by
          rw [show x3.length - j = (x3.length - (j + 1)) + 1 by omega, List.range'_succ, List.map_cons, List.getD_eq_getElem?_getD, ht, List.getD_eq_getElem?_getD, hy]
          rfl
        have HD := Lib.hid hd; clear hd
        clear hR hy ht hfy
        obtain ⟨y0, y1, y2, y3, y4⟩ := y
        obtain ⟨q, hq⟩ : ∃ q, clauseJ (clausesJ k) t ⟨y0, y1, y2, y3, y4⟩ = q := ⟨_, rfl⟩
        rw [hq] at hcall
        have HQ := Lib.hid hq
        have hbig2 : ∀ a, q = some a → a ≤ 1 + 24 * 1000 ^ 5 := fun a e => hbig a (hq.trans e)
        clear hbig hq
        cases q with
        | none =>
          clear hbig2
          have hno : ANS = none := by rw [HS.out, HD.out, HQ.out, countO_none]
          subst hno
          clear HS
          simp only [encO] at hcall
          go_wp2_with fail
          refine hcall.mono ?_; rintro e w' ⟨rfl, hb'⟩
          have HB' := Lib.hid hb'; clear hb' hcall
          go_wp2_with fail
          go_ret
          exact ⟨rfl, HR.out.trans (HB'.out.mono HR.out.size)⟩
        | some a =>
          have ha := hbig2 a rfl
          clear hbig2
          have hS2 : ANS = countO (n + a) ((List.range' (j + 1) (x3.length - (j + 1))).map (fun i => clauseJ (clausesJ k) (x3.getD i ByteArray.empty) (x4.getD i z25))) := by rw [HS.out, HD.out, HQ.out, countO_some]
          have HS2 := Lib.hid hS2; clear hS2 HS
          have hncap : n ≤ 24 * (1 + 24 * 1000 ^ 5) := Nat.le_trans hn (Nat.mul_le_mul_right _ (by omega))
          simp only [encO] at hcall
          have hge : decide ((a : Int) < 0) = false := decide_eq_false (by omega)
          go_wp2_with fail
          refine hcall.mono ?_; rintro e w' ⟨rfl, hb'⟩
          have HB' := Lib.hid hb'; clear hb' hcall
          go_wp2_with fail
          go_roundw
          case rel =>
            refine ⟨j + 1, n + a, by omega, by rw [Nat.add_mul]; omega, by go_num, ?_, HS2.out, HR.out.trans (HB'.out.mono HR.out.size), blk_below HKR.out HB'.out⟩
            rw [show ((n + a : Nat) : Int) = (n : Int) + a by omega]
          case measure => simp [intOf]; omega
      · have hnl : ¬ (j : Int) < (x3.length : Int) := by omega
        have hS : ANS = some n := by rw [HS.out, show x3.length - j = 0 by omega]; rfl
        subst hS
        clear HS
        go_wp2_with fail
        go_ret
        exact ⟨rfl, HR.out⟩
theorem clauses_any : ∀ k, k ≤ 6 → ClausesAt k
  | 0, _ => fun x A3 c3 A4 c4 w hf _ _ => by unfold formedJ at hf; cases hf
  | k + 1, hk => clauses_step k (by omega) (clauses_any k (by omega))
def checkJ (f : S25) : Int := if fmJ f then (match clausesJ 6 f with | none => 2 | some n => if 12 < n then 3 else 0) else 2
set_option maxHeartbeats 1000000 in
theorem check_any (x : S25) (A3 : Option Addr) (c3 : Nat) (A4 : Option Addr) (c4 : Nat) (w : World) (h : Rd w A3 c3 A4 c4 x) (hT : Tabs w) :
    Calls Tryd.prog 16 #[av x A3 c3 A4 c4] w fun e w' => e = .returned (.int .i64 (checkJ x)) ∧ Below w.heap.size w w' := by
  have hb0 : Below w.heap.size w (w.alloc (.cells #[.int .i64 x.f0, .int .i64 x.f1, .string x.f2, .slice A3 x.f3.length c3, .slice A4 x.f4.length c4] 25)) := (Below.refl _ w).alloc (Nat.le_refl _) _
  have hblk := new_blk w (.cells #[.int .i64 x.f0, .int .i64 x.f1, .string x.f2, .slice A3 x.f3.length c3, .slice A4 x.f4.length c4] 25)
  have hX := Formed_any x A3 c3 A4 c4 _ (h.below hb0) (hT.below hb0)
  have hY := fun W (hb : Below w.heap.size w W) (hf : formedJ 6 x = true) => clauses_any 6 (by omega) x A3 c3 A4 c4 W hf (h.below hb) (hT.below hb)
  unfold checkJ
  have HB0 := Lib.hid hb0; clear hb0
  have HY := Lib.hid hY; clear hY
  clear h hT
  cases hf : fmJ x with
  | false =>
    rw [hf] at hX
    obtain ⟨x0, x1, x2, x3, x4⟩ := x
    rw [if_neg (by simp)]
    clear HY hf
    go_enter Tryd.func16, Tryd.ntmps16
    go_wp2_with fail
    refine hX.mono ?_; rintro e w' ⟨rfl, hb⟩
    have HB := Lib.hid hb; clear hb
    go_wp2_with fail
    go_ret
    exact ⟨rfl, HB0.out.trans (HB.out.mono HB0.out.size)⟩
  | true =>
    rw [hf] at hX
    rw [if_pos rfl]
    have hY := fun W (hb : Below w.heap.size w W) => HY.out W hb hf
    obtain ⟨x0, x1, x2, x3, x4⟩ := x
    obtain ⟨q, hq⟩ : ∃ q, clausesJ 6 ⟨x0, x1, x2, x3, x4⟩ = q := ⟨_, rfl⟩
    rw [hq] at hY ⊢
    clear hq HY hf
    have HY := Lib.hid hY; clear hY
    go_enter Tryd.func16, Tryd.ntmps16
    go_wp2_with fail
    refine hX.mono ?_; rintro e w1 ⟨rfl, hb⟩
    have hK := blk_below hblk hb
    have hB := HB0.out.trans (hb.mono HB0.out.size)
    have hC := HY.out w1 hB
    have HB := Lib.hid hB
    clear hb hB hX hblk HY
    have f0 : w1.cell? ⟨w.heap.size, 0, none⟩ = some (.int .i64 x0) := (blk_cell hK 0).trans rfl
    have f1 : w1.cell? ⟨w.heap.size, 1, none⟩ = some (.int .i64 x1) := (blk_cell hK 1).trans rfl
    have f2 : w1.cell? ⟨w.heap.size, 2, none⟩ = some (.string x2) := (blk_cell hK 2).trans rfl
    have f3 : w1.cell? ⟨w.heap.size, 3, none⟩ = some (.slice A3 x3.length c3) := (blk_cell hK 3).trans rfl
    have f4 : w1.cell? ⟨w.heap.size, 4, none⟩ = some (.slice A4 x4.length c4) := (blk_cell hK 4).trans rfl
    clear hK
    cases q with
    | none =>
      simp only [encO] at hC
      go_wp2_with fail
      refine hC.mono ?_; rintro e w2 ⟨rfl, hb⟩
      have HB2 := Lib.hid hb; clear hb hC f0 f1 f2 f3 f4
      go_wp2_with fail
      go_ret
      exact ⟨rfl, HB.out.trans (HB2.out.mono HB.out.size)⟩
    | some n =>
      simp only [encO] at hC
      have g1 : decide ((n : Int) < 0) = false := decide_eq_false (by omega)
      by_cases h12 : 12 < n
      · have g2 : decide ((12 : Int) < (n : Int)) = true := decide_eq_true (by omega)
        go_wp2_with fail
        refine hC.mono ?_; rintro e w2 ⟨rfl, hb⟩
        have HB2 := Lib.hid hb; clear hb hC f0 f1 f2 f3 f4
        go_wp2_with fail
        go_ret
        exact ⟨by simp only []; rfl, HB.out.trans (HB2.out.mono HB.out.size)⟩
      · have g2 : decide ((12 : Int) < (n : Int)) = false := decide_eq_false (by omega)
        go_wp2_with fail
        refine hC.mono ?_; rintro e w2 ⟨rfl, hb⟩
        have HB2 := Lib.hid hb; clear hb hC f0 f1 f2 f3 f4
        go_wp2_with fail
        go_ret
        exact ⟨by simp only []; rfl, HB.out.trans (HB2.out.mono HB.out.size)⟩
end Go.Proofs.YtehdnjegipcpfaaDoor
