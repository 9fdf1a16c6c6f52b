/-
  The reference's sign, Tests and test: their contracts; no condition.
-/
import Derived.Test.YtehdnjegipcpfaaDoorRefs
import Derived.Test.YtehdnjegipcpfaaDoorPlain
namespace Go.Proofs.YtehdnjegipcpfaaDoor
open Go.RowKit Go.Proofs.YtehdnjegipcpfaaDoorW.PrintWords Go.Proofs.YtehdnjegipcpfaaDoorW.PrintLast Go.Proofs.YtehdnjegipcpfaaDoorW.PrintMore
open PFilterHolds Go.Shelf

/-! ### sign, Tests, test -/
theorem sign_tot (s : ByteArray) : munimentref15_sign.f s = some (sgn s) := by
  unfold munimentref15_sign.f sgn
  by_cases h : 1 ≤ s.size
  · rw [if_pos (by omega), if_pos (by omega), decide_eq_true h, Bool.true_and]
    congr 1
    have hb : bt s 0 = (s[0].toNat : Int) := (bt_at s 0 (by show (0 : Int).toNat < s.size; simp; omega)).symm
    have hsz : s.data.toList.length = s.size := by simp
    have he : (s.extract 0 1).toList = [s[0]] := by
      rw [Lib.extract_toList, List.drop_zero, List.take_one, List.head?_eq_getElem?, List.getElem?_eq_getElem (by omega)]
      simp [ByteArray.getElem_eq_getElem_data]
    have h36 : (⟨#[36]⟩ : ByteArray).toList = [36] := by rw [ByteArray.toList_eq]
    rw [hb, he, h36]
    have h255 : s[0].toNat < 256 := s[0].toNat_lt
    by_cases c : s[0] = 36
    · simp [c]
    · have hne : ¬ (s[0].toNat : Int) = 36 := fun e => c (by
        apply UInt8.toNat_inj.1
        show s[0].toNat = 36
        omega)
      rw [Bool.eq_iff_iff]
      simp [hne, c]
  · rw [if_neg (by omega), decide_eq_false h, Bool.false_and]

theorem sign_ref (s : ByteArray) (w : World) : Calls Tryd.prog 101 #[.string s] w fun e w' => e = .returned (.bool (sgn s)) ∧ Below w.heap.size w w' :=
  (munimentref15_sign.calls s (sgn s) w (sign_tot s)).mono fun _ _ ⟨he, hd⟩ => ⟨he, drawn_below hd⟩

theorem Tests_l0 (x : S25) (hb : x.f3.length ≤ 1000000) : ∀ d i : Nat, i + d = x.f3.length → munimentref15_Tests.l0 (d + 1) (i : Int) x.f0 x.f1 x.f2 x.f3 x.f4 = some ((x.f3.drop i).any sgn)
  | 0, i, h => by
    unfold munimentref15_Tests.l0
    rw [if_neg (by omega), List.drop_of_length_le (by omega)]
    rfl
  | d + 1, i, h => by
    have w3 : wrap64 ((i : Int) + 1) = ((i + 1 : Nat) : Int) := by unfold wrap64; omega
    have hi : i < x.f3.length := by omega
    unfold munimentref15_Tests.l0
    have e : rdOf ByteArray.empty x.f3 (i : Int) = x.f3[i] := by
      show x.f3.getD i ByteArray.empty = _
      rw [List.getD_eq_getElem?_getD, List.getElem?_eq_getElem hi]; rfl
    rw [if_pos (by omega), if_pos (by omega), w3, Tests_l0 x hb d (i + 1) (by omega), e, sign_tot, Option.bind_some, List.drop_eq_getElem_cons hi, List.any_cons]
    cases sgn x.f3[i] <;> simp

/-- Where names lie only in objects, these are the tests' names. -/
theorem Tests_ref (x : S25) (h6 : x.f0 ≠ 6 → x.f3 = []) (A3 : Option Addr) (c3 : Nat) (A4 : Option Addr) (c4 : Nat) (w : World) (h : Rd w A3 c3 A4 c4 x) (hbig : x.f3.length ≤ 1000000) :
    Calls Tryd.prog 83 #[av x A3 c3 A4 c4] w fun e w' => e = .returned (.bool (testsJ x)) ∧ Below w.heap.size w w' := by
  have e : munimentref15_Tests.f (x.f3.length + 1) x.f0 x.f1 x.f2 x.f3 x.f4 = some (testsJ x) := by
    unfold munimentref15_Tests.f testsJ
    have := Tests_l0 x hbig x.f3.length 0 (by omega)
    rw [List.drop_zero] at this
    rw [show (0 : Int) = ((0 : Nat) : Int) from rfl, this]
    by_cases c : x.f0 = 6
    · simp [c]
    · rw [h6 c]; simp
  exact (munimentref15_Tests.calls _ x.f0 x.f1 x.f2 A3 c3 x.f3 A4 c4 x.f4 (testsJ x) w h.g3 h.l3 h.g4 h.l4 e).mono fun _ _ ⟨he, hb⟩ => ⟨he, hb⟩

theorem test_f (k : Nat) (a : ByteArray) (b c : Int) (d : ByteArray) (e : List ByteArray) (f : List S25) : munimentref15_test.f (k + 1) a b c d e f = filter_test.f (k + 1) a b c d e f := by
  unfold munimentref15_test.f filter_test.f munimentref15_test.j0 filter_test.j0
  rfl

theorem test_ref (s : ByteArray) (v : S25) (A3 : Option Addr) (c3 : Nat) (A4 : Option Addr) (c4 : Nat) (w : World) (h : Rd w A3 c3 A4 c4 v) :
    Calls Tryd.prog 102 #[.string s, av v A3 c3 A4 c4] w fun e w' => e = .returned (.bool (testJ s v)) ∧ Below w.heap.size w w' :=
  (munimentref15_test.calls 1 s v.f0 v.f1 v.f2 A3 c3 v.f3 A4 c4 v.f4 (testJ s v) w h.g3 h.l3 h.g4 h.l4 ((test_f 0 _ _ _ _ _ _).trans (test_tot s v))).mono fun _ _ ⟨he, hb⟩ => ⟨he, hb⟩

end Go.Proofs.YtehdnjegipcpfaaDoor
