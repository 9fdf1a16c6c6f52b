/-
  The contract of the reference's put: a text into rising ones; no condition.
-/
import Derived.Test.YtehdnjegipcpfaaDoorPathp
namespace Go.Proofs.YtehdnjegipcpfaaDoor
open Go.RowKit Go.Proofs.YtehdnjegipcpfaaDoorW.PrintWords Go.Proofs.YtehdnjegipcpfaaDoorW.PrintLast Go.Proofs.YtehdnjegipcpfaaDoorW.PrintMore
open PFilterHolds Go.Shelf

/-- All ahead of a place are less. -/
def Ahead (xs : List ByteArray) (s : ByteArray) (k : Nat) : Prop := ∀ i, i < k → Op.bytesLess (xs.getD i ByteArray.empty).toList s.toList = true

theorem put_skip : ∀ (xs : List ByteArray) (s : ByteArray) (k : Nat), k ≤ xs.length → Ahead xs s k → putJ xs s = xs.take k ++ putJ (xs.drop k) s
  | xs, s, 0, _, _ => by simp
  | [], s, k + 1, h, _ => by simp at h
  | x :: xs, s, k + 1, h, ha => by
    have h0 : Op.bytesLess x.toList s.toList = true := ha 0 (by omega)
    have ih := put_skip xs s k (by simpa using h) (fun i hi => by have := ha (i + 1) (by omega); simpa using this)
    simp only [putJ, h0, if_true, List.take_succ_cons, List.drop_succ_cons, List.cons_append, ih]

theorem row_congr {w : World} {base n n' : Nat} {V : Value} {l l' : List Value} (h : w.ownsRow base 9 1 V n l) (hn : n = n') (hl : l = l') : w.ownsRow base 9 1 V n' l' := by
  subst hn; subst hl; exact h

theorem put_end (xs : List ByteArray) (s : ByteArray) (k : Nat) (hk : k = xs.length) (ha : Ahead xs s k) : putJ xs s = xs.take k ++ ([s] ++ xs.drop k) := by
  subst hk
  rw [put_skip xs s xs.length (Nat.le_refl _) ha, List.drop_length]
  rfl

theorem drop_at (xs : List ByteArray) (k : Nat) (hk : k < xs.length) : xs.drop k = xs.getD k ByteArray.empty :: xs.drop (k + 1) := by
  rw [List.drop_eq_getElem_cons hk, List.getD_eq_getElem?_getD, List.getElem?_eq_getElem hk]
  rfl

theorem put_eq (xs : List ByteArray) (s : ByteArray) (k : Nat) (hk : k < xs.length) (ha : Ahead xs s k) (hl : Op.bytesLess (xs.getD k ByteArray.empty).toList s.toList = false) (hq : ((xs.getD k ByteArray.empty).toList == s.toList) = true) : putJ xs s = xs.take k ++ ([s] ++ xs.drop (k + 1)) := by
  rw [put_skip xs s k (by omega) ha, drop_at xs k hk]
  simp only [putJ, hl, hq, Bool.false_eq_true, if_false, if_true]
  rfl

theorem put_ne (xs : List ByteArray) (s : ByteArray) (k : Nat) (hk : k < xs.length) (ha : Ahead xs s k) (hl : Op.bytesLess (xs.getD k ByteArray.empty).toList s.toList = false) (hq : ((xs.getD k ByteArray.empty).toList == s.toList) = false) : putJ xs s = xs.take k ++ ([s] ++ xs.drop k) := by
  rw [put_skip xs s k (by omega) ha, drop_at xs k hk]
  simp only [putJ, hl, hq, Bool.false_eq_true, if_false]
  rfl

set_option maxRecDepth 100000 in
set_option maxHeartbeats 1000000 in
theorem put_any (base : Nat) (v : Value) (xs : List ByteArray) (s : ByteArray) (w : World) (hrow : w.ownsRow base 9 1 v xs.length (xs.map Value.string)) (hlen : xs.length ≤ 1000) :
    Calls Tryd.prog 62 #[v, .string s] w fun e w' => ∃ v', e = .returned v' ∧ w'.ownsRow w.heap.size 9 1 v' (putJ xs s).length ((putJ xs s).map Value.string) ∧ Below w.heap.size w w' := by
  obtain ⟨i0, hi, hz0, hz1, hz2⟩ := info_parts info9
  obtain ⟨A, c, rfl, hrds⟩ := own_reads_of (d := ByteArray.empty) (enc := Value.string) hrow
  have hc : xs.length ≤ c := by
    rcases hrow.2 with ⟨e, h0⟩ | ⟨_, cap, _, e, _, _, h1, _⟩
    · rw [h0]; exact Nat.zero_le _
    · injection e with _ _ e; omega
  have hform : ∀ k t, xs[k]? = some t → ∃ g, A = some ⟨g, 0, none⟩ ∧ g < w.heap.size ∧ w.cell? ⟨g, k, none⟩ = some (.string t) := by
    intro k t ht
    obtain ⟨g, cap, e, hgb, hgl⟩ := hrow.form (by have := (List.getElem?_eq_some_iff.1 ht).1; omega)
    injection e with e1 _ _
    refine ⟨g, e1, hgl, ?_⟩
    subst e1
    have := hrow.cells (g := g) rfl k (.string t) (by rw [List.getElem?_map, ht]; rfl)
    rw [Addr.add_lit, Nat.zero_add] at this
    exact this
  have HFM := Lib.hid hform; clear hform hrow
  have HRDS := Lib.hid hrds; clear hrds
  have HC := Lib.hid hc; clear hc
  go_enter Tryd.func62, Tryd.ntmps62
  go_wp2_with fail
  go_loopw [5, 6] (fun v5 v6 wr => ∃ k : Nat, k ≤ xs.length ∧ v6 = .int .i64 k ∧ Ahead xs s k ∧ wr.ownsRow w.heap.size 9 1 v5 k ((xs.take k).map Value.string) ∧ Below w.heap.size w wr) (fun _ v6 _ => xs.length - (intOf v6).toNat)
  case atStart => exact ⟨0, Nat.zero_le _, rfl, fun i hi => absurd hi (Nat.not_lt_zero _), World.ownsRow_nil _ _ _ _, Below.refl _ _⟩
  case round =>
    obtain ⟨k, hk, rfl, ha, hro, hB⟩ := hrel
    have HA := Lib.hid ha; clear ha
    have HRO := Lib.hid hro; clear hro
    have HB := Lib.hid hB; clear hB
    by_cases hlt : k < xs.length
    · have hki : (k : Int) < (xs.length : Int) := by omega
      obtain ⟨t, ht⟩ : ∃ t, xs[k]? = some t := ⟨_, List.getElem?_eq_getElem hlt⟩
      obtain ⟨g, rfl, hgl, e0⟩ := HFM.out k t ht
      have e9 : wr.cell? ⟨g, k, none⟩ = some (.string t) := (HB.out.cell hgl).trans e0
      have hgt : xs.getD k ByteArray.empty = t := by rw [List.getD_eq_getElem?_getD, ht]; rfl
      have HGT := Lib.hid hgt
      have HGL := Lib.hid hgl
      have E9 := Lib.hid e0
      clear hgt hgl e0 ht HFM
      cases hls : Op.bytesLess t.toList s.toList with
      | true =>
        have HLS := Lib.hid hls
        go_wp2_with (first
          | (at_builtin; refine wpList_append_lies _ rfl _ _ 22 rfl w.heap.size 9 i0 (.string ⟨#[]⟩) 1 16 Tryd.underlying22 hi hz0 hz1 hz2 rfl (by decide) _ _ _ rfl (HRO.out.alloc _) ⟨wr.heap.size, 0, none⟩ 1 1 [.string t] rfl rfl (cell_one_new _ _ _) ?c2 (by decide) ?c3 ?c4 ?c5 _ rfl ?_)
          | go_in)
        case c2 => first | rfl | (intro u hu; simp at hu; subst hu; rfl)
        case c3 => first | rfl | (unfold maxLen; omega)
        case c4 => first | omega | (simp; omega)
        case c5 => have := HB.out.size; simp; omega
        intro gl cl' w1 hown1 hg1 hat1 hlt1
        have hB1 : Below w.heap.size w w1 := (HB.out.alloc HB.out.size _).grown hg1 (by simp; have := HB.out.size; omega) (fun j hj => (HRO.out.lt j hj).1)
        have hO1 : w1.ownsRow w.heap.size 9 1 (.slice (some ⟨gl, 0, none⟩) (k + 1) cl') (k + 1) ((xs.take (k + 1)).map Value.string) := by
          have e1 : xs.take (k + 1) = xs.take k ++ [t] := by
            rw [List.take_add_one, ← HGT.out, List.getD_eq_getElem?_getD, List.getElem?_eq_getElem hlt]
            rfl
          rw [e1]
          simpa using hown1
        have HO1 := Lib.hid hO1
        have HB1 := Lib.hid hB1
        clear hown1 hg1 hat1 hlt1 hO1 hB1 e9
        go_wp2_with fail
        go_roundw
        case rel =>
          refine ⟨k + 1, by omega, by go_num, fun i hi' => ?_, HO1.out, HB1.out⟩
          by_cases hi2 : i < k
          · exact HA.out i hi2
          · obtain rfl : i = k := by omega
            rw [HGT.out]
            exact HLS.out
        case measure => simp [intOf]; omega
      | false =>
        have HLS := Lib.hid (show Op.bytesLess (xs.getD k ByteArray.empty).toList s.toList = false by rw [HGT.out]; exact hls)
        cases hqq : t.toList == s.toList with
        | true =>
          have HQ := Lib.hid (show ((xs.getD k ByteArray.empty).toList == s.toList) = true by rw [HGT.out]; exact hqq)
          have hk1 : k + 1 ≤ 2000 := by omega
          go_wp2_with (first
            | (at_builtin; refine wpList_append_lies _ rfl _ _ 22 rfl w.heap.size 9 i0 (.string ⟨#[]⟩) 1 16 Tryd.underlying22 hi hz0 hz1 hz2 rfl (by decide) _ _ _ rfl (HRO.out.alloc _) ⟨wr.heap.size, 0, none⟩ 1 1 [.string s] rfl rfl (cell_one_new _ _ _) ?c2 (by decide) ?c3 ?c4 ?c5 _ rfl ?_)
            | go_in)
          case c2 => first | rfl | (intro u hu; simp at hu; subst hu; rfl)
          case c3 => first | rfl | (unfold maxLen; omega)
          case c4 => first | omega | (simp; omega)
          case c5 => have := HB.out.size; simp; omega
          intro gl cl' w1 hown1 hg1 hat1 hlt1
          have hB1 : Below w.heap.size w w1 := (HB.out.alloc HB.out.size _).grown hg1 (by simp; have := HB.out.size; omega) (fun j hj => (HRO.out.lt j hj).1)
          have hO1 : w1.ownsRow w.heap.size 9 1 (.slice (some ⟨gl, 0, none⟩) (k + 1) cl') ((xs.take k ++ [s]).length) ((xs.take k ++ [s]).map Value.string) := by
            have e1 : (xs.take k ++ [s]).length = k + 1 := by rw [List.length_append, List.length_take, List.length_singleton]; omega
            rw [e1]
            simpa using hown1
          have HO1 := Lib.hid hO1
          have HB1 := Lib.hid hB1
          clear hown1 hg1 hat1 hlt1 hO1 hB1
          have e10 : w1.cell? ⟨g, k, none⟩ = some (.string t) := (HB1.out.cell HGL.out).trans E9.out
          obtain ⟨A', hcutr, hread⟩ := print_cut_of (P := Tryd.prog) Value.string ByteArray.empty 22 9 .i64 Tryd.underlying22 hi hz1 (some ⟨g, 0, none⟩) xs.length c (k + 1) (by omega)
          have hrd := hread w1 xs HC.out (HRDS.out.below HB1.out)
          have HRDX := Lib.hid hrd
          have hcr := hcutr w1
          rw [show ((k + 1 : Nat) : Int) = (k : Int) + 1 from rfl] at hcr
          have hll : (xs.take k ++ [s]).length = k + 1 := by rw [List.length_append, List.length_take, List.length_singleton]; omega
          have HLL := Lib.hid hll
          clear hread hrd hcutr hll
          go_wp2_with (first
            | (at_builtin; refine print_append_row_of (w0 := w) Value.string ByteArray.empty w.heap.size rfl _ _ 22 9 (.string ⟨#[]⟩) 16 rfl Tryd.underlying22 info9' rfl (by decide) (fun _ => rfl) _ (xs.take k ++ [s]) (xs.drop (k + 1)) A' (xs.length - (k + 1)) (c - (k + 1)) rfl rfl HO1.out HRDX.out HB1.out HB1.out.size ?d1 ?_)
            | go_in)
          case d1 => have := HLL.out; omega
          intro V2 w2 hown2 hB2 hg2 hat2
          have HO2 := Lib.hid hown2
          have HB2 := Lib.hid hB2
          clear hown2 hB2 hg2 hat2 hcr
          go_wp2_with fail
          go_ret
          refine ⟨_, rfl, ?_, HB2.out⟩
          rw [put_eq xs s k hlt HA.out HLS.out HQ.out]
          exact row_congr HO2.out (by simp; try omega) (by simp [encs])
        | false =>
          have HQ := Lib.hid (show ((xs.getD k ByteArray.empty).toList == s.toList) = false by rw [HGT.out]; exact hqq)
          have hk1 : k + 1 ≤ 2000 := by omega
          go_wp2_with (first
            | (at_builtin; refine wpList_append_lies _ rfl _ _ 22 rfl w.heap.size 9 i0 (.string ⟨#[]⟩) 1 16 Tryd.underlying22 hi hz0 hz1 hz2 rfl (by decide) _ _ _ rfl (HRO.out.alloc _) ⟨wr.heap.size, 0, none⟩ 1 1 [.string s] rfl rfl (cell_one_new _ _ _) ?c2 (by decide) ?c3 ?c4 ?c5 _ rfl ?_)
            | go_in)
          case c2 => first | rfl | (intro u hu; simp at hu; subst hu; rfl)
          case c3 => first | rfl | (unfold maxLen; omega)
          case c4 => first | omega | (simp; omega)
          case c5 => have := HB.out.size; simp; omega
          intro gl cl' w1 hown1 hg1 hat1 hlt1
          have hB1 : Below w.heap.size w w1 := (HB.out.alloc HB.out.size _).grown hg1 (by simp; have := HB.out.size; omega) (fun j hj => (HRO.out.lt j hj).1)
          have hO1 : w1.ownsRow w.heap.size 9 1 (.slice (some ⟨gl, 0, none⟩) (k + 1) cl') ((xs.take k ++ [s]).length) ((xs.take k ++ [s]).map Value.string) := by
            have e1 : (xs.take k ++ [s]).length = k + 1 := by rw [List.length_append, List.length_take, List.length_singleton]; omega
            rw [e1]
            simpa using hown1
          have HO1 := Lib.hid hO1
          have HB1 := Lib.hid hB1
          clear hown1 hg1 hat1 hlt1 hO1 hB1
          have e10 : w1.cell? ⟨g, k, none⟩ = some (.string t) := (HB1.out.cell HGL.out).trans E9.out
          obtain ⟨A', hcutr, hread⟩ := print_cut_of (P := Tryd.prog) Value.string ByteArray.empty 22 9 .i64 Tryd.underlying22 hi hz1 (some ⟨g, 0, none⟩) xs.length c (k) (by omega)
          have hrd := hread w1 xs HC.out (HRDS.out.below HB1.out)
          have HRDX := Lib.hid hrd
          have hcr := hcutr w1
          have hll : (xs.take k ++ [s]).length = k + 1 := by rw [List.length_append, List.length_take, List.length_singleton]; omega
          have HLL := Lib.hid hll
          clear hread hrd hcutr hll
          go_wp2_with (first
            | (at_builtin; refine print_append_row_of (w0 := w) Value.string ByteArray.empty w.heap.size rfl _ _ 22 9 (.string ⟨#[]⟩) 16 rfl Tryd.underlying22 info9' rfl (by decide) (fun _ => rfl) _ (xs.take k ++ [s]) (xs.drop (k)) A' (xs.length - (k)) (c - (k)) rfl rfl HO1.out HRDX.out HB1.out HB1.out.size ?d1 ?_)
            | go_in)
          case d1 => have := HLL.out; omega
          intro V2 w2 hown2 hB2 hg2 hat2
          have HO2 := Lib.hid hown2
          have HB2 := Lib.hid hB2
          clear hown2 hB2 hg2 hat2 hcr
          go_wp2_with fail
          go_ret
          refine ⟨_, rfl, ?_, HB2.out⟩
          rw [put_ne xs s k hlt HA.out HLS.out HQ.out]
          exact row_congr HO2.out (by simp; try omega) (by simp [encs])
    · have hkk : k = xs.length := by omega
      have HKK := Lib.hid hkk; clear hkk
      have hnl : ¬ (k : Int) < (xs.length : Int) := by omega
      have hk1 : k + 1 ≤ 2000 := by omega
      go_wp2_with (first
        | (at_builtin; refine wpList_append_lies _ rfl _ _ 22 rfl w.heap.size 9 i0 (.string ⟨#[]⟩) 1 16 Tryd.underlying22 hi hz0 hz1 hz2 rfl (by decide) _ _ _ rfl (HRO.out.alloc _) ⟨wr.heap.size, 0, none⟩ 1 1 [.string s] rfl rfl (cell_one_new _ _ _) ?c2 (by decide) ?c3 ?c4 ?c5 _ rfl ?_)
        | go_in)
      case c2 => first | rfl | (intro u hu; simp at hu; subst hu; rfl)
      case c3 => first | rfl | (unfold maxLen; omega)
      case c4 => first | omega | (simp; omega)
      case c5 => have := HB.out.size; simp; omega
      intro gl cl' w1 hown1 hg1 hat1 hlt1
      have hB1 : Below w.heap.size w w1 := (HB.out.alloc HB.out.size _).grown hg1 (by simp; have := HB.out.size; omega) (fun j hj => (HRO.out.lt j hj).1)
      have hO1 : w1.ownsRow w.heap.size 9 1 (.slice (some ⟨gl, 0, none⟩) (k + 1) cl') ((xs.take k ++ [s]).length) ((xs.take k ++ [s]).map Value.string) := by
        have e1 : (xs.take k ++ [s]).length = k + 1 := by rw [List.length_append, List.length_take, List.length_singleton]; omega
        rw [e1]
        simpa using hown1
      have HO1 := Lib.hid hO1
      have HB1 := Lib.hid hB1
      clear hown1 hg1 hat1 hlt1 hO1 hB1
      obtain ⟨A', hcutr, hread⟩ := print_cut_of (P := Tryd.prog) Value.string ByteArray.empty 22 9 .i64 Tryd.underlying22 hi hz1 A xs.length c (k) (by omega)
      have hrd := hread w1 xs HC.out (HRDS.out.below HB1.out)
      have HRDX := Lib.hid hrd
      have hcr := hcutr w1
      have hll : (xs.take k ++ [s]).length = k + 1 := by rw [List.length_append, List.length_take, List.length_singleton]; omega
      have HLL := Lib.hid hll
      clear hread hrd hcutr hll
      go_wp2_with (first
        | (at_builtin; refine print_append_row_of (w0 := w) Value.string ByteArray.empty w.heap.size rfl _ _ 22 9 (.string ⟨#[]⟩) 16 rfl Tryd.underlying22 info9' rfl (by decide) (fun _ => rfl) _ (xs.take k ++ [s]) (xs.drop (k)) A' (xs.length - (k)) (c - (k)) rfl rfl HO1.out HRDX.out HB1.out HB1.out.size ?d1 ?_)
        | go_in)
      case d1 => have := HLL.out; omega
      intro V2 w2 hown2 hB2 hg2 hat2
      have HO2 := Lib.hid hown2
      have HB2 := Lib.hid hB2
      clear hown2 hB2 hg2 hat2 hcr
      go_wp2_with fail
      go_ret
      refine ⟨_, rfl, ?_, HB2.out⟩
      rw [put_end xs s k HKK.out HA.out]
      exact row_congr HO2.out (by simp; try omega) (by simp [encs])

end Go.Proofs.YtehdnjegipcpfaaDoor
