/-
  The contracts of filter.clause and filter.clauses at formed values, under utf8's tables.
-/
import Derived.Test.YtehdnjegipcpfaaDoorG
namespace Go.Proofs.YtehdnjegipcpfaaDoor
open Go.RowKit Go.Proofs.YtehdnjegipcpfaaDoorW.PrintWords Go.Proofs.YtehdnjegipcpfaaDoorW.PrintLast Go.Proofs.YtehdnjegipcpfaaDoorW.PrintMore
open PFilterHolds Go.Shelf

def ClausesAt (k : Nat) : Prop := ∀ (x : S25) (A3 : Option Addr) (c3 : Nat) (A4 : Option Addr) (c4 : Nat) (w : World), formedJ k x = true → Rd w A3 c3 A4 c4 x → Tabs w →
    Calls Tryd.prog 35 #[av x A3 c3 A4 c4] w fun e w' => e = .returned (.int .i64 (encO (clausesJ k x))) ∧ Below w.heap.size w w'

/-- What comes of a list's conditions when n have been counted. -/
def countO (n : Nat) (l : List (Option Nat)) : Option Nat := (sumO l).map (n + ·)

theorem countO_none (n : Nat) (l : List (Option Nat)) : countO n (none :: l) = none := rfl
theorem countO_some (n a : Nat) (l : List (Option Nat)) : countO n (some a :: l) = countO (n + a) l := by
  unfold countO
  simp only [sumO, Option.map_map]
  congr 1
  funext m
  simp [Nat.add_assoc]
theorem countO_nil (n : Nat) : countO n [] = some n := rfl

theorem names_items {k : Nat} {x : S25} (h : formedJ k x = true) (h6 : x.f0 = 6) : x.f3.length = x.f4.length := by
  cases k with
  | zero => unfold formedJ at h; cases h
  | succ k => exact (formed_parts h).2.2.2.2.2.1 h6

set_option maxRecDepth 100000 in
set_option maxHeartbeats 4000000 in
theorem clause_any (k : Nat) (hk : k ≤ 5) (ih : ClausesAt k) (s : ByteArray) (hs : s.size ≤ 1000) (x : S25) (A3 : Option Addr) (c3 : Nat) (A4 : Option Addr) (c4 : Nat) (w : World) (hf : formedJ k x = true) (h : Rd w A3 c3 A4 c4 x) (hT : Tabs w) :
    Calls Tryd.prog 59 #[.string s, av x A3 c3 A4 c4] w fun e w' => e = .returned (.int .i64 (encO (clauseJ (clausesJ k) s x))) ∧ Below w.heap.size w w' := by
  obtain ⟨hl3, hl4⟩ := few_items hf
  have hb0 : Below w.heap.size w (w.alloc (.cells #[.int .i64 x.f0, .int .i64 x.f1, .string x.f2, .slice A3 x.f3.length c3, .slice A4 x.f4.length c4] 25)) := (Below.refl _ w).alloc (Nat.le_refl _) _
  have hblk := new_blk w (.cells #[.int .i64 x.f0, .int .i64 x.f1, .string x.f2, .slice A3 x.f3.length c3, .slice A4 x.f4.length c4] 25)
  have hpow : (1000 : Nat) ^ k ≤ 1000 ^ 5 := Nat.pow_le_pow_right (by omega) hk
  have hle := fun (y : S25) (hy : formedJ k y = true) => clauses_le k y hy
  have hit := items_formed hf
  obtain ⟨ANS, hA⟩ : ∃ ANS, clauseJ (clausesJ k) s x = ANS := ⟨_, rfl⟩
  rw [hA]
  have HA := Lib.hid hA; clear hA
  have HB0 := Lib.hid hb0; clear hb0
  have HBK := Lib.hid hblk; clear hblk
  have HT := Lib.hid hT; clear hT
  have HI := Lib.hid ih; clear ih
  have HF := Lib.hid hf; clear hf
  have HL := Lib.hid hle; clear hle
  have HIT := Lib.hid hit; clear hit
  have HRD := Lib.hid h; clear h
  obtain ⟨AO, hAO⟩ : ∃ b, (isAnd s || isOr s) = b := ⟨_, rfl⟩
  have HAO := Lib.hid hAO; clear hAO
  obtain ⟨x0, x1, x2, x3, x4⟩ := x
  simp only at hl3 hl4
  go_enter Tryd.func59, Tryd.ntmps59
  go_upto_region 1 with fail
  go_cut [14] from 15 to 20 (fun b wx => b = .bool AO ∧ Below w.heap.size w wx ∧ wx.heap[w.heap.size]? = some (.cells #[.int .i64 x0, .int .i64 x1, .string x2, .slice A3 x3.length c3, .slice A4 x4.length c4] 25 (0, 0)))
  case first =>
    have hAO := HAO.out
    unfold isAnd isOr at hAO
    cases t1 : s.toList == [36, 97, 110, 100] with
    | true =>
      rw [t1, Bool.true_or] at hAO
      subst hAO
      go_wp2_with fail
      go_meet
      exact ⟨rfl, HB0.out, HBK.out⟩
    | false =>
      rw [t1, Bool.false_or] at hAO
      subst hAO
      go_wp2_with fail
      go_meet
      exact ⟨rfl, HB0.out, HBK.out⟩
  case rest =>
    obtain ⟨rfl, hB, hK⟩ := hcut
    have f0 : wc.cell? ⟨w.heap.size, 0, none⟩ = some (.int .i64 x0) := (blk_cell hK 0).trans rfl
    have f4 : wc.cell? ⟨w.heap.size, 4, none⟩ = some (.slice A4 x4.length c4) := (blk_cell hK 4).trans rfl
    have HB := Lib.hid hB; clear hB
    have HK := Lib.hid hK; clear hK
    clear HB0 HBK
    have hA := HA.out
    unfold clauseJ at hA
    rw [HAO.out] at hA
    clear HA
    cases AO with
    | true =>
      rw [if_pos rfl] at hA
      clear HAO
      cases b1 : x0 != 5 with
      | true =>
        rw [b1, Bool.true_or, if_pos rfl] at hA
        subst hA
        go_wp2_with fail
        go_ret
        exact ⟨rfl, HB.out⟩
      | false =>
        rw [b1, Bool.false_or] at hA
        cases b2 : ((x4.length : Int) == 0) with
        | true =>
          have : (x4.length == 0) = true := by simpa using b2
          rw [if_pos this] at hA
          subst hA
          go_wp2_with fail
          go_ret
          exact ⟨rfl, HB.out⟩
        | false =>
          have : ¬ (x4.length == 0) = true := by
            intro e
            have e' : x4.length = 0 := by simpa using e
            rw [e'] at b2
            cases b2
          rw [if_neg this] at hA
          clear this
          have HA := Lib.hid hA; clear hA
          go_wp2_with fail
          go_loopw [5, 7, 8, 33] (fun v5 v7 v8 v33 wr => ∃ j n : Nat, j ≤ x4.length ∧ n ≤ 1 + j * 1000 ^ 5 ∧ v33 = .int .i64 j ∧ v5 = .int .i64 n ∧ ANS = countO n ((x4.drop j).map (clausesJ k)) ∧ Below w.heap.size w wr) (fun _ _ _ v33 _ => x4.length - (intOf v33).toNat)
          case atStart => exact ⟨0, 1, Nat.zero_le _, by omega, rfl, rfl, HA.out.symm, HB.out⟩
          case round =>
            obtain ⟨j, n, hj, hn, rfl, rfl, hS, hBr⟩ := hrel
            have HS := Lib.hid hS; clear hS
            have HR := Lib.hid hBr; clear hBr
            clear f0 f4
            by_cases hlt : j < x4.length
            · have hji : (j : Int) < (x4.length : Int) := by omega
              obtain ⟨y, hy⟩ : ∃ y, x4[j]? = some y := ⟨_, List.getElem?_eq_getElem hlt⟩
              obtain ⟨b, o, B3, d3, B4, d4, rfl, hb, e0, e1, e2, e3, e4, hR⟩ := item_of HRD.out.g4 rfl j y hy
              replace e0 := (HR.out.cell (World.block_lt_of_cell? w _ e0)).trans e0
              replace e1 := (HR.out.cell (World.block_lt_of_cell? w _ e1)).trans e1
              replace e2 := (HR.out.cell (World.block_lt_of_cell? w _ e2)).trans e2
              replace e3 := (HR.out.cell (World.block_lt_of_cell? w _ e3)).trans e3
              replace e4 := (HR.out.cell (World.block_lt_of_cell? w _ e4)).trans e4
              have hw1 : b < wr.heap.size := Nat.lt_of_lt_of_le hb HR.out.size
              have hfy : formedJ k y = true := HIT.out y (List.mem_of_getElem? hy)
              have hcall := fun W (hbW : Below w.heap.size w W) => HI.out y B3 d3 B4 d4 W hfy (hR.below hbW) (HT.out.below hbW)
              have hley := HL.out y hfy
              have hd : x4.drop j = y :: x4.drop (j + 1) := by
                obtain ⟨hi, rfl⟩ := List.getElem?_eq_some_iff.1 hy
                exact List.drop_eq_getElem_cons hi
              have HD := Lib.hid hd; clear hd
              clear hR hy
              have HC := Lib.hid hcall; clear hcall
              obtain ⟨y0, y1, y2, y3, y4⟩ := y
              obtain ⟨q, hq⟩ : ∃ q, clausesJ k ⟨y0, y1, y2, y3, y4⟩ = q := ⟨_, rfl⟩
              have hcw := HC.out (wr.alloc (.cells #[.int .i64 y0, .int .i64 y1, .string y2, .slice B3 y3.length d3, .slice B4 y4.length d4] 25)) (HR.out.alloc HR.out.size _)
              rw [hq] at hcw
              have hbig : ∀ a, q = some a → a ≤ 1000 ^ 5 := fun a e => Nat.le_trans (hley a (hq.trans e)) hpow
              have HQ := Lib.hid hq; clear hq hley HC
              have hB1 : Below w.heap.size w (wr.alloc (.cells #[.int .i64 y0, .int .i64 y1, .string y2, .slice B3 y3.length d3, .slice B4 y4.length d4] 25)) := HR.out.alloc HR.out.size _
              have HB1 := Lib.hid hB1; clear hB1
              cases q with
              | none =>
                clear hbig
                have hno : ANS = none := by rw [HS.out, HD.out, List.map_cons, HQ.out, countO_none]
                subst hno
                clear HS
                go_wp2_with fail
                refine hcw.mono ?_; rintro e w' ⟨rfl, hb'⟩
                have HB' := Lib.hid hb'; clear hb' hcw
                simp only [encO]
                go_wp2_with fail
                go_ret
                exact ⟨rfl, HB1.out.trans (HB'.out.mono HB1.out.size)⟩
              | some a =>
                have ha := hbig a rfl
                clear hbig
                have hS2 : ANS = countO (n + a) ((x4.drop (j + 1)).map (clausesJ k)) := by rw [HS.out, HD.out, List.map_cons, HQ.out, countO_some]
                have HS2 := Lib.hid hS2; clear hS2 HS
                have hncap : (n : Int) + a ≤ 25 * 1000 ^ 5 + 1 := by
                  have : j * 1000 ^ 5 ≤ 24 * 1000 ^ 5 := Nat.mul_le_mul_right _ (by omega)
                  omega
                go_wp2_with fail
                refine hcw.mono ?_; rintro e w' ⟨rfl, hb'⟩
                have HB' := Lib.hid hb'; clear hb' hcw
                simp only [encO]
                go_wp2_with fail
                go_roundw
                case rel =>
                  refine ⟨j + 1, n + a, by omega, by rw [Nat.add_mul]; omega, by go_num, ?_, HS2.out, HB1.out.trans (HB'.out.mono HB1.out.size)⟩
                  rw [show ((n + a : Nat) : Int) = (n : Int) + a by omega]
                case measure => simp [intOf]; omega
            · have hnl : ¬ (j : Int) < (x4.length : Int) := by omega
              have hS : ANS = some n := by rw [HS.out, List.drop_eq_nil_of_le (by omega)]; rfl
              subst hS
              clear HS
              go_wp2_with fail
              go_ret
              exact ⟨rfl, HR.out⟩
    | false =>
      rw [if_neg (by simp)] at hA
      clear HAO
      cases t2 : s.toList == [36, 110, 111, 116] with
      | true =>
        rw [show isNot s = true from t2, if_pos rfl] at hA
        have hcall := HI.out ⟨x0, x1, x2, x3, x4⟩ A3 c3 A4 c4 wc HF.out (HRD.out.below HB.out) (HT.out.below HB.out)
        obtain ⟨q, hq⟩ : ∃ q, clausesJ k ⟨x0, x1, x2, x3, x4⟩ = q := ⟨_, rfl⟩
        have hbig : ∀ a, q = some a → a ≤ 1000 ^ 5 := fun a e => Nat.le_trans (HL.out _ HF.out a (hq.trans e)) hpow
        have f1 : wc.cell? ⟨w.heap.size, 1, none⟩ = some (.int .i64 x1) := (blk_cell HK.out 1).trans rfl
        have f2 : wc.cell? ⟨w.heap.size, 2, none⟩ = some (.string x2) := (blk_cell HK.out 2).trans rfl
        have f3 : wc.cell? ⟨w.heap.size, 3, none⟩ = some (.slice A3 x3.length c3) := (blk_cell HK.out 3).trans rfl
        rw [hq] at hA hcall
        clear hq
        cases q with
        | none =>
          simp only [Option.map_none, encO] at hA hcall
          subst hA
          go_wp2_with fail
          refine hcall.mono ?_; rintro e w' ⟨rfl, hb'⟩
          have HB' := Lib.hid hb'; clear hb' hcall
          go_wp2_with fail
          go_ret
          exact ⟨rfl, HB.out.trans (HB'.out.mono HB.out.size)⟩
        | some a =>
          have ha := hbig a rfl
          simp only [Option.map_some, encO] at hA hcall
          subst hA
          have hb1 : decide (0 ≤ (a : Int)) = true := decide_eq_true (by omega)
          go_wp2_with fail
          refine hcall.mono ?_; rintro e w' ⟨rfl, hb'⟩
          have HB' := Lib.hid hb'; clear hb' hcall
          go_wp2_with fail
          go_ret
          refine ⟨?_, HB.out.trans (HB'.out.mono HB.out.size)⟩
          simp only [encO]
          rw [show ((1 + a : Nat) : Int) = (a : Int) + 1 by omega]
          rfl
      | false =>
        rw [show isNot s = false from t2, if_neg (by simp)] at hA
        have hP := prefix_any s wc
        cases t3 : sgn s with
        | true =>
          rw [t3] at hA hP
          rw [if_pos rfl] at hA
          subst hA
          go_wp2_with fail
          refine hP.mono ?_; rintro e w' ⟨rfl, hb'⟩
          have HB' := Lib.hid hb'; clear hb' hP
          go_wp2_with fail
          go_ret
          exact ⟨rfl, HB.out.trans (HB'.out.mono HB.out.size)⟩
        | false =>
          rw [t3] at hA hP
          rw [if_neg (by simp)] at hA
          have HA := Lib.hid hA; clear hA
          clear f0 f4
          go_wp2_with fail
          refine hP.mono ?_; rintro e w' ⟨rfl, hb'⟩
          have hB1 := HB.out.trans (hb'.mono HB.out.size)
          have hK1 := blk_below HK.out hb'
          clear hP hb' HK HB
          have HB := Lib.hid hB1
          have HK := Lib.hid hK1
          have hS := steps_any s w' (HT.out.below hB1) (by omega)
          clear hB1 hK1
          go_wp2_with fail
          refine hS.mono ?_; rintro e w2 ⟨he, hb'⟩
          have hB1 := HB.out.trans (hb'.mono HB.out.size)
          have hK1 := blk_below HK.out hb'
          clear hS hb' HK HB
          have HB := Lib.hid hB1; clear hB1
          have HK := Lib.hid hK1; clear hK1
          cases hst : stepsJ vstr s with
          | none =>
            rw [hst] at he
            obtain rfl := he
            have hA := HA.out
            rw [hst, if_pos rfl] at hA
            subst hA
            clear HA
            go_wp2_with fail
            go_ret
            exact ⟨rfl, HB.out⟩
          | some l =>
            rw [hst] at he
            obtain ⟨v, rfl, hrow⟩ := he
            obtain ⟨rv, kv, rfl⟩ := row_len hrow
            have hA := HA.out
            rw [hst, if_neg (by simp)] at hA
            clear HA hrow hst
            have HA := Lib.hid hA; clear hA
            have f0 : w2.cell? ⟨w.heap.size, 0, none⟩ = some (.int .i64 x0) := (blk_cell HK.out 0).trans rfl
            have f1 : w2.cell? ⟨w.heap.size, 1, none⟩ = some (.int .i64 x1) := (blk_cell HK.out 1).trans rfl
            have f2 : w2.cell? ⟨w.heap.size, 2, none⟩ = some (.string x2) := (blk_cell HK.out 2).trans rfl
            have f3 : w2.cell? ⟨w.heap.size, 3, none⟩ = some (.slice A3 x3.length c3) := (blk_cell HK.out 3).trans rfl
            have f4 : w2.cell? ⟨w.heap.size, 4, none⟩ = some (.slice A4 x4.length c4) := (blk_cell HK.out 4).trans rfl
            have hTs := tests_any ⟨x0, x1, x2, x3, x4⟩ A3 c3 A4 c4 w2 (HRD.out.below HB.out) (by show x3.length ≤ 1000000; omega)
            cases hts : testsJ ⟨x0, x1, x2, x3, x4⟩ with
            | false =>
              rw [hts] at hTs
              have hA := HA.out
              rw [hts, Bool.false_and, if_neg (by simp)] at hA
              subst hA
              clear HA
              go_wp2_with fail
              refine hTs.mono ?_; rintro e w3 ⟨rfl, hb'⟩
              have HB' := Lib.hid hb'; clear hb' hTs
              go_wp2_with fail
              go_ret
              exact ⟨rfl, HB.out.trans (HB'.out.mono HB.out.size)⟩
            | true =>
              rw [hts] at hTs
              have hx6 : x0 = 6 := by
                unfold testsJ at hts
                simp only [Bool.and_eq_true, beq_iff_eq] at hts
                exact hts.1
              have HLEN := Lib.hid (names_items HF.out hx6)
              have hA := HA.out
              rw [hts, Bool.true_and] at hA
              clear HA hts hx6
              have HA := Lib.hid hA; clear hA
              go_wp2_with fail
              refine hTs.mono ?_; rintro e w3 ⟨rfl, hb'⟩
              have hB1 := HB.out.trans (hb'.mono HB.out.size)
              have hK1 := blk_below HK.out hb'
              clear hTs hb' HK HB f0 f1 f2 f3 f4
              have HB := Lib.hid hB1; clear hB1
              have HK := Lib.hid hK1; clear hK1
              have f3 : w3.cell? ⟨w.heap.size, 3, none⟩ = some (.slice A3 x3.length c3) := (blk_cell HK.out 3).trans rfl
              go_wp2_with fail
              go_loopw [12, 13, 70] (fun v12 v13 v70 wr => ∃ j : Nat, j ≤ x3.length ∧ v70 = .int .i64 j ∧ (∀ i, i < j → testJ (x3.getD i ByteArray.empty) (x4.getD i z25) = true) ∧ Below w.heap.size w wr ∧ wr.heap[w.heap.size]? = some (.cells #[.int .i64 x0, .int .i64 x1, .string x2, .slice A3 x3.length c3, .slice A4 x4.length c4] 25 (0, 0))) (fun _ _ v70 _ => x3.length - (intOf v70).toNat)
              case atStart => exact ⟨0, Nat.zero_le _, rfl, fun i hi => absurd hi (Nat.not_lt_zero _), HB.out, HK.out⟩
              case round =>
                obtain ⟨j, hj, rfl, hok, hBr, hKr⟩ := hrel
                have f4 : wr.cell? ⟨w.heap.size, 4, none⟩ = some (.slice A4 x4.length c4) := (blk_cell hKr 4).trans rfl
                have HO := Lib.hid hok; clear hok
                have HR := Lib.hid hBr; clear hBr
                have HKR := Lib.hid hKr; clear hKr
                clear f3
                by_cases hlt : j < x3.length
                · have hji : (j : Int) < (x3.length : Int) := by omega
                  have hj4 : j < x4.length := by have := HLEN.out; omega
                  have hji' : (j : Int) < (x4.length : Int) := by omega
                  obtain ⟨t, ht⟩ : ∃ t, x3[j]? = some t := ⟨_, List.getElem?_eq_getElem hlt⟩
                  obtain ⟨y, hy⟩ : ∃ y, x4[j]? = some y := ⟨_, List.getElem?_eq_getElem hj4⟩
                  obtain ⟨b', o', rfl, hb', e9⟩ := name_of HRD.out.g3 rfl j t ht
                  obtain ⟨b, o, B3, d3, B4, d4, rfl, hb, e0, e1, e2, e3, e4, hR⟩ := item_of HRD.out.g4 rfl j y hy
                  replace e9 := (HR.out.cell (World.block_lt_of_cell? w _ e9)).trans e9
                  replace e0 := (HR.out.cell (World.block_lt_of_cell? w _ e0)).trans e0
                  replace e1 := (HR.out.cell (World.block_lt_of_cell? w _ e1)).trans e1
                  replace e2 := (HR.out.cell (World.block_lt_of_cell? w _ e2)).trans e2
                  replace e3 := (HR.out.cell (World.block_lt_of_cell? w _ e3)).trans e3
                  replace e4 := (HR.out.cell (World.block_lt_of_cell? w _ e4)).trans e4
                  have hcall := test_any t y B3 d3 B4 d4 wr (hR.below HR.out)
                  have hget : testJ (x3.getD j ByteArray.empty) (x4.getD j z25) = testJ t y := by
                    rw [List.getD_eq_getElem?_getD, ht, List.getD_eq_getElem?_getD, hy]; rfl
                  have HG := Lib.hid hget; clear hget
                  clear hR hy ht
                  obtain ⟨y0, y1, y2, y3, y4⟩ := y
                  cases hq : testJ t ⟨y0, y1, y2, y3, y4⟩ with
                  | false =>
                    rw [hq] at hcall
                    have hno : testsOk ⟨x0, x1, x2, x3, x4⟩ = false := List.all_eq_false.2 ⟨j, by simpa using hlt, by rw [HG.out, hq]; simp⟩
                    have hA := HA.out
                    rw [hno] at hA
                    simp only [Bool.not_false, if_true] at hA
                    subst hA
                    clear HA hno
                    go_wp2_with fail
                    refine hcall.mono ?_; rintro e w' ⟨rfl, hb'⟩
                    have HB' := Lib.hid hb'; clear hb' hcall
                    go_wp2_with fail
                    go_ret
                    exact ⟨rfl, HR.out.trans (HB'.out.mono HR.out.size)⟩
                  | true =>
                    rw [hq] at hcall
                    have HQ := Lib.hid hq; clear hq
                    go_wp2_with fail
                    refine hcall.mono ?_; rintro e w' ⟨rfl, hb'⟩
                    have HB' := Lib.hid hb'; clear hb' hcall
                    go_wp2_with fail
                    go_roundw
                    case rel =>
                      refine ⟨j + 1, by omega, by go_num, fun i hi => ?_, HR.out.trans (HB'.out.mono HR.out.size), blk_below HKR.out HB'.out⟩
                      by_cases hi' : i < j
                      · exact HO.out i hi'
                      · obtain rfl : i = j := by omega
                        rw [HG.out, HQ.out]
                    case measure => simp [intOf]; omega
                · have hnl : ¬ (j : Int) < (x3.length : Int) := by omega
                  have hall : testsOk ⟨x0, x1, x2, x3, x4⟩ = true := List.all_eq_true.2 (fun i hi => HO.out i (by
                    have h1 : i < x3.length := by simpa using hi
                    omega))
                  have hA := HA.out
                  rw [hall] at hA
                  simp only [Bool.not_true, Bool.false_eq_true, if_false] at hA
                  subst hA
                  clear HA hall
                  go_wp2_with fail
                  go_ret
                  exact ⟨rfl, HR.out⟩

end Go.Proofs.YtehdnjegipcpfaaDoor
