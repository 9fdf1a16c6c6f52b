/-
  The contracts of filter.clauses and filter.Check, under utf8's tables.
-/
import Derived.Test.YtehdnjegipcpfaaDoorH
namespace Go.Proofs.YtehdnjegipcpfaaDoor
open Go.RowKit Go.Proofs.YtehdnjegipcpfaaDoorW.PrintWords Go.Proofs.YtehdnjegipcpfaaDoorW.PrintLast Go.Proofs.YtehdnjegipcpfaaDoorW.PrintMore
open PFilterHolds Go.Shelf

theorem name_few {k : Nat} {x : S25} (h : formedJ (k + 1) x = true) : ∀ s ∈ x.f3, s.size ≤ 60 := by
  intro s hs
  have h9 := (formed_parts h).2.2.2.2.2.2.2.2
  obtain ⟨i, hi, rfl⟩ := List.getElem_of_mem hs
  have := List.all_eq_true.1 h9 i (by simpa using hi)
  unfold okAt textJ at this
  simp only [Bool.and_eq_true, decide_eq_true_eq] at this
  have h1 := this.1.1
  rw [List.getD_eq_getElem?_getD, List.getElem?_eq_getElem hi] at h1
  exact h1

set_option maxRecDepth 100000 in
set_option maxHeartbeats 4000000 in
theorem clauses_step (k : Nat) (hk : k ≤ 5) (ih : ClausesAt k) : ClausesAt (k + 1) := by
  intro x A3 c3 A4 c4 w hf h hT
  obtain ⟨hl3, hl4⟩ := few_items hf
  have hnm := name_few hf
  have hit := (formed_parts hf).2.2.1
  have hni := fun h6 => names_items hf h6
  have hb0 : Below w.heap.size w (w.alloc (.cells #[.int .i64 x.f0, .int .i64 x.f1, .string x.f2, .slice A3 x.f3.length c3, .slice A4 x.f4.length c4] 25)) := (Below.refl _ w).alloc (Nat.le_refl _) _
  have hblk := new_blk w (.cells #[.int .i64 x.f0, .int .i64 x.f1, .string x.f2, .slice A3 x.f3.length c3, .slice A4 x.f4.length c4] 25)
  have hpow : (1000 : Nat) ^ k ≤ 1000 ^ 5 := Nat.pow_le_pow_right (by omega) hk
  have hcl : ∀ (s : ByteArray) (y : S25), formedJ k y = true → ∀ n, clauseJ (clausesJ k) s y = some n → n ≤ 1 + 24 * 1000 ^ 5 := fun s y hy n hn => by
    have := clause_le (k := k) (b := 1000 ^ k) (fun z hz n => clauses_le k z hz n) hy n hn
    omega
  obtain ⟨ANS, hA⟩ : ∃ ANS, clausesJ (k + 1) x = ANS := ⟨_, rfl⟩
  rw [hA]
  unfold clausesJ at hA
  have HB0 := Lib.hid hb0; clear hb0
  have HBK := Lib.hid hblk; clear hblk
  have HT := Lib.hid hT; clear hT
  have HI := Lib.hid ih; clear ih
  have HCL := Lib.hid hcl; clear hcl
  have HIT := Lib.hid hit; clear hit
  have HNM := Lib.hid hnm; clear hnm
  have HNI := Lib.hid hni; clear hni
  have HRD := Lib.hid h; clear h
  clear hf
  obtain ⟨x0, x1, x2, x3, x4⟩ := x
  simp only at hl3 hl4 hA
  cases b1 : x0 != 6 with
  | true =>
    rw [b1, if_pos rfl] at hA
    subst hA
    go_enter Tryd.func35, Tryd.ntmps35
    go_wp2_with fail
    go_ret
    exact ⟨rfl, HB0.out⟩
  | false =>
    rw [b1, if_neg (by simp)] at hA
    have h6 : x0 = 6 := by simpa using b1
    have HLEN := Lib.hid (HNI.out h6)
    clear h6 HNI
    have HA := Lib.hid hA; clear hA
    go_enter Tryd.func35, Tryd.ntmps35
    go_wp2_with fail
    go_loopw [3, 4, 5, 6, 13] (fun v3 v4 v5 v6 v13 wr => ∃ j n : Nat, j ≤ x3.length ∧ n ≤ j * (1 + 24 * 1000 ^ 5) ∧ v13 = .int .i64 j ∧ v3 = .int .i64 n ∧ ANS = countO n ((List.range' j (x3.length - j)).map (fun i => clauseJ (clausesJ k) (x3.getD i ByteArray.empty) (x4.getD i z25))) ∧ Below w.heap.size w wr ∧ wr.heap[w.heap.size]? = some (.cells #[.int .i64 x0, .int .i64 x1, .string x2, .slice A3 x3.length c3, .slice A4 x4.length c4] 25 (0, 0))) (fun _ _ _ _ v13 _ => x3.length - (intOf v13).toNat)
    case atStart => exact ⟨0, 0, Nat.zero_le _, Nat.zero_le _, rfl, rfl, by rw [← HA.out]; unfold countO; simp, HB0.out, HBK.out⟩
    case round =>
      obtain ⟨j, n, hj, hn, rfl, rfl, hS, hBr, hKr⟩ := hrel
      have f4 : wr.cell? ⟨w.heap.size, 4, none⟩ = some (.slice A4 x4.length c4) := (blk_cell hKr 4).trans rfl
      have HS := Lib.hid hS; clear hS
      have HR := Lib.hid hBr; clear hBr
      have HKR := Lib.hid hKr; clear hKr
      by_cases hlt : j < x3.length
      · have hj4 : j < x4.length := by have := HLEN.out; omega
        have hji : (j : Int) < (x3.length : Int) := by omega
        have hji' : (j : Int) < (x4.length : Int) := by omega
        obtain ⟨t, ht⟩ : ∃ t, x3[j]? = some t := ⟨_, List.getElem?_eq_getElem hlt⟩
        obtain ⟨y, hy⟩ : ∃ y, x4[j]? = some y := ⟨_, List.getElem?_eq_getElem hj4⟩
        obtain ⟨b', o', rfl, hb', e9⟩ := name_of HRD.out.g3 rfl j t ht
        obtain ⟨b, o, B3, d3, B4, d4, rfl, hb, e0, e1, e2, e3, e4, hR⟩ := item_of HRD.out.g4 rfl j y hy
        replace e9 := (HR.out.cell (World.block_lt_of_cell? w _ e9)).trans e9
        replace e0 := (HR.out.cell (World.block_lt_of_cell? w _ e0)).trans e0
        replace e1 := (HR.out.cell (World.block_lt_of_cell? w _ e1)).trans e1
        replace e2 := (HR.out.cell (World.block_lt_of_cell? w _ e2)).trans e2
        replace e3 := (HR.out.cell (World.block_lt_of_cell? w _ e3)).trans e3
        replace e4 := (HR.out.cell (World.block_lt_of_cell? w _ e4)).trans e4
        have hfy : formedJ k y = true := HIT.out y (List.mem_of_getElem? hy)
        have hsz := HNM.out t (List.mem_of_getElem? ht)
        have hcall := clause_any k hk HI.out t (by omega) y B3 d3 B4 d4 wr hfy (hR.below HR.out) (HT.out.below HR.out)
        have hbig := HCL.out t y hfy
        have hd : (List.range' j (x3.length - j)).map (fun i => clauseJ (clausesJ k) (x3.getD i ByteArray.empty) (x4.getD i z25)) = clauseJ (clausesJ k) t y :: (List.range' (j + 1) (x3.length - (j + 1))).map (fun i => clauseJ (clausesJ k) (x3.getD i ByteArray.empty) (x4.getD i z25)) := by
          rw [show x3.length - j = (x3.length - (j + 1)) + 1 by omega, List.range'_succ, List.map_cons, List.getD_eq_getElem?_getD, ht, List.getD_eq_getElem?_getD, hy]
          rfl
        have HD := Lib.hid hd; clear hd
        clear hR hy ht hfy
        obtain ⟨y0, y1, y2, y3, y4⟩ := y
        obtain ⟨q, hq⟩ : ∃ q, clauseJ (clausesJ k) t ⟨y0, y1, y2, y3, y4⟩ = q := ⟨_, rfl⟩
        rw [hq] at hcall
        have HQ := Lib.hid hq
        have hbig2 : ∀ a, q = some a → a ≤ 1 + 24 * 1000 ^ 5 := fun a e => hbig a (hq.trans e)
        clear hbig hq
        cases q with
        | none =>
          clear hbig2
          have hno : ANS = none := by rw [HS.out, HD.out, HQ.out, countO_none]
          subst hno
          clear HS
          simp only [encO] at hcall
          go_wp2_with fail
          refine hcall.mono ?_; rintro e w' ⟨rfl, hb'⟩
          have HB' := Lib.hid hb'; clear hb' hcall
          go_wp2_with fail
          go_ret
          exact ⟨rfl, HR.out.trans (HB'.out.mono HR.out.size)⟩
        | some a =>
          have ha := hbig2 a rfl
          clear hbig2
          have hS2 : ANS = countO (n + a) ((List.range' (j + 1) (x3.length - (j + 1))).map (fun i => clauseJ (clausesJ k) (x3.getD i ByteArray.empty) (x4.getD i z25))) := by rw [HS.out, HD.out, HQ.out, countO_some]
          have HS2 := Lib.hid hS2; clear hS2 HS
          have hncap : n ≤ 24 * (1 + 24 * 1000 ^ 5) := Nat.le_trans hn (Nat.mul_le_mul_right _ (by omega))
          simp only [encO] at hcall
          have hge : decide ((a : Int) < 0) = false := decide_eq_false (by omega)
          go_wp2_with fail
          refine hcall.mono ?_; rintro e w' ⟨rfl, hb'⟩
          have HB' := Lib.hid hb'; clear hb' hcall
          go_wp2_with fail
          go_roundw
          case rel =>
            refine ⟨j + 1, n + a, by omega, by rw [Nat.add_mul]; omega, by go_num, ?_, HS2.out, HR.out.trans (HB'.out.mono HR.out.size), blk_below HKR.out HB'.out⟩
            rw [show ((n + a : Nat) : Int) = (n : Int) + a by omega]
          case measure => simp [intOf]; omega
      · have hnl : ¬ (j : Int) < (x3.length : Int) := by omega
        have hS : ANS = some n := by rw [HS.out, show x3.length - j = 0 by omega]; rfl
        subst hS
        clear HS
        go_wp2_with fail
        go_ret
        exact ⟨rfl, HR.out⟩

theorem clauses_any : ∀ k, k ≤ 6 → ClausesAt k
  | 0, _ => fun x A3 c3 A4 c4 w hf _ _ => by unfold formedJ at hf; cases hf
  | k + 1, hk => clauses_step k (by omega) (clauses_any k (by omega))

/-- What Check answers: 0, or the error. -/
def checkJ (f : S25) : Int := if fmJ f then (match clausesJ 6 f with | none => 2 | some n => if 12 < n then 3 else 0) else 2

set_option maxHeartbeats 1000000 in
theorem check_any (x : S25) (A3 : Option Addr) (c3 : Nat) (A4 : Option Addr) (c4 : Nat) (w : World) (h : Rd w A3 c3 A4 c4 x) (hT : Tabs w) :
    Calls Tryd.prog 16 #[av x A3 c3 A4 c4] w fun e w' => e = .returned (.int .i64 (checkJ x)) ∧ Below w.heap.size w w' := by
  have hb0 : Below w.heap.size w (w.alloc (.cells #[.int .i64 x.f0, .int .i64 x.f1, .string x.f2, .slice A3 x.f3.length c3, .slice A4 x.f4.length c4] 25)) := (Below.refl _ w).alloc (Nat.le_refl _) _
  have hblk := new_blk w (.cells #[.int .i64 x.f0, .int .i64 x.f1, .string x.f2, .slice A3 x.f3.length c3, .slice A4 x.f4.length c4] 25)
  have hX := Formed_any x A3 c3 A4 c4 _ (h.below hb0) (hT.below hb0)
  have hY := fun W (hb : Below w.heap.size w W) (hf : formedJ 6 x = true) => clauses_any 6 (by omega) x A3 c3 A4 c4 W hf (h.below hb) (hT.below hb)
  unfold checkJ
  have HB0 := Lib.hid hb0; clear hb0
  have HY := Lib.hid hY; clear hY
  clear h hT
  cases hf : fmJ x with
  | false =>
    rw [hf] at hX
    obtain ⟨x0, x1, x2, x3, x4⟩ := x
    rw [if_neg (by simp)]
    clear HY hf
    go_enter Tryd.func16, Tryd.ntmps16
    go_wp2_with fail
    refine hX.mono ?_; rintro e w' ⟨rfl, hb⟩
    have HB := Lib.hid hb; clear hb
    go_wp2_with fail
    go_ret
    exact ⟨rfl, HB0.out.trans (HB.out.mono HB0.out.size)⟩
  | true =>
    rw [hf] at hX
    rw [if_pos rfl]
    have hY := fun W (hb : Below w.heap.size w W) => HY.out W hb hf
    obtain ⟨x0, x1, x2, x3, x4⟩ := x
    obtain ⟨q, hq⟩ : ∃ q, clausesJ 6 ⟨x0, x1, x2, x3, x4⟩ = q := ⟨_, rfl⟩
    rw [hq] at hY ⊢
    clear hq HY hf
    have HY := Lib.hid hY; clear hY
    go_enter Tryd.func16, Tryd.ntmps16
    go_wp2_with fail
    refine hX.mono ?_; rintro e w1 ⟨rfl, hb⟩
    have hK := blk_below hblk hb
    have hB := HB0.out.trans (hb.mono HB0.out.size)
    have hC := HY.out w1 hB
    have HB := Lib.hid hB
    clear hb hB hX hblk HY
    have f0 : w1.cell? ⟨w.heap.size, 0, none⟩ = some (.int .i64 x0) := (blk_cell hK 0).trans rfl
    have f1 : w1.cell? ⟨w.heap.size, 1, none⟩ = some (.int .i64 x1) := (blk_cell hK 1).trans rfl
    have f2 : w1.cell? ⟨w.heap.size, 2, none⟩ = some (.string x2) := (blk_cell hK 2).trans rfl
    have f3 : w1.cell? ⟨w.heap.size, 3, none⟩ = some (.slice A3 x3.length c3) := (blk_cell hK 3).trans rfl
    have f4 : w1.cell? ⟨w.heap.size, 4, none⟩ = some (.slice A4 x4.length c4) := (blk_cell hK 4).trans rfl
    clear hK
    cases q with
    | none =>
      simp only [encO] at hC
      go_wp2_with fail
      refine hC.mono ?_; rintro e w2 ⟨rfl, hb⟩
      have HB2 := Lib.hid hb; clear hb hC f0 f1 f2 f3 f4
      go_wp2_with fail
      go_ret
      exact ⟨rfl, HB.out.trans (HB2.out.mono HB.out.size)⟩
    | some n =>
      simp only [encO] at hC
      have g1 : decide ((n : Int) < 0) = false := decide_eq_false (by omega)
      by_cases h12 : 12 < n
      · have g2 : decide ((12 : Int) < (n : Int)) = true := decide_eq_true (by omega)
        go_wp2_with fail
        refine hC.mono ?_; rintro e w2 ⟨rfl, hb⟩
        have HB2 := Lib.hid hb; clear hb hC f0 f1 f2 f3 f4
        go_wp2_with fail
        go_ret
        exact ⟨by simp only [if_pos h12]; rfl, HB.out.trans (HB2.out.mono HB.out.size)⟩
      · have g2 : decide ((12 : Int) < (n : Int)) = false := decide_eq_false (by omega)
        go_wp2_with fail
        refine hC.mono ?_; rintro e w2 ⟨rfl, hb⟩
        have HB2 := Lib.hid hb; clear hb hC f0 f1 f2 f3 f4
        go_wp2_with fail
        go_ret
        exact ⟨by simp only [if_neg h12]; rfl, HB.out.trans (HB2.out.mono HB.out.size)⟩

end Go.Proofs.YtehdnjegipcpfaaDoor
