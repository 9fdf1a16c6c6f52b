/-
  The reference's counting of conditions: the contracts of its clause, count and Check at formed values; no condition.
-/
import Derived.Test.YtehdnjegipcpfaaDoorRefsg
namespace Go.Proofs.YtehdnjegipcpfaaDoor
open Go.RowKit Go.Proofs.YtehdnjegipcpfaaDoorW.PrintWords Go.Proofs.YtehdnjegipcpfaaDoorW.PrintLast Go.Proofs.YtehdnjegipcpfaaDoorW.PrintMore
open PFilterHolds Go.Shelf

/-- What count and clause hand back: some number and false, or the count and true. -/
def CntEnd (o : Option Nat) (e : Ending) : Prop := ∃ (m : Int) (b : Bool), e = .returned (.tuple #[.int .i64 m, .bool b]) ∧ match o with | none => b = false | some n => b = true ∧ m = n

def CountAt (k : Nat) : Prop := ∀ (x : S25) (A3 : Option Addr) (c3 : Nat) (A4 : Option Addr) (c4 : Nat) (w : World), formedJ k x = true → Rd w A3 c3 A4 c4 x →
    Calls Tryd.prog 42 #[av x A3 c3 A4 c4] w fun e w' => CntEnd (clausesJ k x) e ∧ Below w.heap.size w w'

set_option maxRecDepth 100000 in
set_option maxHeartbeats 4000000 in
theorem clause_ref (k : Nat) (hk : k ≤ 5) (ih : CountAt k) (s : ByteArray) (hs : s.size ≤ 1000) (x : S25) (A3 : Option Addr) (c3 : Nat) (A4 : Option Addr) (c4 : Nat) (w : World) (hf : formedJ k x = true) (h : Rd w A3 c3 A4 c4 x) :
    Calls Tryd.prog 63 #[.string s, av x A3 c3 A4 c4] w fun e w' => CntEnd (clauseJ (clausesJ k) s x) e ∧ Below w.heap.size w w' := by
  obtain ⟨hl3, hl4⟩ := few_items hf
  have hb0 : Below w.heap.size w (w.alloc (.cells (cs25 x A3 c3 A4 c4) 25)) := (Below.refl _ w).alloc (Nat.le_refl _) _
  have hblk := new_blk w (.cells (cs25 x A3 c3 A4 c4) 25)
  have hpow : (1000 : Nat) ^ k ≤ 1000 ^ 5 := Nat.pow_le_pow_right (by omega) hk
  have hle := fun (y : S25) (hy : formedJ k y = true) => clauses_le k y hy
  have hit := items_formed hf
  have h63 : x.f0 ≠ 6 → x.f3 = [] := by
    cases k with
    | zero => unfold formedJ at hf; cases hf
    | succ k => exact (formed_parts hf).2.2.2.2.2.2.1
  have hlen : x.f3.length ≤ x.f4.length := by
    cases k with
    | zero => unfold formedJ at hf; cases hf
    | succ k => exact names_le hf
  obtain ⟨ANS, hA⟩ : ∃ ANS, clauseJ (clausesJ k) s x = ANS := ⟨_, rfl⟩
  rw [hA]
  have HA := Lib.hid hA; clear hA
  have HB0 := Lib.hid hb0; clear hb0
  have HBK := Lib.hid hblk; clear hblk
  have HI := Lib.hid ih; clear ih
  have HF := Lib.hid hf; clear hf
  have HL := Lib.hid hle; clear hle
  have HIT := Lib.hid hit; clear hit
  have HRD := Lib.hid h; clear h
  have H63 := Lib.hid h63; clear h63
  have HLEN := Lib.hid hlen; clear hlen
  obtain ⟨AO, hAO⟩ : ∃ b, (isAnd s || isOr s) = b := ⟨_, rfl⟩
  have HAO := Lib.hid hAO; clear hAO
  obtain ⟨x0, x1, x2, x3, x4⟩ := x
  simp only at hl3 hl4
  go_enter Tryd.func63, Tryd.ntmps63
  go_upto_region 1 with fail
  go_cut [20] from 15 to 20 (fun b wx => b = .bool AO ∧ Below w.heap.size w wx ∧ wx.heap[w.heap.size]? = some (.cells (cs25 ⟨x0, x1, x2, x3, x4⟩ A3 c3 A4 c4) 25 (0, 0)))
  case first =>
    have hAO := HAO.out
    unfold isAnd isOr at hAO
    cases t1 : s.toList == [36, 97, 110, 100] with
    | true =>
      rw [t1, Bool.true_or] at hAO
      subst hAO
      go_wp2_with fail
      go_meet
      exact ⟨rfl, HB0.out, HBK.out⟩
    | false =>
      rw [t1, Bool.false_or] at hAO
      subst hAO
      go_wp2_with fail
      go_meet
      exact ⟨rfl, HB0.out, HBK.out⟩
  case rest =>
    obtain ⟨rfl, hB, hK⟩ := hcut
    have f0 : wc.cell? ⟨w.heap.size, 0, none⟩ = some (.int .i64 x0) := (blk_cell hK 0).trans rfl
    have f4 : wc.cell? ⟨w.heap.size, 4, none⟩ = some (.slice A4 x4.length c4) := (blk_cell hK 4).trans rfl
    have HB := Lib.hid hB; clear hB
    have HK := Lib.hid hK; clear hK
    clear HB0 HBK
    have hA := HA.out
    unfold clauseJ at hA
    rw [HAO.out] at hA
    clear HA
    cases AO with
    | true =>
      rw [if_pos rfl] at hA
      clear HAO f0 f4
      obtain ⟨OB, hOB⟩ : ∃ b, (x0 != 5 || x4.length == 0) = b := ⟨_, rfl⟩
      simp only [hOB] at hA
      have hA2 : ANS = if OB = true then none else countO 1 ((x4.drop 0).map (clausesJ k)) := hA.symm
      have HOB := Lib.hid hOB; clear hOB
      have HA := Lib.hid hA2; clear hA2 hA
      go_wp2_with fail
      go_loopw [6, 7, 8, 9] (fun v6 v7 v8 v9 wr => ∃ j n : Nat, j ≤ x4.length ∧ n ≤ 1 + j * 1000 ^ 5 ∧ v7 = .int .i64 j ∧ v6 = .int .i64 n ∧ (ANS = if OB = true then none else countO n ((x4.drop j).map (clausesJ k))) ∧ Below w.heap.size w wr ∧ wr.heap[w.heap.size]? = some (.cells (cs25 ⟨x0, x1, x2, x3, x4⟩ A3 c3 A4 c4) 25 (0, 0))) (fun _ v7 _ _ _ => x4.length - (intOf v7).toNat)
      case atStart => exact ⟨0, 1, Nat.zero_le _, by omega, rfl, rfl, HA.out, HB.out, HK.out⟩
      case round =>
        obtain ⟨j, n, hj, hn, rfl, rfl, hS, hBr, hKr⟩ := hrel
        have HS := Lib.hid hS; clear hS
        have HR := Lib.hid hBr; clear hBr
        have f0 : wr.cell? ⟨w.heap.size, 0, none⟩ = some (.int .i64 x0) := (blk_cell hKr 0).trans rfl
        have f4 : wr.cell? ⟨w.heap.size, 4, none⟩ = some (.slice A4 x4.length c4) := (blk_cell hKr 4).trans rfl
        have HKR := Lib.hid hKr; clear hKr
        clear HA HB HK
        by_cases hlt : j < x4.length
        · have hji : (j : Int) < (x4.length : Int) := by omega
          obtain ⟨y, hy⟩ : ∃ y, x4[j]? = some y := ⟨_, List.getElem?_eq_getElem hlt⟩
          obtain ⟨b, o, B3, d3, B4, d4, rfl, hb, e0, e1, e2, e3, e4, hR⟩ := item_of HRD.out.g4 rfl j y hy
          replace e0 := (HR.out.cell (World.block_lt_of_cell? w _ e0)).trans e0
          replace e1 := (HR.out.cell (World.block_lt_of_cell? w _ e1)).trans e1
          replace e2 := (HR.out.cell (World.block_lt_of_cell? w _ e2)).trans e2
          replace e3 := (HR.out.cell (World.block_lt_of_cell? w _ e3)).trans e3
          replace e4 := (HR.out.cell (World.block_lt_of_cell? w _ e4)).trans e4
          have hfy : formedJ k y = true := HIT.out y (List.mem_of_getElem? hy)
          have hcw := HI.out y B3 d3 B4 d4 wr hfy (hR.below HR.out)
          have hley := HL.out y hfy
          have hd : x4.drop j = y :: x4.drop (j + 1) := by
            obtain ⟨hi, rfl⟩ := List.getElem?_eq_some_iff.1 hy
            exact List.drop_eq_getElem_cons hi
          have HD := Lib.hid hd; clear hd
          clear hR hy f0
          obtain ⟨y0, y1, y2, y3, y4⟩ := y
          obtain ⟨q, hq⟩ : ∃ q, clausesJ k ⟨y0, y1, y2, y3, y4⟩ = q := ⟨_, rfl⟩
          rw [hq] at hcw
          have hbig : ∀ a, q = some a → a ≤ 1000 ^ 5 := fun a e => Nat.le_trans (hley a (hq.trans e)) hpow
          have HBIG := Lib.hid hbig; clear hbig
          have HQ := Lib.hid hq; clear hq hley
          go_wp2_with fail
          refine hcw.mono ?_
          rintro e w2 ⟨⟨m, b, rfl, hrel⟩, hbc⟩
          have hB2 := HR.out.trans (hbc.mono HR.out.size)
          have hK2 := blk_below HKR.out hbc
          have HB2 := Lib.hid hB2
          have HK2 := Lib.hid hK2
          have HREL := Lib.hid hrel
          clear hB2 hK2 hbc hrel hcw e0 e1 e2 e3 e4 f4
          cases q with
          | none =>
            obtain rfl : b = false := HREL.out
            have hno : ANS = none := by rw [HS.out, HD.out, List.map_cons, HQ.out, countO_none]; split <;> rfl
            subst hno
            clear HS HREL HBIG
            go_wp2_with fail
            go_ret2
            exact ⟨⟨_, _, rfl, rfl⟩, HB2.out⟩
          | some a =>
            have ha := HBIG.out a rfl
            obtain ⟨rfl, rfl⟩ : b = true ∧ m = a := HREL.out
            have hS2 : ANS = if OB = true then none else countO (n + a) ((x4.drop (j + 1)).map (clausesJ k)) := by rw [HS.out, HD.out, List.map_cons, HQ.out, countO_some]
            have HS2 := Lib.hid hS2; clear hS2 HS HREL HBIG
            have hncap : (n : Int) + a ≤ 25 * 1000 ^ 5 + 1 := by
              have : j * 1000 ^ 5 ≤ 24 * 1000 ^ 5 := Nat.mul_le_mul_right _ (by omega)
              omega
            go_wp2_with fail
            go_roundw
            case rel =>
              refine ⟨j + 1, n + a, by omega, by rw [Nat.add_mul]; omega, by go_num, ?_, HS2.out, HB2.out, HK2.out⟩
              rw [show ((n + a : Nat) : Int) = (n : Int) + a by omega]
            case measure => simp [intOf]; omega
        · have hnl : ¬ (j : Int) < (x4.length : Int) := by omega
          have hS : ANS = if OB = true then none else some n := by rw [HS.out, List.drop_eq_nil_of_le (by omega)]; rfl
          have HSS := Lib.hid hS; clear hS HS
          cases h5 : x0 == 5 with
          | true =>
            have hx5 : x0 = 5 := by simpa using h5
            have hOB : OB = !decide (0 < x4.length) := by
              rw [← HOB.out, hx5]
              rw [Bool.eq_iff_iff]
              simp
            have HOBP := Lib.hid hOB; clear hOB hx5
            go_upto_region 10 with fail
            refine start_ (n := 12) (S := fun w' => w'.cell? ⟨w.heap.size, 0, none⟩ = some (.int .i64 x0) ∧ w'.cell? ⟨w.heap.size, 4, none⟩ = some (.slice A4 x4.length c4)) (ds := []) #[false, false, false, false, false, false, false, false, false, false, false, false] (by kernel_rfl) rfl rfl ⟨f0, f4⟩ (fun hHeld => ?_)
            refine pure_ (i := 0) (N := some 42) (v := ?_) (a' := ?_) #[true, false, false, false, false, false, false, false, false, false, false, false] rfl rfl (by kernel_rfl) (fun _ _ _ h => h) (Or.inl ⟨by rfl, ?_⟩) ?_ ?_
            rotate_left
            · intro w'
              go_simp
              with_reducible rfl
            rotate_left
            · simp only [Act.put, List.setIfInBounds_toArray, List.set_cons_zero, List.set_cons_succ]
              rfl
            refine pure_ (i := 1) (N := some 43) (v := ?_) (a' := ?_) #[true, true, false, false, false, false, false, false, false, false, false, false] rfl rfl (by kernel_rfl) (fun _ _ _ h => h) (Or.inl ⟨by rfl, ?_⟩) ?_ ?_
            rotate_left
            · intro w'
              go_simp
              with_reducible rfl
            rotate_left
            · simp only [Act.put, List.setIfInBounds_toArray, List.set_cons_zero, List.set_cons_succ]
              rfl
            refine take_ (i := 2) (N := some 44) (v := ?_) (a' := ?_) #[true, true, true, false, false, false, false, false, false, false, false, false] rfl rfl (by kernel_rfl) (fun _ _ _ h => h) (Or.inl ⟨by rfl, ?_⟩) hHeld ?_ ?_
            rotate_left
            · rintro w' ⟨s0, s1⟩
              go_simp
              with_reducible rfl
            rotate_left
            · simp only [Act.put, List.setIfInBounds_toArray, List.set_cons_zero, List.set_cons_succ]
              rfl
            refine pure_ (i := 3) (N := some 45) (v := ?_) (a' := ?_) #[true, true, true, true, false, false, false, false, false, false, false, false] rfl rfl (by kernel_rfl) (fun _ _ _ h => h) (Or.inl ⟨by rfl, ?_⟩) ?_ ?_
            rotate_left
            · intro w'
              go_simp
              with_reducible rfl
            rotate_left
            · simp only [Act.put, List.setIfInBounds_toArray, List.set_cons_zero, List.set_cons_succ]
              rfl
            refine pure_ (i := 4) (N := some 46) (v := ?_) (a' := ?_) #[true, true, true, true, true, false, false, false, false, false, false, false] rfl rfl (by kernel_rfl) (fun _ _ _ h => h) (Or.inl ⟨by rfl, ?_⟩) ?_ ?_
            rotate_left
            · intro w'
              go_simp
              with_reducible rfl
            rotate_left
            · simp only [Act.put, List.setIfInBounds_toArray, List.set_cons_zero, List.set_cons_succ]
              rfl
            refine pure_ (i := 5) (N := some 47) (v := ?_) (a' := ?_) #[true, true, true, true, true, true, false, false, false, false, false, false] rfl rfl (by kernel_rfl) (fun _ _ _ h => h) (Or.inl ⟨by rfl, ?_⟩) ?_ ?_
            rotate_left
            · intro w'
              go_simp
              with_reducible rfl
            rotate_left
            · simp only [Act.put, List.setIfInBounds_toArray, List.set_cons_zero, List.set_cons_succ]
              rfl
            refine pure_ (i := 10) (N := some 4) (v := ?_) (a' := ?_) #[true, true, true, true, true, true, false, false, false, false, true, false] rfl rfl (by kernel_rfl) (fun _ _ _ h => h) (Or.inl ⟨by rfl, ?_⟩) ?_ ?_
            rotate_left
            · intro w'
              go_simp
              with_reducible rfl
            rotate_left
            · simp only [Act.put, List.setIfInBounds_toArray, List.set_cons_zero, List.set_cons_succ]
              rfl
            refine take_ (i := 6) (N := some 48) (v := ?_) (a' := ?_) #[true, true, true, true, true, true, true, false, false, false, true, false] rfl rfl (by kernel_rfl) (fun _ _ _ h => h) (Or.inl ⟨by rfl, ?_⟩) hHeld ?_ ?_
            rotate_left
            · rintro w' ⟨s0, s1⟩
              go_simp
              with_reducible rfl
            rotate_left
            · simp only [Act.put, List.setIfInBounds_toArray, List.set_cons_zero, List.set_cons_succ]
              rfl
            refine pure_ (i := 7) (N := some 49) (v := ?_) (a' := ?_) #[true, true, true, true, true, true, true, true, false, false, true, false] rfl rfl (by kernel_rfl) (fun _ _ _ h => h) (Or.inl ⟨by rfl, ?_⟩) ?_ ?_
            rotate_left
            · intro w'
              go_simp
              with_reducible rfl
            rotate_left
            · simp only [Act.put, List.setIfInBounds_toArray, List.set_cons_zero, List.set_cons_succ]
              rfl
            refine pure_ (i := 8) (N := some 50) (v := ?_) (a' := ?_) #[true, true, true, true, true, true, true, true, true, false, true, false] rfl rfl (by kernel_rfl) (fun _ _ _ h => h) (Or.inl ⟨by rfl, ?_⟩) ?_ ?_
            rotate_left
            · intro w'
              go_simp
              with_reducible rfl
            rotate_left
            · simp only [Act.put, List.setIfInBounds_toArray, List.set_cons_zero, List.set_cons_succ]
              rfl
            refine pure_ (i := 9) (N := some 51) (v := ?_) (a' := ?_) #[true, true, true, true, true, true, true, true, true, true, true, false] rfl rfl (by kernel_rfl) (fun _ _ _ h => h) (Or.inl ⟨by rfl, ?_⟩) ?_ ?_
            rotate_left
            · intro w'
              go_simp
              with_reducible rfl
            rotate_left
            · simp only [Act.put, List.setIfInBounds_toArray, List.set_cons_zero, List.set_cons_succ]
              rfl
            refine pure_ (i := 11) (N := some 5) (v := ?_) (a' := ?_) #[true, true, true, true, true, true, true, true, true, true, true, true] rfl rfl (by kernel_rfl) (fun _ _ _ h => h) (Or.inl ⟨by rfl, ?_⟩) ?_ ?_
            rotate_left
            · intro w'
              go_simp
              with_reducible rfl
            rotate_left
            · simp only [Act.put, List.setIfInBounds_toArray, List.set_cons_zero, List.set_cons_succ]
              rfl
            refine done_ (by kernel_rfl) ?_

            go_wp2_with fail
            go_ret2
            refine ⟨⟨_, _, rfl, ?_⟩, HR.out.drew⟩
            rw [HSS.out, HOBP.out]
            cases decide (0 < x4.length) with
            | true => exact ⟨rfl, rfl⟩
            | false => rfl
          | false =>
            have hOB : OB = true := by
              rw [← HOB.out]
              have : (x0 != 5) = true := by unfold bne; rw [h5]; rfl
              rw [this, Bool.true_or]
            have HOBP := Lib.hid hOB; clear hOB
            go_upto_region 10 with fail
            refine start_ (n := 12) (S := fun w' => w'.cell? ⟨w.heap.size, 0, none⟩ = some (.int .i64 x0)) (ds := []) #[false, false, false, false, false, false, false, false, false, false, false, false] (by kernel_rfl) rfl rfl (f0) (fun hHeld => ?_)
            refine pure_ (i := 0) (N := some 42) (v := ?_) (a' := ?_) #[true, false, false, false, false, false, false, false, false, false, false, false] rfl rfl (by kernel_rfl) (fun _ _ _ h => h) (Or.inl ⟨by rfl, ?_⟩) ?_ ?_
            rotate_left
            · intro w'
              go_simp
              with_reducible rfl
            rotate_left
            · simp only [Act.put, List.setIfInBounds_toArray, List.set_cons_zero, List.set_cons_succ]
              rfl
            refine pure_ (i := 1) (N := some 43) (v := ?_) (a' := ?_) #[true, true, false, false, false, false, false, false, false, false, false, false] rfl rfl (by kernel_rfl) (fun _ _ _ h => h) (Or.inl ⟨by rfl, ?_⟩) ?_ ?_
            rotate_left
            · intro w'
              go_simp
              with_reducible rfl
            rotate_left
            · simp only [Act.put, List.setIfInBounds_toArray, List.set_cons_zero, List.set_cons_succ]
              rfl
            refine take_ (i := 2) (N := some 44) (v := ?_) (a' := ?_) #[true, true, true, false, false, false, false, false, false, false, false, false] rfl rfl (by kernel_rfl) (fun _ _ _ h => h) (Or.inl ⟨by rfl, ?_⟩) hHeld ?_ ?_
            rotate_left
            · intro w' s0
              go_simp
              with_reducible rfl
            rotate_left
            · simp only [Act.put, List.setIfInBounds_toArray, List.set_cons_zero, List.set_cons_succ]
              rfl
            refine pure_ (i := 3) (N := some 45) (v := ?_) (a' := ?_) #[true, true, true, true, false, false, false, false, false, false, false, false] rfl rfl (by kernel_rfl) (fun _ _ _ h => h) (Or.inl ⟨by rfl, ?_⟩) ?_ ?_
            rotate_left
            · intro w'
              go_simp
              with_reducible rfl
            rotate_left
            · simp only [Act.put, List.setIfInBounds_toArray, List.set_cons_zero, List.set_cons_succ]
              rfl
            refine pure_ (i := 4) (N := some 46) (v := ?_) (a' := ?_) #[true, true, true, true, true, false, false, false, false, false, false, false] rfl rfl (by kernel_rfl) (fun _ _ _ h => h) (Or.inl ⟨by rfl, ?_⟩) ?_ ?_
            rotate_left
            · intro w'
              go_simp
              with_reducible rfl
            rotate_left
            · simp only [Act.put, List.setIfInBounds_toArray, List.set_cons_zero, List.set_cons_succ]
              rfl
            refine pure_ (i := 5) (N := some 47) (v := undef) (a' := ?_) #[true, true, true, true, true, true, false, false, false, false, false, false] rfl rfl (by kernel_rfl) (fun _ _ _ h => h) (Or.inr ⟨by rfl, rfl⟩) ?_ ?_
            rotate_left
            · simp only [Act.put, List.setIfInBounds_toArray, List.set_cons_zero, List.set_cons_succ]
              rfl
            refine pure_ (i := 6) (N := some 48) (v := undef) (a' := ?_) #[true, true, true, true, true, true, true, false, false, false, false, false] rfl rfl (by kernel_rfl) (fun _ _ _ h => h) (Or.inr ⟨by rfl, rfl⟩) ?_ ?_
            rotate_left
            · simp only [Act.put, List.setIfInBounds_toArray, List.set_cons_zero, List.set_cons_succ]
              rfl
            refine pure_ (i := 7) (N := some 49) (v := undef) (a' := ?_) #[true, true, true, true, true, true, true, true, false, false, false, false] rfl rfl (by kernel_rfl) (fun _ _ _ h => h) (Or.inr ⟨by rfl, rfl⟩) ?_ ?_
            rotate_left
            · simp only [Act.put, List.setIfInBounds_toArray, List.set_cons_zero, List.set_cons_succ]
              rfl
            refine pure_ (i := 8) (N := some 50) (v := undef) (a' := ?_) #[true, true, true, true, true, true, true, true, true, false, false, false] rfl rfl (by kernel_rfl) (fun _ _ _ h => h) (Or.inr ⟨by rfl, rfl⟩) ?_ ?_
            rotate_left
            · simp only [Act.put, List.setIfInBounds_toArray, List.set_cons_zero, List.set_cons_succ]
              rfl
            refine pure_ (i := 9) (N := some 51) (v := ?_) (a' := ?_) #[true, true, true, true, true, true, true, true, true, true, false, false] rfl rfl (by kernel_rfl) (fun _ _ _ h => h) (Or.inl ⟨by rfl, ?_⟩) ?_ ?_
            rotate_left
            · intro w'
              go_simp
              with_reducible rfl
            rotate_left
            · simp only [Act.put, List.setIfInBounds_toArray, List.set_cons_zero, List.set_cons_succ]
              rfl
            refine pure_ (i := 10) (N := some 4) (v := ?_) (a' := ?_) #[true, true, true, true, true, true, true, true, true, true, true, false] rfl rfl (by kernel_rfl) (fun _ _ _ h => h) (Or.inl ⟨by rfl, ?_⟩) ?_ ?_
            rotate_left
            · intro w'
              go_simp
              with_reducible rfl
            rotate_left
            · simp only [Act.put, List.setIfInBounds_toArray, List.set_cons_zero, List.set_cons_succ]
              rfl
            refine pure_ (i := 11) (N := some 5) (v := ?_) (a' := ?_) #[true, true, true, true, true, true, true, true, true, true, true, true] rfl rfl (by kernel_rfl) (fun _ _ _ h => h) (Or.inl ⟨by rfl, ?_⟩) ?_ ?_
            rotate_left
            · intro w'
              go_simp
              with_reducible rfl
            rotate_left
            · simp only [Act.put, List.setIfInBounds_toArray, List.set_cons_zero, List.set_cons_succ]
              rfl
            refine done_ (by kernel_rfl) ?_

            go_wp2_with fail
            go_ret2
            refine ⟨⟨_, _, rfl, ?_⟩, HR.out.drew⟩
            rw [HSS.out, HOBP.out]
            rfl
    | false =>
      rw [if_neg (by simp)] at hA
      clear HAO
      cases t2 : s.toList == [36, 110, 111, 116] with
      | true =>
        rw [show isNot s = true from t2, if_pos rfl] at hA
        have hcall := HI.out ⟨x0, x1, x2, x3, x4⟩ A3 c3 A4 c4 wc HF.out (HRD.out.below HB.out)
        obtain ⟨q, hq⟩ : ∃ q, clausesJ k ⟨x0, x1, x2, x3, x4⟩ = q := ⟨_, rfl⟩
        have hbig : ∀ a, q = some a → a ≤ 1000 ^ 5 := fun a e => Nat.le_trans (HL.out _ HF.out a (hq.trans e)) hpow
        have f1 : wc.cell? ⟨w.heap.size, 1, none⟩ = some (.int .i64 x1) := (blk_cell HK.out 1).trans rfl
        have f2 : wc.cell? ⟨w.heap.size, 2, none⟩ = some (.string x2) := (blk_cell HK.out 2).trans rfl
        have f3 : wc.cell? ⟨w.heap.size, 3, none⟩ = some (.slice A3 x3.length c3) := (blk_cell HK.out 3).trans rfl
        rw [hq] at hA hcall
        have HBIG := Lib.hid hbig
        have HA := Lib.hid hA
        clear hq hbig hA
        go_wp2_with fail
        refine hcall.mono ?_; rintro e w' ⟨⟨m, b, rfl, hrel⟩, hb'⟩
        have HB' := Lib.hid hb'; clear hb' hcall
        have HREL := Lib.hid hrel; clear hrel f0 f1 f2 f3 f4
        cases q with
        | none =>
          obtain rfl : b = false := HREL.out
          have hA : none = ANS := HA.out
          subst hA
          clear HREL HA HBIG
          go_wp2_with fail
          go_ret2
          exact ⟨⟨_, _, rfl, rfl⟩, HB.out.trans (HB'.out.mono HB.out.size)⟩
        | some a =>
          have ha := HBIG.out a rfl
          obtain ⟨rfl, rfl⟩ : b = true ∧ m = a := HREL.out
          have hA : some (1 + a) = ANS := HA.out
          subst hA
          clear HREL HA HBIG
          go_wp2_with fail
          go_ret2
          refine ⟨⟨_, _, rfl, rfl, ?_⟩, HB.out.trans (HB'.out.mono HB.out.size)⟩
          go_num
      | false =>
        rw [show isNot s = false from t2, if_neg (by simp)] at hA
        have HA := Lib.hid hA; clear hA
        have hS := fun W => steps_ref s W (by omega)
        clear f0 f4
        go_wp2_with fail
        refine (hS _).mono ?_; rintro e w2 ⟨he, hb'⟩
        have hB1 := HB.out.trans (hb'.mono HB.out.size)
        have hK1 := blk_below HK.out hb'
        clear hS hb' HK HB
        have HB := Lib.hid hB1; clear hB1
        have HK := Lib.hid hK1; clear hK1
        have hP := fun W => sign_ref s W
        cases hst : stepsJ vstr s with
        | none =>
          rw [hst] at he
          obtain rfl := he
          have hA := HA.out
          have hA2 : ANS = none := by
            rw [← hA]
            split
            · rfl
            · rfl
          subst hA2
          clear HA hA hst
          cases t3 : sgn s with
          | true =>
            rw [t3] at hP
            go_wp2_with fail
            refine (hP _).mono ?_; rintro e w' ⟨rfl, hb'⟩
            have HB' := Lib.hid hb'; clear hb' hP
            go_wp2_with fail
            go_ret2
            exact ⟨⟨_, _, rfl, rfl⟩, HB.out.trans (HB'.out.mono HB.out.size)⟩
          | false =>
            rw [t3] at hP
            go_wp2_with fail
            refine (hP _).mono ?_; rintro e w' ⟨rfl, hb'⟩
            have HB' := Lib.hid hb'; clear hb' hP
            go_wp2_with fail
            go_ret2
            exact ⟨⟨_, _, rfl, rfl⟩, HB.out.trans (HB'.out.mono HB.out.size)⟩
        | some l =>
          rw [hst] at he
          obtain ⟨v, rfl, hrow⟩ := he
          obtain ⟨rv, kv, rfl⟩ := row_len hrow
          have hA := HA.out
          rw [hst] at hA
          clear HA hrow hst
          cases t3 : sgn s with
          | true =>
            rw [t3, if_pos rfl] at hA
            rw [t3] at hP
            subst hA
            go_wp2_with fail
            refine (hP _).mono ?_; rintro e w' ⟨rfl, hb'⟩
            have HB' := Lib.hid hb'; clear hb' hP
            go_wp2_with fail
            go_ret2
            exact ⟨⟨_, _, rfl, rfl⟩, HB.out.trans (HB'.out.mono HB.out.size)⟩
          | false =>
            rw [t3, if_neg (by simp), if_neg (by simp)] at hA
            rw [t3] at hP
            obtain ⟨TV, hTV⟩ : ∃ b, testsJ ⟨x0, x1, x2, x3, x4⟩ = b := ⟨_, rfl⟩
            rw [hTV] at hA
            have HA := Lib.hid hA; clear hA
            have HTV := Lib.hid hTV; clear hTV
            go_wp2_with fail
            refine (hP _).mono ?_; rintro e w' ⟨rfl, hb'⟩
            have hB1 := HB.out.trans (hb'.mono HB.out.size)
            have hK1 := blk_below HK.out hb'
            clear hP hb' HK HB
            have HB := Lib.hid hB1; clear hB1
            have HK := Lib.hid hK1; clear hK1
            go_wp2_with fail
            go_loopw [14] (fun v14 wr => ∃ j : Nat, j ≤ x3.length ∧ v14 = .int .i64 j ∧ (∀ i, i < j → testJ (x3.getD i ByteArray.empty) (x4.getD i z25) = true) ∧ Below w.heap.size w wr ∧ wr.heap[w.heap.size]? = some (.cells (cs25 ⟨x0, x1, x2, x3, x4⟩ A3 c3 A4 c4) 25 (0, 0))) (fun v14 _ => x3.length - (intOf v14).toNat)
            case atStart => exact ⟨0, Nat.zero_le _, rfl, fun i hi => absurd hi (Nat.not_lt_zero _), HB.out, HK.out⟩
            case round =>
              obtain ⟨j, hj, rfl, hok, hBr, hKr⟩ := hrel
              have f0 : wr.cell? ⟨w.heap.size, 0, none⟩ = some (.int .i64 x0) := (blk_cell hKr 0).trans rfl
              have f1 : wr.cell? ⟨w.heap.size, 1, none⟩ = some (.int .i64 x1) := (blk_cell hKr 1).trans rfl
              have f2 : wr.cell? ⟨w.heap.size, 2, none⟩ = some (.string x2) := (blk_cell hKr 2).trans rfl
              have f3 : wr.cell? ⟨w.heap.size, 3, none⟩ = some (.slice A3 x3.length c3) := (blk_cell hKr 3).trans rfl
              have f4 : wr.cell? ⟨w.heap.size, 4, none⟩ = some (.slice A4 x4.length c4) := (blk_cell hKr 4).trans rfl
              have HO := Lib.hid hok; clear hok
              have HR := Lib.hid hBr; clear hBr
              have HKR := Lib.hid hKr; clear hKr
              clear HB HK
              by_cases hlt : j < x3.length
              · have hji : (j : Int) < (x3.length : Int) := by omega
                have hj4 : j < x4.length := by have : x3.length ≤ x4.length := HLEN.out; omega
                have hji' : (j : Int) < (x4.length : Int) := by omega
                have hTs := Tests_ref ⟨x0, x1, x2, x3, x4⟩ H63.out A3 c3 A4 c4 wr (HRD.out.below HR.out) (by show x3.length ≤ _; omega)
                rw [HTV.out] at hTs
                cases TV with
                | false =>
                  have hA : some 1 = ANS := HA.out
                  subst hA
                  clear HA
                  go_wp2_with fail
                  refine hTs.mono ?_; rintro e w3 ⟨rfl, hb'⟩
                  have HB' := Lib.hid hb'; clear hb' hTs
                  go_wp2_with fail
                  go_ret2
                  exact ⟨⟨_, _, rfl, rfl, rfl⟩, HR.out.trans (HB'.out.mono HR.out.size)⟩
                | true =>
                  go_wp2_with fail
                  refine hTs.mono ?_; rintro e w3 ⟨rfl, hb'⟩
                  have hB1 := HR.out.trans (hb'.mono HR.out.size)
                  have hK1 := blk_below HKR.out hb'
                  clear hTs hb' HR HKR f0 f1 f2 f3 f4
                  have HR := Lib.hid hB1; clear hB1
                  obtain ⟨t, ht⟩ : ∃ t, x3[j]? = some t := ⟨_, List.getElem?_eq_getElem hlt⟩
                  obtain ⟨u, hu⟩ : ∃ y, x4[j]? = some y := ⟨_, List.getElem?_eq_getElem hj4⟩
                  obtain ⟨b', o', rfl, hb', e9⟩ := name_of HRD.out.g3 rfl j t ht
                  obtain ⟨b, o, B3, d3, B4, d4, rfl, hb, e0, e1, e2, e3, e4, hR⟩ := item_of HRD.out.g4 rfl j u hu
                  have f3 : w3.cell? ⟨w.heap.size, 3, none⟩ = some (.slice (some ⟨b', o', none⟩) x3.length c3) := (blk_cell hK1 3).trans rfl
                  have f4 : w3.cell? ⟨w.heap.size, 4, none⟩ = some (.slice (some ⟨b, o, none⟩) x4.length c4) := (blk_cell hK1 4).trans rfl
                  have HKR := Lib.hid hK1; clear hK1
                  replace e9 := (HR.out.cell (World.block_lt_of_cell? w _ e9)).trans e9
                  replace e0 := (HR.out.cell (World.block_lt_of_cell? w _ e0)).trans e0
                  replace e1 := (HR.out.cell (World.block_lt_of_cell? w _ e1)).trans e1
                  replace e2 := (HR.out.cell (World.block_lt_of_cell? w _ e2)).trans e2
                  replace e3 := (HR.out.cell (World.block_lt_of_cell? w _ e3)).trans e3
                  replace e4 := (HR.out.cell (World.block_lt_of_cell? w _ e4)).trans e4
                  have hdr : Below w3.heap.size w3 w3.drew := (Below.refl _ w3).drew
                  have hcw := test_ref t u B3 d3 B4 d4 w3.drew ((hR.below HR.out).below hdr)
                  have hget : testJ (x3.getD j ByteArray.empty) (x4.getD j z25) = testJ t u := by
                    rw [List.getD_eq_getElem?_getD, ht, List.getD_eq_getElem?_getD, hu]; rfl
                  have HG := Lib.hid hget; clear hget
                  clear hR hu ht hdr
                  obtain ⟨u0, u1, u2, u3, u4⟩ := u
                  obtain ⟨q, hq⟩ : ∃ q, testJ t ⟨u0, u1, u2, u3, u4⟩ = q := ⟨_, rfl⟩
                  rw [hq] at hcw
                  have HQ := Lib.hid hq; clear hq
                  go_upto_region 20 with fail
                  refine start_ (n := 12) (S := fun w' => w'.cell? ⟨w.heap.size, 3, none⟩ = some (.slice (some ⟨b', o', none⟩) x3.length c3) ∧ w'.cell? ⟨w.heap.size, 4, none⟩ = some (.slice (some ⟨b, o, none⟩) x4.length c4) ∧ w'.cell? ⟨b', o' + j, none⟩ = some (.string t) ∧ w'.cell? ⟨b, o + j * 5, none⟩ = some (.int .i64 u0) ∧ w'.cell? ⟨b, o + j * 5 + 1, none⟩ = some (.int .i64 u1) ∧ w'.cell? ⟨b, o + j * 5 + 2, none⟩ = some (.string u2) ∧ w'.cell? ⟨b, o + j * 5 + 3, none⟩ = some (.slice B3 u3.length d3) ∧ w'.cell? ⟨b, o + j * 5 + 4, none⟩ = some (.slice B4 u4.length d4)) (ds := []) #[false, false, false, false, false, false, false, false, false, false, false, false] (by kernel_rfl) rfl rfl ⟨f3, f4, e9, e0, e1, e2, e3, e4⟩ (fun hHeld => ?_)
                  refine pure_ (i := 0) (N := some 84) (v := ?_) (a' := ?_) #[true, false, false, false, false, false, false, false, false, false, false, false] rfl rfl (by kernel_rfl) (fun _ _ _ h => h) (Or.inl ⟨by rfl, ?_⟩) ?_ ?_
                  rotate_left
                  · intro w'
                    go_simp
                    with_reducible rfl
                  rotate_left
                  · simp only [Act.put, List.setIfInBounds_toArray, List.set_cons_zero, List.set_cons_succ]
                    rfl
                  refine pure_ (i := 2) (N := some 86) (v := ?_) (a' := ?_) #[true, false, true, false, false, false, false, false, false, false, false, false] rfl rfl (by kernel_rfl) (fun _ _ _ h => h) (Or.inl ⟨by rfl, ?_⟩) ?_ ?_
                  rotate_left
                  · intro w'
                    go_simp
                    with_reducible rfl
                  rotate_left
                  · simp only [Act.put, List.setIfInBounds_toArray, List.set_cons_zero, List.set_cons_succ]
                    rfl
                  refine pure_ (i := 5) (N := some 89) (v := ?_) (a' := ?_) #[true, false, true, false, false, true, false, false, false, false, false, false] rfl rfl (by kernel_rfl) (fun _ _ _ h => h) (Or.inl ⟨by rfl, ?_⟩) ?_ ?_
                  rotate_left
                  · intro w'
                    go_simp
                    with_reducible rfl
                  rotate_left
                  · simp only [Act.put, List.setIfInBounds_toArray, List.set_cons_zero, List.set_cons_succ]
                    rfl
                  refine pure_ (i := 7) (N := some 91) (v := ?_) (a' := ?_) #[true, false, true, false, false, true, false, true, false, false, false, false] rfl rfl (by kernel_rfl) (fun _ _ _ h => h) (Or.inl ⟨by rfl, ?_⟩) ?_ ?_
                  rotate_left
                  · intro w'
                    go_simp
                    with_reducible rfl
                  rotate_left
                  · simp only [Act.put, List.setIfInBounds_toArray, List.set_cons_zero, List.set_cons_succ]
                    rfl
                  refine take_ (i := 1) (N := some 85) (v := ?_) (a' := ?_) #[true, true, true, false, false, true, false, true, false, false, false, false] rfl rfl (by kernel_rfl) (fun _ _ _ h => h) (Or.inl ⟨by rfl, ?_⟩) hHeld ?_ ?_
                  rotate_left
                  · rintro w' ⟨s0, s1, s2, s3, s4, s5, s6, s7⟩
                    go_simp
                    with_reducible rfl
                  rotate_left
                  · simp only [Act.put, List.setIfInBounds_toArray, List.set_cons_zero, List.set_cons_succ]
                    rfl
                  refine pure_ (i := 3) (N := some 87) (v := ?_) (a' := ?_) #[true, true, true, true, false, true, false, true, false, false, false, false] rfl rfl (by kernel_rfl) (fun _ _ _ h => h) (Or.inl ⟨by rfl, ?_⟩) ?_ ?_
                  rotate_left
                  · intro w'
                    go_simp
                    with_reducible rfl
                  rotate_left
                  · simp only [Act.put, List.setIfInBounds_toArray, List.set_cons_zero, List.set_cons_succ]
                    rfl
                  refine take_ (i := 4) (N := some 88) (v := ?_) (a' := ?_) #[true, true, true, true, true, true, false, true, false, false, false, false] rfl rfl (by kernel_rfl) (fun _ _ _ h => h) (Or.inl ⟨by rfl, ?_⟩) hHeld ?_ ?_
                  rotate_left
                  · rintro w' ⟨s0, s1, s2, s3, s4, s5, s6, s7⟩
                    go_simp
                    with_reducible rfl
                  rotate_left
                  · simp only [Act.put, List.setIfInBounds_toArray, List.set_cons_zero, List.set_cons_succ]
                    rfl
                  refine take_ (i := 6) (N := some 90) (v := ?_) (a' := ?_) #[true, true, true, true, true, true, true, true, false, false, false, false] rfl rfl (by kernel_rfl) (fun _ _ _ h => h) (Or.inl ⟨by rfl, ?_⟩) hHeld ?_ ?_
                  rotate_left
                  · rintro w' ⟨s0, s1, s2, s3, s4, s5, s6, s7⟩
                    go_simp
                    with_reducible rfl
                  rotate_left
                  · simp only [Act.put, List.setIfInBounds_toArray, List.set_cons_zero, List.set_cons_succ]
                    rfl
                  refine pure_ (i := 8) (N := some 92) (v := ?_) (a' := ?_) #[true, true, true, true, true, true, true, true, true, false, false, false] rfl rfl (by kernel_rfl) (fun _ _ _ h => h) (Or.inl ⟨by rfl, ?_⟩) ?_ ?_
                  rotate_left
                  · intro w'
                    go_simp
                    with_reducible rfl
                  rotate_left
                  · simp only [Act.put, List.setIfInBounds_toArray, List.set_cons_zero, List.set_cons_succ]
                    rfl
                  refine take_ (i := 9) (N := some 93) (v := ?_) (a' := ?_) #[true, true, true, true, true, true, true, true, true, true, false, false] rfl rfl (by kernel_rfl) (fun _ _ _ h => h) (Or.inl ⟨by rfl, ?_⟩) hHeld ?_ ?_
                  rotate_left
                  · rintro w' ⟨s0, s1, s2, s3, s4, s5, s6, s7⟩
                    go_simp
                    with_reducible rfl
                  rotate_left
                  · simp only [Act.put, List.setIfInBounds_toArray, List.set_cons_zero, List.set_cons_succ]
                    rfl
                  refine one_ (i := 10) (N := some 94) #[true, true, true, true, true, true, true, true, true, true, true, false] rfl rfl (by kernel_rfl) (by decide) (fun K hK => ?_)
                  refine goes_ Tryd.func102 (by kernel_rfl) rfl #[.string t, .agg #[.int .i64 u0, .int .i64 u1, .string u2, .slice B3 u3.length d3, .slice B4 u4.length d4]] (by rfl) rfl rfl (by simp only [List.map_toArray, List.map_cons, List.map_nil]; rfl) ?_
                  with_reducible refine (hcw).mono ?_
                  rintro e w5 ⟨rfl, hbc⟩
                  refine ⟨_, rfl, ?_⟩
                  have hbw : Below w3.heap.size w3 w5 := (Below.refl _ w3).drew.trans hbc
                  have HBC := Lib.hid hbw
                  clear hbc hbw
                  refine hK.out _ _ ⟨((HBC.out.cell (World.block_lt_of_cell? w3 _ f3)).trans f3), ((HBC.out.cell (World.block_lt_of_cell? w3 _ f4)).trans f4), ((HBC.out.cell (World.block_lt_of_cell? w3 _ e9)).trans e9), ((HBC.out.cell (World.block_lt_of_cell? w3 _ e0)).trans e0), ((HBC.out.cell (World.block_lt_of_cell? w3 _ e1)).trans e1), ((HBC.out.cell (World.block_lt_of_cell? w3 _ e2)).trans e2), ((HBC.out.cell (World.block_lt_of_cell? w3 _ e3)).trans e3), ((HBC.out.cell (World.block_lt_of_cell? w3 _ e4)).trans e4)⟩ (fun hHeld => ?_)
                  clear hK K
                  refine norm_ (a' := ?_) ?_ ?_
                  rotate_left
                  · show Act.put _ (some 94) _ = _
                    simp only [Act.put, List.setIfInBounds_toArray, List.set_cons_zero, List.set_cons_succ]
                    rfl
                  refine pure_ (i := 11) (N := some 95) (v := ?_) (a' := ?_) #[true, true, true, true, true, true, true, true, true, true, true, true] rfl rfl (by kernel_rfl) (fun _ _ _ h => h) (Or.inl ⟨by rfl, ?_⟩) ?_ ?_
                  rotate_left
                  · intro w'
                    go_simp
                    with_reducible rfl
                  rotate_left
                  · simp only [Act.put, List.setIfInBounds_toArray, List.set_cons_zero, List.set_cons_succ]
                    rfl
                  refine done_ (by kernel_rfl) ?_

                  have hB3 := HR.out.trans (HBC.out.mono HR.out.size)
                  have HB3 := Lib.hid hB3; clear hB3
                  clear hcw e0 e1 e2 e3 e4 e9 f3 f4
                  cases q with
                  | false =>
                    have hno : testsOk ⟨x0, x1, x2, x3, x4⟩ = false := List.all_eq_false.2 ⟨j, by simpa using hlt, by rw [HG.out, HQ.out]; simp⟩
                    have hA := HA.out
                    rw [hno] at hA
                    simp only [Bool.not_false, Bool.and_true, if_true] at hA
                    subst hA
                    clear HA hno
                    go_wp2_with fail
                    go_ret2
                    exact ⟨⟨_, _, rfl, rfl⟩, HB3.out⟩
                  | true =>
                    go_wp2_with fail
                    go_roundw
                    case rel =>
                      refine ⟨j + 1, by omega, by go_num, fun i hi => ?_, HB3.out, blk_below HKR.out HBC.out⟩
                      by_cases hi' : i < j
                      · exact HO.out i hi'
                      · obtain rfl : i = j := by omega
                        rw [HG.out, HQ.out]
                    case measure => simp [intOf]; omega
              · have hnl : ¬ (j : Int) < (x3.length : Int) := by omega
                have hall : testsOk ⟨x0, x1, x2, x3, x4⟩ = true := List.all_eq_true.2 (fun i hi => HO.out i (by
                  have h1 : i < x3.length := by simpa using hi
                  omega))
                have hA := HA.out
                rw [hall] at hA
                simp only [Bool.not_true, Bool.and_false, Bool.false_eq_true, if_false] at hA
                subst hA
                clear HA hall
                go_wp2_with fail
                go_ret2
                exact ⟨⟨_, _, rfl, rfl, rfl⟩, HR.out⟩

set_option maxRecDepth 100000 in
set_option maxHeartbeats 4000000 in
theorem count_step (k : Nat) (hk : k ≤ 5) (ih : CountAt k) : CountAt (k + 1) := by
  intro x A3 c3 A4 c4 w hf h
  obtain ⟨hl3, hl4⟩ := few_items hf
  have hnm := name_few hf
  have hit := (formed_parts hf).2.2.1
  have hni := names_le hf
  have h63 := (formed_parts hf).2.2.2.2.2.2.1
  have hb0 : Below w.heap.size w (w.alloc (.cells (cs25 x A3 c3 A4 c4) 25)) := (Below.refl _ w).alloc (Nat.le_refl _) _
  have hblk := new_blk w (.cells (cs25 x A3 c3 A4 c4) 25)
  have hpow : (1000 : Nat) ^ k ≤ 1000 ^ 5 := Nat.pow_le_pow_right (by omega) hk
  have hcl : ∀ (s : ByteArray) (y : S25), formedJ k y = true → ∀ n, clauseJ (clausesJ k) s y = some n → n ≤ 1 + 24 * 1000 ^ 5 := fun s y hy n hn => by
    have := clause_le (k := k) (b := 1000 ^ k) (fun z hz n => clauses_le k z hz n) hy n hn
    omega
  obtain ⟨ANS, hA⟩ : ∃ ANS, clausesJ (k + 1) x = ANS := ⟨_, rfl⟩
  rw [hA]
  unfold clausesJ at hA
  obtain ⟨x0, x1, x2, x3, x4⟩ := x
  simp only at hl3 hl4 hA hni h63
  have hA2 : ANS = if (x0 == 6) = true then countO 0 ((List.range' 0 (x3.length - 0)).map (fun i => clauseJ (clausesJ k) (x3.getD i ByteArray.empty) (x4.getD i z25))) else none := by
    rw [← hA]
    cases h6 : x0 == 6 with
    | true =>
      have : (x0 != 6) = false := by unfold bne; rw [h6]; rfl
      rw [this, if_neg (by simp), if_pos rfl]
      unfold countO
      simp
    | false =>
      have : (x0 != 6) = true := by unfold bne; rw [h6]; rfl
      rw [this, if_pos rfl, if_neg (by simp)]
  have HA := Lib.hid hA2; clear hA hA2
  have HB0 := Lib.hid hb0; clear hb0
  have HBK := Lib.hid hblk; clear hblk
  have HI := Lib.hid ih; clear ih
  have HCL := Lib.hid hcl; clear hcl
  have HIT := Lib.hid hit; clear hit
  have HNM := Lib.hid hnm; clear hnm
  have HNI := Lib.hid hni; clear hni
  have H63 := Lib.hid h63; clear h63
  have HRD := Lib.hid h; clear h
  clear hf
  go_enter Tryd.func42, Tryd.ntmps42
  go_wp2_with fail
  go_loopw [4, 5, 6, 7] (fun v4 v5 v6 v7 wr => ∃ j n : Nat, j ≤ x3.length ∧ n ≤ j * (1 + 24 * 1000 ^ 5) ∧ v5 = .int .i64 j ∧ v4 = .int .i64 n ∧ (ANS = if (x0 == 6) = true then countO n ((List.range' j (x3.length - j)).map (fun i => clauseJ (clausesJ k) (x3.getD i ByteArray.empty) (x4.getD i z25))) else none) ∧ Below w.heap.size w wr ∧ wr.heap[w.heap.size]? = some (.cells (cs25 ⟨x0, x1, x2, x3, x4⟩ A3 c3 A4 c4) 25 (0, 0))) (fun _ v5 _ _ _ => x3.length - (intOf v5).toNat)
  case atStart => exact ⟨0, 0, Nat.zero_le _, Nat.zero_le _, rfl, rfl, HA.out, HB0.out, HBK.out⟩
  case round =>
    obtain ⟨j, n, hj, hn, rfl, rfl, hS, hBr, hKr⟩ := hrel
    have f0 : wr.cell? ⟨w.heap.size, 0, none⟩ = some (.int .i64 x0) := (blk_cell hKr 0).trans rfl
    have f3 : wr.cell? ⟨w.heap.size, 3, none⟩ = some (.slice A3 x3.length c3) := (blk_cell hKr 3).trans rfl
    have f4 : wr.cell? ⟨w.heap.size, 4, none⟩ = some (.slice A4 x4.length c4) := (blk_cell hKr 4).trans rfl
    have HS := Lib.hid hS; clear hS
    have HR := Lib.hid hBr; clear hBr
    have HKR := Lib.hid hKr; clear hKr
    clear HA HB0 HBK
    by_cases hlt : j < x3.length
    · have hj4 : j < x4.length := by have := HNI.out; omega
      have hji : (j : Int) < (x3.length : Int) := by omega
      have hji' : (j : Int) < (x4.length : Int) := by omega
      have h6 : (x0 == 6) = true := by
        rw [beq_iff_eq]
        apply Classical.byContradiction
        intro hne
        rw [H63.out hne] at hlt
        exact absurd hlt (Nat.not_lt_zero _)
      have HX6 := Lib.hid h6; clear h6
      obtain ⟨t, ht⟩ : ∃ t, x3[j]? = some t := ⟨_, List.getElem?_eq_getElem hlt⟩
      obtain ⟨u, hu⟩ : ∃ y, x4[j]? = some y := ⟨_, List.getElem?_eq_getElem hj4⟩
      obtain ⟨b', o', rfl, hb', e9⟩ := name_of HRD.out.g3 rfl j t ht
      obtain ⟨b, o, B3, d3, B4, d4, rfl, hb, e0, e1, e2, e3, e4, hR⟩ := item_of HRD.out.g4 rfl j u hu
      replace e9 := (HR.out.cell (World.block_lt_of_cell? w _ e9)).trans e9
      replace e0 := (HR.out.cell (World.block_lt_of_cell? w _ e0)).trans e0
      replace e1 := (HR.out.cell (World.block_lt_of_cell? w _ e1)).trans e1
      replace e2 := (HR.out.cell (World.block_lt_of_cell? w _ e2)).trans e2
      replace e3 := (HR.out.cell (World.block_lt_of_cell? w _ e3)).trans e3
      replace e4 := (HR.out.cell (World.block_lt_of_cell? w _ e4)).trans e4
      have hfy : formedJ k u = true := HIT.out u (List.mem_of_getElem? hu)
      have hsz := HNM.out t (List.mem_of_getElem? ht)
      have hdr : Below wr.heap.size wr wr.drew := (Below.refl _ wr).drew
      have hcw := clause_ref k hk HI.out t (by omega) u B3 d3 B4 d4 wr.drew hfy ((hR.below HR.out).below hdr)
      have hbig := HCL.out t u hfy
      have hd : (List.range' j (x3.length - j)).map (fun i => clauseJ (clausesJ k) (x3.getD i ByteArray.empty) (x4.getD i z25)) = clauseJ (clausesJ k) t u :: (List.range' (j + 1) (x3.length - (j + 1))).map (fun i => clauseJ (clausesJ k) (x3.getD i ByteArray.empty) (x4.getD i z25)) := by
        rw [show x3.length - j = (x3.length - (j + 1)) + 1 by omega, List.range'_succ, List.map_cons, List.getD_eq_getElem?_getD, ht, List.getD_eq_getElem?_getD, hu]
        rfl
      have HD := Lib.hid hd; clear hd
      clear hR hu ht hfy hdr hsz f0
      obtain ⟨u0, u1, u2, u3, u4⟩ := u
      obtain ⟨q, hq⟩ : ∃ q, clauseJ (clausesJ k) t ⟨u0, u1, u2, u3, u4⟩ = q := ⟨_, rfl⟩
      rw [hq] at hcw
      have HQ := Lib.hid hq
      have hbig2 : ∀ a, q = some a → a ≤ 1 + 24 * 1000 ^ 5 := fun a e => hbig a (hq.trans e)
      have HBIG := Lib.hid hbig2
      clear hbig hq hbig2
      go_upto_region 5 with fail
      refine start_ (n := 16) (S := fun w' => w'.cell? ⟨w.heap.size, 3, none⟩ = some (.slice (some ⟨b', o', none⟩) x3.length c3) ∧ w'.cell? ⟨w.heap.size, 4, none⟩ = some (.slice (some ⟨b, o, none⟩) x4.length c4) ∧ w'.cell? ⟨b', o' + j, none⟩ = some (.string t) ∧ w'.cell? ⟨b, o + j * 5, none⟩ = some (.int .i64 u0) ∧ w'.cell? ⟨b, o + j * 5 + 1, none⟩ = some (.int .i64 u1) ∧ w'.cell? ⟨b, o + j * 5 + 2, none⟩ = some (.string u2) ∧ w'.cell? ⟨b, o + j * 5 + 3, none⟩ = some (.slice B3 u3.length d3) ∧ w'.cell? ⟨b, o + j * 5 + 4, none⟩ = some (.slice B4 u4.length d4)) (ds := []) #[false, false, false, false, false, false, false, false, false, false, false, false, false, false, false, false] (by kernel_rfl) rfl rfl ⟨f3, f4, e9, e0, e1, e2, e3, e4⟩ (fun hHeld => ?_)
      refine pure_ (i := 0) (N := some 16) (v := ?_) (a' := ?_) #[true, false, false, false, false, false, false, false, false, false, false, false, false, false, false, false] rfl rfl (by kernel_rfl) (fun _ _ _ h => h) (Or.inl ⟨by rfl, ?_⟩) ?_ ?_
      rotate_left
      · intro w'
        go_simp
        with_reducible rfl
      rotate_left
      · simp only [Act.put, List.setIfInBounds_toArray, List.set_cons_zero, List.set_cons_succ]
        rfl
      refine pure_ (i := 2) (N := some 18) (v := ?_) (a' := ?_) #[true, false, true, false, false, false, false, false, false, false, false, false, false, false, false, false] rfl rfl (by kernel_rfl) (fun _ _ _ h => h) (Or.inl ⟨by rfl, ?_⟩) ?_ ?_
      rotate_left
      · intro w'
        go_simp
        with_reducible rfl
      rotate_left
      · simp only [Act.put, List.setIfInBounds_toArray, List.set_cons_zero, List.set_cons_succ]
        rfl
      refine pure_ (i := 5) (N := some 21) (v := ?_) (a' := ?_) #[true, false, true, false, false, true, false, false, false, false, false, false, false, false, false, false] rfl rfl (by kernel_rfl) (fun _ _ _ h => h) (Or.inl ⟨by rfl, ?_⟩) ?_ ?_
      rotate_left
      · intro w'
        go_simp
        with_reducible rfl
      rotate_left
      · simp only [Act.put, List.setIfInBounds_toArray, List.set_cons_zero, List.set_cons_succ]
        rfl
      refine pure_ (i := 7) (N := some 23) (v := ?_) (a' := ?_) #[true, false, true, false, false, true, false, true, false, false, false, false, false, false, false, false] rfl rfl (by kernel_rfl) (fun _ _ _ h => h) (Or.inl ⟨by rfl, ?_⟩) ?_ ?_
      rotate_left
      · intro w'
        go_simp
        with_reducible rfl
      rotate_left
      · simp only [Act.put, List.setIfInBounds_toArray, List.set_cons_zero, List.set_cons_succ]
        rfl
      refine take_ (i := 1) (N := some 17) (v := ?_) (a' := ?_) #[true, true, true, false, false, true, false, true, false, false, false, false, false, false, false, false] rfl rfl (by kernel_rfl) (fun _ _ _ h => h) (Or.inl ⟨by rfl, ?_⟩) hHeld ?_ ?_
      rotate_left
      · rintro w' ⟨s0, s1, s2, s3, s4, s5, s6, s7⟩
        go_simp
        with_reducible rfl
      rotate_left
      · simp only [Act.put, List.setIfInBounds_toArray, List.set_cons_zero, List.set_cons_succ]
        rfl
      refine pure_ (i := 3) (N := some 19) (v := ?_) (a' := ?_) #[true, true, true, true, false, true, false, true, false, false, false, false, false, false, false, false] rfl rfl (by kernel_rfl) (fun _ _ _ h => h) (Or.inl ⟨by rfl, ?_⟩) ?_ ?_
      rotate_left
      · intro w'
        go_simp
        with_reducible rfl
      rotate_left
      · simp only [Act.put, List.setIfInBounds_toArray, List.set_cons_zero, List.set_cons_succ]
        rfl
      refine take_ (i := 4) (N := some 20) (v := ?_) (a' := ?_) #[true, true, true, true, true, true, false, true, false, false, false, false, false, false, false, false] rfl rfl (by kernel_rfl) (fun _ _ _ h => h) (Or.inl ⟨by rfl, ?_⟩) hHeld ?_ ?_
      rotate_left
      · rintro w' ⟨s0, s1, s2, s3, s4, s5, s6, s7⟩
        go_simp
        with_reducible rfl
      rotate_left
      · simp only [Act.put, List.setIfInBounds_toArray, List.set_cons_zero, List.set_cons_succ]
        rfl
      refine take_ (i := 6) (N := some 22) (v := ?_) (a' := ?_) #[true, true, true, true, true, true, true, true, false, false, false, false, false, false, false, false] rfl rfl (by kernel_rfl) (fun _ _ _ h => h) (Or.inl ⟨by rfl, ?_⟩) hHeld ?_ ?_
      rotate_left
      · rintro w' ⟨s0, s1, s2, s3, s4, s5, s6, s7⟩
        go_simp
        with_reducible rfl
      rotate_left
      · simp only [Act.put, List.setIfInBounds_toArray, List.set_cons_zero, List.set_cons_succ]
        rfl
      refine pure_ (i := 8) (N := some 24) (v := ?_) (a' := ?_) #[true, true, true, true, true, true, true, true, true, false, false, false, false, false, false, false] rfl rfl (by kernel_rfl) (fun _ _ _ h => h) (Or.inl ⟨by rfl, ?_⟩) ?_ ?_
      rotate_left
      · intro w'
        go_simp
        with_reducible rfl
      rotate_left
      · simp only [Act.put, List.setIfInBounds_toArray, List.set_cons_zero, List.set_cons_succ]
        rfl
      refine take_ (i := 9) (N := some 25) (v := ?_) (a' := ?_) #[true, true, true, true, true, true, true, true, true, true, false, false, false, false, false, false] rfl rfl (by kernel_rfl) (fun _ _ _ h => h) (Or.inl ⟨by rfl, ?_⟩) hHeld ?_ ?_
      rotate_left
      · rintro w' ⟨s0, s1, s2, s3, s4, s5, s6, s7⟩
        go_simp
        with_reducible rfl
      rotate_left
      · simp only [Act.put, List.setIfInBounds_toArray, List.set_cons_zero, List.set_cons_succ]
        rfl
      refine one_ (i := 10) (N := some 26) #[true, true, true, true, true, true, true, true, true, true, true, false, false, false, false, false] rfl rfl (by kernel_rfl) (by decide) (fun K hK => ?_)
      refine goes_ Tryd.func63 (by kernel_rfl) rfl #[.string t, .agg #[.int .i64 u0, .int .i64 u1, .string u2, .slice B3 u3.length d3, .slice B4 u4.length d4]] (by rfl) rfl rfl (by simp only [List.map_toArray, List.map_cons, List.map_nil]; rfl) ?_
      with_reducible refine (hcw).mono ?_
      rintro e w5 ⟨⟨mm, bb, rfl, hrel⟩, hbc⟩
      refine ⟨_, rfl, ?_⟩
      have hbw : Below wr.heap.size wr w5 := (Below.refl _ wr).drew.trans hbc
      have HBC := Lib.hid hbw
      clear hbc hbw
      have HREL := Lib.hid hrel
      clear hrel
      refine hK.out _ _ ⟨((HBC.out.cell (World.block_lt_of_cell? wr _ f3)).trans f3), ((HBC.out.cell (World.block_lt_of_cell? wr _ f4)).trans f4), ((HBC.out.cell (World.block_lt_of_cell? wr _ e9)).trans e9), ((HBC.out.cell (World.block_lt_of_cell? wr _ e0)).trans e0), ((HBC.out.cell (World.block_lt_of_cell? wr _ e1)).trans e1), ((HBC.out.cell (World.block_lt_of_cell? wr _ e2)).trans e2), ((HBC.out.cell (World.block_lt_of_cell? wr _ e3)).trans e3), ((HBC.out.cell (World.block_lt_of_cell? wr _ e4)).trans e4)⟩ (fun hHeld => ?_)
      clear hK K
      refine norm_ (a' := ?_) ?_ ?_
      rotate_left
      · show Act.put _ (some 26) _ = _
        simp only [Act.put, List.setIfInBounds_toArray, List.set_cons_zero, List.set_cons_succ]
        rfl
      refine pure_ (i := 11) (N := some 15) (v := ?_) (a' := ?_) #[true, true, true, true, true, true, true, true, true, true, true, true, false, false, false, false] rfl rfl (by kernel_rfl) (fun _ _ _ h => h) (Or.inl ⟨by rfl, ?_⟩) ?_ ?_
      rotate_left
      · intro w'
        go_simp
        with_reducible rfl
      rotate_left
      · simp only [Act.put, List.setIfInBounds_toArray, List.set_cons_zero, List.set_cons_succ]
        rfl
      refine pure_ (i := 12) (N := some 27) (v := ?_) (a' := ?_) #[true, true, true, true, true, true, true, true, true, true, true, true, true, false, false, false] rfl rfl (by kernel_rfl) (fun _ _ _ h => h) (Or.inl ⟨by rfl, ?_⟩) ?_ ?_
      rotate_left
      · intro w'
        go_simp
        with_reducible rfl
      rotate_left
      · simp only [Act.put, List.setIfInBounds_toArray, List.set_cons_zero, List.set_cons_succ]
        rfl
      refine pure_ (i := 13) (N := some 28) (v := ?_) (a' := ?_) #[true, true, true, true, true, true, true, true, true, true, true, true, true, true, false, false] rfl rfl (by kernel_rfl) (fun _ _ _ h => h) (Or.inl ⟨by rfl, ?_⟩) ?_ ?_
      rotate_left
      · intro w'
        go_simp
        with_reducible rfl
      rotate_left
      · simp only [Act.put, List.setIfInBounds_toArray, List.set_cons_zero, List.set_cons_succ]
        rfl
      refine pure_ (i := 14) (N := some 6) (v := ?_) (a' := ?_) #[true, true, true, true, true, true, true, true, true, true, true, true, true, true, true, false] rfl rfl (by kernel_rfl) (fun _ _ _ h => h) (Or.inl ⟨by rfl, ?_⟩) ?_ ?_
      rotate_left
      · intro w'
        go_simp
        with_reducible rfl
      rotate_left
      · simp only [Act.put, List.setIfInBounds_toArray, List.set_cons_zero, List.set_cons_succ]
        rfl
      refine pure_ (i := 15) (N := some 7) (v := ?_) (a' := ?_) #[true, true, true, true, true, true, true, true, true, true, true, true, true, true, true, true] rfl rfl (by kernel_rfl) (fun _ _ _ h => h) (Or.inl ⟨by rfl, ?_⟩) ?_ ?_
      rotate_left
      · intro w'
        go_simp
        with_reducible rfl
      rotate_left
      · simp only [Act.put, List.setIfInBounds_toArray, List.set_cons_zero, List.set_cons_succ]
        rfl
      refine done_ (by kernel_rfl) ?_

      have hB3 := HR.out.trans (HBC.out.mono HR.out.size)
      have HB3 := Lib.hid hB3; clear hB3
      clear hcw e0 e1 e2 e3 e4 e9 f3 f4
      cases q with
      | none =>
        obtain rfl : bb = false := HREL.out
        have hno : ANS = none := by rw [HS.out, HX6.out, HD.out, HQ.out, countO_none]; rfl
        subst hno
        clear HS HREL HBIG
        go_wp2_with fail
        go_ret2
        exact ⟨⟨_, _, rfl, rfl⟩, HB3.out⟩
      | some a =>
        have ha := HBIG.out a rfl
        obtain ⟨rfl, rfl⟩ : bb = true ∧ mm = a := HREL.out
        have hS2 : ANS = if (x0 == 6) = true then countO (n + a) ((List.range' (j + 1) (x3.length - (j + 1))).map (fun i => clauseJ (clausesJ k) (x3.getD i ByteArray.empty) (x4.getD i z25))) else none := by rw [HS.out, HD.out, HQ.out, countO_some]
        have HS2 := Lib.hid hS2; clear hS2 HS HREL HBIG
        have hncap : n ≤ 24 * (1 + 24 * 1000 ^ 5) := Nat.le_trans hn (Nat.mul_le_mul_right _ (by omega))
        go_wp2_with fail
        go_roundw
        case rel =>
          refine ⟨j + 1, n + a, by omega, by rw [Nat.add_mul]; omega, by go_num, ?_, HS2.out, HB3.out, blk_below HKR.out HBC.out⟩
          rw [show ((n + a : Nat) : Int) = (n : Int) + a by omega]
        case measure => simp [intOf]; omega
    · have hnl : ¬ (j : Int) < (x3.length : Int) := by omega
      have hS : ANS = if (x0 == 6) = true then some n else none := by rw [HS.out, show x3.length - j = 0 by omega]; rfl
      have HSS := Lib.hid hS; clear hS HS
      go_upto_region 9 with fail
      refine start_ (n := 6) (S := fun w' => w'.cell? ⟨w.heap.size, 0, none⟩ = some (.int .i64 x0)) (ds := []) #[false, false, false, false, false, false] (by kernel_rfl) rfl rfl (f0) (fun hHeld => ?_)
      refine pure_ (i := 0) (N := some 34) (v := ?_) (a' := ?_) #[true, false, false, false, false, false] rfl rfl (by kernel_rfl) (fun _ _ _ h => h) (Or.inl ⟨by rfl, ?_⟩) ?_ ?_
      rotate_left
      · intro w'
        go_simp
        with_reducible rfl
      rotate_left
      · simp only [Act.put, List.setIfInBounds_toArray, List.set_cons_zero, List.set_cons_succ]
        rfl
      refine pure_ (i := 1) (N := some 35) (v := ?_) (a' := ?_) #[true, true, false, false, false, false] rfl rfl (by kernel_rfl) (fun _ _ _ h => h) (Or.inl ⟨by rfl, ?_⟩) ?_ ?_
      rotate_left
      · intro w'
        go_simp
        with_reducible rfl
      rotate_left
      · simp only [Act.put, List.setIfInBounds_toArray, List.set_cons_zero, List.set_cons_succ]
        rfl
      refine pure_ (i := 4) (N := some 2) (v := ?_) (a' := ?_) #[true, true, false, false, true, false] rfl rfl (by kernel_rfl) (fun _ _ _ h => h) (Or.inl ⟨by rfl, ?_⟩) ?_ ?_
      rotate_left
      · intro w'
        go_simp
        with_reducible rfl
      rotate_left
      · simp only [Act.put, List.setIfInBounds_toArray, List.set_cons_zero, List.set_cons_succ]
        rfl
      refine take_ (i := 2) (N := some 36) (v := ?_) (a' := ?_) #[true, true, true, false, true, false] rfl rfl (by kernel_rfl) (fun _ _ _ h => h) (Or.inl ⟨by rfl, ?_⟩) hHeld ?_ ?_
      rotate_left
      · intro w' s0
        go_simp
        with_reducible rfl
      rotate_left
      · simp only [Act.put, List.setIfInBounds_toArray, List.set_cons_zero, List.set_cons_succ]
        rfl
      refine pure_ (i := 3) (N := some 37) (v := ?_) (a' := ?_) #[true, true, true, true, true, false] rfl rfl (by kernel_rfl) (fun _ _ _ h => h) (Or.inl ⟨by rfl, ?_⟩) ?_ ?_
      rotate_left
      · intro w'
        go_simp
        with_reducible rfl
      rotate_left
      · simp only [Act.put, List.setIfInBounds_toArray, List.set_cons_zero, List.set_cons_succ]
        rfl
      refine pure_ (i := 5) (N := some 3) (v := ?_) (a' := ?_) #[true, true, true, true, true, true] rfl rfl (by kernel_rfl) (fun _ _ _ h => h) (Or.inl ⟨by rfl, ?_⟩) ?_ ?_
      rotate_left
      · intro w'
        go_simp
        with_reducible rfl
      rotate_left
      · simp only [Act.put, List.setIfInBounds_toArray, List.set_cons_zero, List.set_cons_succ]
        rfl
      refine done_ (by kernel_rfl) ?_

      go_wp2_with fail
      go_ret2
      refine ⟨⟨_, _, rfl, ?_⟩, HR.out.drew⟩
      rw [HSS.out]
      cases x0 == 6 with
      | true => exact ⟨rfl, rfl⟩
      | false => rfl

theorem count_any : ∀ k, k ≤ 6 → CountAt k
  | 0, _ => fun x A3 c3 A4 c4 w hf _ => by unfold formedJ at hf; cases hf
  | k + 1, hk => count_step k (by omega) (count_any k (by omega))

set_option maxHeartbeats 1000000 in
theorem check_ref (x : S25) (A3 : Option Addr) (c3 : Nat) (A4 : Option Addr) (c4 : Nat) (w : World) (h : Rd w A3 c3 A4 c4 x) :
    Calls Tryd.prog 21 #[av x A3 c3 A4 c4] w fun e w' => e = .returned (.int .i64 (checkJ x)) ∧ Below w.heap.size w w' := by
  have hb0 : Below w.heap.size w (w.alloc (.cells (cs25 x A3 c3 A4 c4) 25)) := (Below.refl _ w).alloc (Nat.le_refl _) _
  have hblk := new_blk w (.cells (cs25 x A3 c3 A4 c4) 25)
  have hX := Formed_ref x A3 c3 A4 c4 _ (h.below hb0)
  have hY := fun W (hb : Below w.heap.size w W) (hf : formedJ 6 x = true) => count_any 6 (by omega) x A3 c3 A4 c4 W hf (h.below hb)
  unfold checkJ
  have HB0 := Lib.hid hb0; clear hb0
  have HY := Lib.hid hY; clear hY
  clear h
  cases hf : fmJ x with
  | false =>
    rw [hf] at hX
    obtain ⟨x0, x1, x2, x3, x4⟩ := x
    rw [if_neg (by simp)]
    clear HY hf
    go_enter Tryd.func21, Tryd.ntmps21
    go_wp2_with fail
    refine hX.mono ?_; rintro e w' ⟨rfl, hb⟩
    have HB := Lib.hid hb; clear hb
    go_wp2_with fail
    go_ret
    exact ⟨rfl, HB0.out.trans (HB.out.mono HB0.out.size)⟩
  | true =>
    rw [hf] at hX
    rw [if_pos rfl]
    have hY := fun W (hb : Below w.heap.size w W) => HY.out W hb hf
    obtain ⟨x0, x1, x2, x3, x4⟩ := x
    obtain ⟨q, hq⟩ : ∃ q, clausesJ 6 ⟨x0, x1, x2, x3, x4⟩ = q := ⟨_, rfl⟩
    rw [hq] at hY ⊢
    clear hq HY hf
    have HY := Lib.hid hY; clear hY
    go_enter Tryd.func21, Tryd.ntmps21
    go_wp2_with fail
    refine hX.mono ?_; rintro e w1 ⟨rfl, hb⟩
    have hK := blk_below hblk hb
    have hB := HB0.out.trans (hb.mono HB0.out.size)
    have hC := HY.out w1 hB
    have HB := Lib.hid hB
    clear hb hB hX hblk HY
    have f0 : w1.cell? ⟨w.heap.size, 0, none⟩ = some (.int .i64 x0) := (blk_cell hK 0).trans rfl
    have f1 : w1.cell? ⟨w.heap.size, 1, none⟩ = some (.int .i64 x1) := (blk_cell hK 1).trans rfl
    have f2 : w1.cell? ⟨w.heap.size, 2, none⟩ = some (.string x2) := (blk_cell hK 2).trans rfl
    have f3 : w1.cell? ⟨w.heap.size, 3, none⟩ = some (.slice A3 x3.length c3) := (blk_cell hK 3).trans rfl
    have f4 : w1.cell? ⟨w.heap.size, 4, none⟩ = some (.slice A4 x4.length c4) := (blk_cell hK 4).trans rfl
    clear hK
    go_wp2_with fail
    refine hC.mono ?_; rintro e w2 ⟨⟨m, b, rfl, hrel⟩, hb⟩
    have HB2 := Lib.hid hb; clear hb hC f0 f1 f2 f3 f4
    cases q with
    | none =>
      obtain rfl : b = false := hrel
      go_wp2_with fail
      go_ret
      exact ⟨rfl, HB.out.trans (HB2.out.mono HB.out.size)⟩
    | some n =>
      obtain ⟨rfl, rfl⟩ : b = true ∧ m = n := hrel
      by_cases h12 : 12 < n
      · have g2 : decide ((12 : Int) < (n : Int)) = true := decide_eq_true (by omega)
        go_wp2_with fail
        go_ret
        refine ⟨?_, HB.out.trans (HB2.out.mono HB.out.size)⟩
        simp
      · have g2 : decide ((12 : Int) < (n : Int)) = false := decide_eq_false (by omega)
        go_wp2_with fail
        go_ret
        refine ⟨?_, HB.out.trans (HB2.out.mono HB.out.size)⟩
        simp

end Go.Proofs.YtehdnjegipcpfaaDoor
