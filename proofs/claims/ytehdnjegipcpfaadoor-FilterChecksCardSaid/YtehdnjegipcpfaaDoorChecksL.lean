/-
  The law FilterChecks is walked: it answers true; under utf8's tables.
-/
import Derived.Test.YtehdnjegipcpfaaDoorRpath
import Derived.Test.YtehdnjegipcpfaaDoorMade
namespace Go.Proofs.YtehdnjegipcpfaaDoor
open Go.RowKit Go.Proofs.YtehdnjegipcpfaaDoorW.PrintWords Go.Proofs.YtehdnjegipcpfaaDoorW.PrintLast Go.Proofs.YtehdnjegipcpfaaDoorW.PrintMore
open PFilterHolds Go.Shelf

/-- What is known of the memory in the law: the argument's box. -/
structure Ck (w : World) (f : S25) (F3 : Option Addr) (f3 : Nat) (F4 : Option Addr) (f4 : Nat) (W : World) : Prop where
  b : Below w.heap.size w W
  k0 : W.heap[w.heap.size]? = some (.cells (cs25 f F3 f3 F4 f4) 25 (0, 0))

theorem Ck.below {w : World} {f : S25} {F3 : Option Addr} {f3 : Nat} {F4 : Option Addr} {f4 : Nat} {W W' : World} (h : Ck w f F3 f3 F4 f4 W) (hb : Below W.heap.size W W') : Ck w f F3 f3 F4 f4 W' :=
  ⟨h.b.trans (hb.mono h.b.size), blk_below h.k0 hb⟩

theorem row_big {w : World} {base n : Nat} {V : Value} {l : List Value} (h : w.ownsRow base 9 1 V n l) : n ≤ 9223372036854775807 := by
  rcases h.2 with ⟨_, h1⟩ | ⟨g', cap', cur, he, _, _, h1, h2, _⟩
  · omega
  · simp only [maxLen] at h2
    omega

set_option maxRecDepth 100000 in
set_option maxHeartbeats 2000000 in
theorem checksL_any (f : S25) (F3 : Option Addr) (f3 : Nat) (F4 : Option Addr) (f4 : Nat) (w : World) (hf : Rd w F3 f3 F4 f4 f) (hT : Tabs w) :
    Calls Tryd.prog 7 #[av f F3 f3 F4 f4] w fun e w' => e = .returned (.bool true) ∧ Below w.heap.size w w' := by
  have hb0 := below_alloc (Below.refl w.heap.size w) (.cells (cs25 f F3 f3 F4 f4) 25)
  have hk0 := new_blk w (.cells (cs25 f F3 f3 F4 f4) 25)
  have hAw := fun W (hb : Below w.heap.size w W) => awake_any W (hT.below hb)
  obtain ⟨rf, hFew⟩ := fewL_any [f] (by simp)
  have hA0 := hAw _ hb0
  have hP1 := fun W (hb : Below w.heap.size w W) => Paths_any f F3 f3 F4 f4 W (hf.below hb) (hT.below hb)
  have hP2 := fun W (hb : Below w.heap.size w W) => Paths_ref f F3 f3 F4 f4 W (hf.below hb)
  have hK1 := fun W (hb : Below w.heap.size w W) => check_any f F3 f3 F4 f4 W (hf.below hb) (hT.below hb)
  have hK2 := fun W (hb : Below w.heap.size w W) => check_ref f F3 f3 F4 f4 W (hf.below hb)
  generalize PathsJ f = L at hP1 hP2
  generalize checkJ f = c at hK1 hK2
  have HB0 := Lib.hid hb0; clear hb0
  have HK0 := Lib.hid hk0; clear hk0
  have HAW := Lib.hid hAw; clear hAw
  have HFEW := Lib.hid hFew; clear hFew
  have HC1 := Lib.hid hP1; clear hP1
  have HC2 := Lib.hid hP2; clear hP2
  have HC3 := Lib.hid hK1; clear hK1
  have HC4 := Lib.hid hK2; clear hK2
  have HF := Lib.hid hf; clear hf
  clear hT
  obtain ⟨a0, a1, a2, a3, a4⟩ := f
  go_enter Tryd.func7, Tryd.ntmps7
  go_wp2_with fail
  refine hA0.mono ?_; rintro e w1 ⟨rfl, hb⟩
  have hB1 := HB0.out.trans (hb.mono HB0.out.size)
  have k0 := blk_below HK0.out hb
  have HB1 := Lib.hid hB1; clear hB1 hA0
  clear hb HK0 HB0
  have p0 : w1.cell? ⟨w.heap.size, 0, none⟩ = some (.int .i64 a0) := (blk_cell k0 0).trans rfl
  have p1 : w1.cell? ⟨w.heap.size, 1, none⟩ = some (.int .i64 a1) := (blk_cell k0 1).trans rfl
  have p2 : w1.cell? ⟨w.heap.size, 2, none⟩ = some (.string a2) := (blk_cell k0 2).trans rfl
  have p3 : w1.cell? ⟨w.heap.size, 3, none⟩ = some (.slice F3 a3.length f3) := (blk_cell k0 3).trans rfl
  have p4 : w1.cell? ⟨w.heap.size, 4, none⟩ = some (.slice F4 a4.length f4) := (blk_cell k0 4).trans rfl
  have hNew := new_blk w1 (.cells #[.int .i64 a0, .int .i64 a1, .string a2, .slice F3 a3.length f3, .slice F4 a4.length f4] 25)
  have hBn : Below w.heap.size w (w1.alloc (.cells #[.int .i64 a0, .int .i64 a1, .string a2, .slice F3 a3.length f3, .slice F4 a4.length f4] 25)) := below_alloc HB1.out _
  have hF1 := HFEW.out (some ⟨w1.heap.size, 0, none⟩) 1 _ (C_blk hNew (reps_one (HF.out.below hBn)) (by simp)) (by simp)
  have hsl : ([⟨a0, a1, a2, a3, a4⟩] : List S25).length = 1 := rfl
  rw [hsl] at hF1
  clear hsl hNew
  have K0 := Lib.hid (blk_alloc k0 (.cells #[.int .i64 a0, .int .i64 a1, .string a2, .slice F3 a3.length f3, .slice F4 a4.length f4] 25))
  have HBN := Lib.hid hBn; clear hBn k0
  go_wp2_with fail
  refine hF1.mono ?_; rintro e w2 ⟨rfl, hb⟩
  have hB2 := HBN.out.trans (hb.mono HBN.out.size)
  have k0 := blk_below K0.out hb
  have hL : Ck w ⟨a0, a1, a2, a3, a4⟩ F3 f3 F4 f4 w2 := ⟨hB2, k0⟩
  have HL := Lib.hid hL; clear hL hF1 hb hB2 k0
  clear p0 p1 p2 p3 p4 K0 HBN HB1
  cases rf with
  | false =>
    have hA := HAW.out w2 HL.out.b
    go_wp2_with fail
    refine hA.mono ?_; rintro e w3 ⟨rfl, hb⟩
    have HB3 := Lib.hid hb; clear hb hA
    go_wp2_with fail
    go_ret
    exact ⟨rfl, HL.out.b.trans (HB3.out.mono HL.out.b.size)⟩
  | true =>
    have hC1 := HC1.out w2.drew HL.out.b.drew
    have p0 : w2.cell? ⟨w.heap.size, 0, none⟩ = some (.int .i64 a0) := (blk_cell HL.out.k0 0).trans rfl
    have p1 : w2.cell? ⟨w.heap.size, 1, none⟩ = some (.int .i64 a1) := (blk_cell HL.out.k0 1).trans rfl
    have p2 : w2.cell? ⟨w.heap.size, 2, none⟩ = some (.string a2) := (blk_cell HL.out.k0 2).trans rfl
    have p3 : w2.cell? ⟨w.heap.size, 3, none⟩ = some (.slice F3 a3.length f3) := (blk_cell HL.out.k0 3).trans rfl
    have p4 : w2.cell? ⟨w.heap.size, 4, none⟩ = some (.slice F4 a4.length f4) := (blk_cell HL.out.k0 4).trans rfl
    go_upto_region 3 with fail
    refine start_ (n := 6) (S := fun w' => w'.cell? ⟨w.heap.size, 0, none⟩ = some (.int .i64 a0) ∧ w'.cell? ⟨w.heap.size, 1, none⟩ = some (.int .i64 a1) ∧ w'.cell? ⟨w.heap.size, 2, none⟩ = some (.string a2) ∧ w'.cell? ⟨w.heap.size, 3, none⟩ = some (.slice F3 a3.length f3) ∧ w'.cell? ⟨w.heap.size, 4, none⟩ = some (.slice F4 a4.length f4)) (ds := []) #[false, false, false, false, false, false] (by kernel_rfl) rfl rfl ⟨p0, p1, p2, p3, p4⟩ (fun hHeld => ?_)
    refine take_ (i := 0) (N := some 15) (v := ?_) (a' := ?_) #[true, false, false, false, false, false] rfl rfl (by kernel_rfl) (fun _ _ _ h => h) (Or.inl ⟨by rfl, ?_⟩) hHeld ?_ ?_
    rotate_left
    · rintro w' ⟨s0, s1, s2, s3, s4⟩
      go_simp
      with_reducible rfl
    rotate_left
    · simp only [Act.put, List.setIfInBounds_toArray, List.set_cons_zero, List.set_cons_succ]
      rfl
    refine take_ (i := 2) (N := some 17) (v := ?_) (a' := ?_) #[true, false, true, false, false, false] rfl rfl (by kernel_rfl) (fun _ _ _ h => h) (Or.inl ⟨by rfl, ?_⟩) hHeld ?_ ?_
    rotate_left
    · rintro w' ⟨s0, s1, s2, s3, s4⟩
      go_simp
      with_reducible rfl
    rotate_left
    · simp only [Act.put, List.setIfInBounds_toArray, List.set_cons_zero, List.set_cons_succ]
      rfl
    refine one_ (i := 1) (N := some 16) #[true, true, true, false, false, false] rfl rfl (by kernel_rfl) (by decide) (fun K hK => ?_)
    refine goes_ Tryd.func19 (by kernel_rfl) rfl #[.agg #[.int .i64 a0, .int .i64 a1, .string a2, .slice F3 a3.length f3, .slice F4 a4.length f4]] (by rfl) rfl rfl (by simp only [List.map_toArray, List.map_cons, List.map_nil]; rfl) ?_
    with_reducible refine (hC1).mono ?_
    rintro e w4 ⟨V1, rfl, hr1, hb⟩
    refine ⟨_, rfl, ?_⟩
    have hL4 := HL.out.below ((Below.refl _ w2).drew.trans hb)
    have HL4 := Lib.hid hL4
    have HR1 := Lib.hid hr1
    clear hb hL4 hr1
    have hC2 := HC2.out w4 HL4.out.b
    refine hK.out _ _ ⟨((blk_cell HL4.out.k0 0).trans rfl), ((blk_cell HL4.out.k0 1).trans rfl), ((blk_cell HL4.out.k0 2).trans rfl), ((blk_cell HL4.out.k0 3).trans rfl), ((blk_cell HL4.out.k0 4).trans rfl)⟩ (fun hHeld => ?_)
    clear hK K
    refine norm_ (a' := ?_) ?_ ?_
    rotate_left
    · show Act.put _ (some 16) _ = _
      simp only [Act.put, List.setIfInBounds_toArray, List.set_cons_zero, List.set_cons_succ]
      rfl
    refine one_ (i := 3) (N := some 18) #[true, true, true, true, false, false] rfl rfl (by kernel_rfl) (by decide) (fun K hK => ?_)
    refine goes_ Tryd.func20 (by kernel_rfl) rfl #[.agg #[.int .i64 a0, .int .i64 a1, .string a2, .slice F3 a3.length f3, .slice F4 a4.length f4]] (by rfl) rfl rfl (by simp only [List.map_toArray, List.map_cons, List.map_nil]; rfl) ?_
    with_reducible refine (hC2).mono ?_
    rintro e w5 ⟨V2, rfl, hr2, hb⟩
    refine ⟨_, rfl, ?_⟩
    have hL5 := HL4.out.below hb
    have hr1 := own_base (own_below HR1.out hb) HL.out.b.size
    have hr2' := own_base hr2 HL4.out.b.size
    have HL5 := Lib.hid hL5
    have HR1' := Lib.hid hr1
    have HR2 := Lib.hid hr2'
    clear hb hL5 hr1 hr2 hr2'
    refine hK.out _ _ ⟨((blk_cell HL5.out.k0 0).trans rfl), ((blk_cell HL5.out.k0 1).trans rfl), ((blk_cell HL5.out.k0 2).trans rfl), ((blk_cell HL5.out.k0 3).trans rfl), ((blk_cell HL5.out.k0 4).trans rfl)⟩ (fun hHeld => ?_)
    clear hK K
    refine norm_ (a' := ?_) ?_ ?_
    rotate_left
    · show Act.put _ (some 18) _ = _
      simp only [Act.put, List.setIfInBounds_toArray, List.set_cons_zero, List.set_cons_succ]
      rfl
    refine pure_ (i := 4) (N := some 3) (v := ?_) (a' := ?_) #[true, true, true, true, true, false] rfl rfl (by kernel_rfl) (fun _ _ _ h => h) (Or.inl ⟨by rfl, ?_⟩) ?_ ?_
    rotate_left
    · intro w'
      go_simp
      with_reducible rfl
    rotate_left
    · simp only [Act.put, List.setIfInBounds_toArray, List.set_cons_zero, List.set_cons_succ]
      rfl
    refine pure_ (i := 5) (N := some 4) (v := ?_) (a' := ?_) #[true, true, true, true, true, true] rfl rfl (by kernel_rfl) (fun _ _ _ h => h) (Or.inl ⟨by rfl, ?_⟩) ?_ ?_
    rotate_left
    · intro w'
      go_simp
      with_reducible rfl
    rotate_left
    · simp only [Act.put, List.setIfInBounds_toArray, List.set_cons_zero, List.set_cons_succ]
      rfl
    refine done_ (by kernel_rfl) ?_

    clear p0 p1 p2 p3 p4 hC1 hC2
    obtain ⟨A1, c1, rfl⟩ := row_len HR1'.out
    obtain ⟨A2, c2, rfl⟩ := row_len HR2.out
    have hC3 := HC3.out w5.drew HL5.out.b.drew
    have hcc : (c != c) = false := by simp
    have hll : ((L.length : Int) != (L.length : Int)) = false := by simp
    have p0 : w5.cell? ⟨w.heap.size, 0, none⟩ = some (.int .i64 a0) := (blk_cell HL5.out.k0 0).trans rfl
    have p1 : w5.cell? ⟨w.heap.size, 1, none⟩ = some (.int .i64 a1) := (blk_cell HL5.out.k0 1).trans rfl
    have p2 : w5.cell? ⟨w.heap.size, 2, none⟩ = some (.string a2) := (blk_cell HL5.out.k0 2).trans rfl
    have p3 : w5.cell? ⟨w.heap.size, 3, none⟩ = some (.slice F3 a3.length f3) := (blk_cell HL5.out.k0 3).trans rfl
    have p4 : w5.cell? ⟨w.heap.size, 4, none⟩ = some (.slice F4 a4.length f4) := (blk_cell HL5.out.k0 4).trans rfl
    go_upto_region 4 with fail
    refine start_ (n := 12) (S := fun w' => w'.cell? ⟨w.heap.size, 0, none⟩ = some (.int .i64 a0) ∧ w'.cell? ⟨w.heap.size, 1, none⟩ = some (.int .i64 a1) ∧ w'.cell? ⟨w.heap.size, 2, none⟩ = some (.string a2) ∧ w'.cell? ⟨w.heap.size, 3, none⟩ = some (.slice F3 a3.length f3) ∧ w'.cell? ⟨w.heap.size, 4, none⟩ = some (.slice F4 a4.length f4)) (ds := []) #[false, false, false, false, false, false, false, false, false, false, false, false] (by kernel_rfl) rfl rfl ⟨p0, p1, p2, p3, p4⟩ (fun hHeld => ?_)
    refine take_ (i := 0) (N := some 19) (v := ?_) (a' := ?_) #[true, false, false, false, false, false, false, false, false, false, false, false] rfl rfl (by kernel_rfl) (fun _ _ _ h => h) (Or.inl ⟨by rfl, ?_⟩) hHeld ?_ ?_
    rotate_left
    · rintro w' ⟨s0, s1, s2, s3, s4⟩
      go_simp
      with_reducible rfl
    rotate_left
    · simp only [Act.put, List.setIfInBounds_toArray, List.set_cons_zero, List.set_cons_succ]
      rfl
    refine take_ (i := 2) (N := some 21) (v := ?_) (a' := ?_) #[true, false, true, false, false, false, false, false, false, false, false, false] rfl rfl (by kernel_rfl) (fun _ _ _ h => h) (Or.inl ⟨by rfl, ?_⟩) hHeld ?_ ?_
    rotate_left
    · rintro w' ⟨s0, s1, s2, s3, s4⟩
      go_simp
      with_reducible rfl
    rotate_left
    · simp only [Act.put, List.setIfInBounds_toArray, List.set_cons_zero, List.set_cons_succ]
      rfl
    refine one_ (i := 1) (N := some 20) #[true, true, true, false, false, false, false, false, false, false, false, false] rfl rfl (by kernel_rfl) (by decide) (fun K hK => ?_)
    refine goes_ Tryd.func16 (by kernel_rfl) rfl #[.agg #[.int .i64 a0, .int .i64 a1, .string a2, .slice F3 a3.length f3, .slice F4 a4.length f4]] (by rfl) rfl rfl (by simp only [List.map_toArray, List.map_cons, List.map_nil]; rfl) ?_
    with_reducible refine (hC3).mono ?_
    rintro e w6 ⟨rfl, hb⟩
    refine ⟨_, rfl, ?_⟩
    have hL6 := HL5.out.below ((Below.refl _ w5).drew.trans hb)
    have hr1 := own_below HR1'.out ((Below.refl _ w5).drew.trans hb)
    have hr2 := own_below HR2.out ((Below.refl _ w5).drew.trans hb)
    have HL6 := Lib.hid hL6
    have HS1 := Lib.hid hr1
    have HS2 := Lib.hid hr2
    clear hb hL6 hr1 hr2
    have hC4 := HC4.out w6 HL6.out.b
    refine hK.out _ _ ⟨((blk_cell HL6.out.k0 0).trans rfl), ((blk_cell HL6.out.k0 1).trans rfl), ((blk_cell HL6.out.k0 2).trans rfl), ((blk_cell HL6.out.k0 3).trans rfl), ((blk_cell HL6.out.k0 4).trans rfl)⟩ (fun hHeld => ?_)
    clear hK K
    refine norm_ (a' := ?_) ?_ ?_
    rotate_left
    · show Act.put _ (some 20) _ = _
      simp only [Act.put, List.setIfInBounds_toArray, List.set_cons_zero, List.set_cons_succ]
      rfl
    refine one_ (i := 3) (N := some 22) #[true, true, true, true, false, false, false, false, false, false, false, false] rfl rfl (by kernel_rfl) (by decide) (fun K hK => ?_)
    refine goes_ Tryd.func21 (by kernel_rfl) rfl #[.agg #[.int .i64 a0, .int .i64 a1, .string a2, .slice F3 a3.length f3, .slice F4 a4.length f4]] (by rfl) rfl rfl (by simp only [List.map_toArray, List.map_cons, List.map_nil]; rfl) ?_
    with_reducible refine (hC4).mono ?_
    rintro e w7 ⟨rfl, hb⟩
    refine ⟨_, rfl, ?_⟩
    have hL7 := HL6.out.below hb
    have hr1 := own_below HS1.out hb
    have hr2 := own_below HS2.out hb
    have HL7 := Lib.hid hL7
    have HT1 := Lib.hid hr1
    have HT2 := Lib.hid hr2
    clear hb hL7 hr1 hr2
    refine hK.out _ _ ⟨((blk_cell HL7.out.k0 0).trans rfl), ((blk_cell HL7.out.k0 1).trans rfl), ((blk_cell HL7.out.k0 2).trans rfl), ((blk_cell HL7.out.k0 3).trans rfl), ((blk_cell HL7.out.k0 4).trans rfl)⟩ (fun hHeld => ?_)
    clear hK K
    refine norm_ (a' := ?_) ?_ ?_
    rotate_left
    · show Act.put _ (some 22) _ = _
      simp only [Act.put, List.setIfInBounds_toArray, List.set_cons_zero, List.set_cons_succ]
      rfl
    refine pure_ (i := 4) (N := some 23) (v := ?_) (a' := ?_) #[true, true, true, true, true, false, false, false, false, false, false, false] rfl rfl (by kernel_rfl) (fun _ _ _ h => h) (Or.inl ⟨by rfl, ?_⟩) ?_ ?_
    rotate_left
    · intro w'
      go_simp
      with_reducible rfl
    rotate_left
    · simp only [Act.put, List.setIfInBounds_toArray, List.set_cons_zero, List.set_cons_succ]
      rfl
    refine pure_ (i := 5) (N := some 24) (v := ?_) (a' := ?_) #[true, true, true, true, true, true, false, false, false, false, false, false] rfl rfl (by kernel_rfl) (fun _ _ _ h => h) (Or.inl ⟨by rfl, ?_⟩) ?_ ?_
    rotate_left
    · intro w'
      go_simp
      with_reducible rfl
    rotate_left
    · simp only [Act.put, List.setIfInBounds_toArray, List.set_cons_zero, List.set_cons_succ]
      rfl
    refine pure_ (i := 6) (N := some 25) (v := ?_) (a' := ?_) #[true, true, true, true, true, true, true, false, false, false, false, false] rfl rfl (by kernel_rfl) (fun _ _ _ h => h) (Or.inl ⟨by rfl, ?_⟩) ?_ ?_
    rotate_left
    · intro w'
      go_simp
      with_reducible rfl
    rotate_left
    · simp only [Act.put, List.setIfInBounds_toArray, List.set_cons_zero, List.set_cons_succ]
      rfl
    refine pure_ (i := 7) (N := some 26) (v := ?_) (a' := ?_) #[true, true, true, true, true, true, true, true, false, false, false, false] rfl rfl (by kernel_rfl) (fun _ _ _ h => h) (Or.inl ⟨by rfl, ?_⟩) ?_ ?_
    rotate_left
    · intro w'
      go_simp
      with_reducible rfl
    rotate_left
    · simp only [Act.put, List.setIfInBounds_toArray, List.set_cons_zero, List.set_cons_succ]
      rfl
    refine pure_ (i := 8) (N := some 27) (v := ?_) (a' := ?_) #[true, true, true, true, true, true, true, true, true, false, false, false] rfl rfl (by kernel_rfl) (fun _ _ _ h => h) (Or.inl ⟨by rfl, ?_⟩) ?_ ?_
    rotate_left
    · intro w'
      go_simp
      with_reducible rfl
    rotate_left
    · simp only [Act.put, List.setIfInBounds_toArray, List.set_cons_zero, List.set_cons_succ]
      rfl
    refine pure_ (i := 9) (N := some 28) (v := ?_) (a' := ?_) #[true, true, true, true, true, true, true, true, true, true, false, false] rfl rfl (by kernel_rfl) (fun _ _ _ h => h) (Or.inl ⟨by rfl, ?_⟩) ?_ ?_
    rotate_left
    · intro w'
      go_simp
      with_reducible rfl
    rotate_left
    · simp only [Act.put, List.setIfInBounds_toArray, List.set_cons_zero, List.set_cons_succ]
      rfl
    refine pure_ (i := 10) (N := some 29) (v := ?_) (a' := ?_) #[true, true, true, true, true, true, true, true, true, true, true, false] rfl rfl (by kernel_rfl) (fun _ _ _ h => h) (Or.inl ⟨by rfl, ?_⟩) ?_ ?_
    rotate_left
    · intro w'
      go_simp
      with_reducible rfl
    rotate_left
    · simp only [Act.put, List.setIfInBounds_toArray, List.set_cons_zero, List.set_cons_succ]
      rfl
    refine pure_ (i := 11) (N := some 30) (v := ?_) (a' := ?_) #[true, true, true, true, true, true, true, true, true, true, true, true] rfl rfl (by kernel_rfl) (fun _ _ _ h => h) (Or.inl ⟨by rfl, ?_⟩) ?_ ?_
    rotate_left
    · intro w'
      go_simp
      with_reducible rfl
    rotate_left
    · simp only [Act.put, List.setIfInBounds_toArray, List.set_cons_zero, List.set_cons_succ]
      rfl
    refine done_ (by kernel_rfl) ?_

    clear p0 p1 p2 p3 p4 hC3 hC4
    go_wp2_with fail
    go_loopw [5] (fun v5 wr => ∃ i : Nat, i ≤ L.length ∧ v5 = .int .i64 i ∧ wr.ownsRow w.heap.size 9 1 (.slice A1 L.length c1) L.length (L.map Value.string) ∧ wr.ownsRow w.heap.size 9 1 (.slice A2 L.length c2) L.length (L.map Value.string) ∧ Below w.heap.size w wr) (fun v5 _ => L.length - (intOf v5).toNat)
    case atStart => exact ⟨0, Nat.zero_le _, rfl, HT1.out, HT2.out, HL7.out.b⟩
    case round =>
      obtain ⟨i, hi, rfl, hr1, hr2, hb⟩ := hrel
      have HB := Lib.hid hb; clear hb
      have HR1 := Lib.hid hr1; clear hr1
      have HR2 := Lib.hid hr2; clear hr2
      have hbig : L.length ≤ 9223372036854775807 := row_big HR1.out
      by_cases hlt : i < L.length
      · have hji : (i : Int) < (L.length : Int) := by omega
        obtain ⟨s, hs⟩ : ∃ s, L[i]? = some s := ⟨_, List.getElem?_eq_getElem hlt⟩
        obtain ⟨g1, _, hf1, _, _⟩ := HR1.out.form (by omega)
        obtain ⟨g2, _, hf2, _, _⟩ := HR2.out.form (by omega)
        obtain rfl : A1 = some ⟨g1, 0, none⟩ := by injection hf1
        obtain rfl : A2 = some ⟨g2, 0, none⟩ := by injection hf2
        have e1 : wr.cell? ⟨g1, i, none⟩ = some (.string s) := by
          have := HR1.out.cells (g := g1) rfl i (.string s) (by rw [List.getElem?_map, hs]; rfl)
          rw [Addr.add_lit, Nat.zero_add] at this
          exact this
        have e2 : wr.cell? ⟨g2, i, none⟩ = some (.string s) := by
          have := HR2.out.cells (g := g2) rfl i (.string s) (by rw [List.getElem?_map, hs]; rfl)
          rw [Addr.add_lit, Nat.zero_add] at this
          exact this
        have hss : (s.toList == s.toList) = true := beq_self_eq_true _
        clear hs hf1 hf2
        go_upto_region 9 with fail
        refine start_ (n := 9) (S := fun w' => w'.cell? ⟨g1, i, none⟩ = some (.string s) ∧ w'.cell? ⟨g2, i, none⟩ = some (.string s)) (ds := []) #[false, false, false, false, false, false, false, false, false] (by kernel_rfl) rfl rfl ⟨e1, e2⟩ (fun hHeld => ?_)
        refine pure_ (i := 0) (N := some 37) (v := ?_) (a' := ?_) #[true, false, false, false, false, false, false, false, false] rfl rfl (by kernel_rfl) (fun _ _ _ h => h) (Or.inl ⟨by rfl, ?_⟩) ?_ ?_
        rotate_left
        · intro w'
          go_simp
          with_reducible rfl
        rotate_left
        · simp only [Act.put, List.setIfInBounds_toArray, List.set_cons_zero, List.set_cons_succ]
          rfl
        refine pure_ (i := 1) (N := some 38) (v := ?_) (a' := ?_) #[true, true, false, false, false, false, false, false, false] rfl rfl (by kernel_rfl) (fun _ _ _ h => h) (Or.inl ⟨by rfl, ?_⟩) ?_ ?_
        rotate_left
        · intro w'
          go_simp
          with_reducible rfl
        rotate_left
        · simp only [Act.put, List.setIfInBounds_toArray, List.set_cons_zero, List.set_cons_succ]
          rfl
        refine pure_ (i := 2) (N := some 39) (v := ?_) (a' := ?_) #[true, true, true, false, false, false, false, false, false] rfl rfl (by kernel_rfl) (fun _ _ _ h => h) (Or.inl ⟨by rfl, ?_⟩) ?_ ?_
        rotate_left
        · intro w'
          go_simp
          with_reducible rfl
        rotate_left
        · simp only [Act.put, List.setIfInBounds_toArray, List.set_cons_zero, List.set_cons_succ]
          rfl
        refine pure_ (i := 4) (N := some 41) (v := ?_) (a' := ?_) #[true, true, true, false, true, false, false, false, false] rfl rfl (by kernel_rfl) (fun _ _ _ h => h) (Or.inl ⟨by rfl, ?_⟩) ?_ ?_
        rotate_left
        · intro w'
          go_simp
          with_reducible rfl
        rotate_left
        · simp only [Act.put, List.setIfInBounds_toArray, List.set_cons_zero, List.set_cons_succ]
          rfl
        refine pure_ (i := 5) (N := some 42) (v := ?_) (a' := ?_) #[true, true, true, false, true, true, false, false, false] rfl rfl (by kernel_rfl) (fun _ _ _ h => h) (Or.inl ⟨by rfl, ?_⟩) ?_ ?_
        rotate_left
        · intro w'
          go_simp
          with_reducible rfl
        rotate_left
        · simp only [Act.put, List.setIfInBounds_toArray, List.set_cons_zero, List.set_cons_succ]
          rfl
        refine pure_ (i := 6) (N := some 43) (v := ?_) (a' := ?_) #[true, true, true, false, true, true, true, false, false] rfl rfl (by kernel_rfl) (fun _ _ _ h => h) (Or.inl ⟨by rfl, ?_⟩) ?_ ?_
        rotate_left
        · intro w'
          go_simp
          with_reducible rfl
        rotate_left
        · simp only [Act.put, List.setIfInBounds_toArray, List.set_cons_zero, List.set_cons_succ]
          rfl
        refine take_ (i := 3) (N := some 40) (v := ?_) (a' := ?_) #[true, true, true, true, true, true, true, false, false] rfl rfl (by kernel_rfl) (fun _ _ _ h => h) (Or.inl ⟨by rfl, ?_⟩) hHeld ?_ ?_
        rotate_left
        · rintro w' ⟨s0, s1⟩
          go_simp
          with_reducible rfl
        rotate_left
        · simp only [Act.put, List.setIfInBounds_toArray, List.set_cons_zero, List.set_cons_succ]
          rfl
        refine take_ (i := 7) (N := some 44) (v := ?_) (a' := ?_) #[true, true, true, true, true, true, true, true, false] rfl rfl (by kernel_rfl) (fun _ _ _ h => h) (Or.inl ⟨by rfl, ?_⟩) hHeld ?_ ?_
        rotate_left
        · rintro w' ⟨s0, s1⟩
          go_simp
          with_reducible rfl
        rotate_left
        · simp only [Act.put, List.setIfInBounds_toArray, List.set_cons_zero, List.set_cons_succ]
          rfl
        refine pure_ (i := 8) (N := some 45) (v := ?_) (a' := ?_) #[true, true, true, true, true, true, true, true, true] rfl rfl (by kernel_rfl) (fun _ _ _ h => h) (Or.inl ⟨by rfl, ?_⟩) ?_ ?_
        rotate_left
        · intro w'
          go_simp
          with_reducible rfl
        rotate_left
        · simp only [Act.put, List.setIfInBounds_toArray, List.set_cons_zero, List.set_cons_succ]
          rfl
        refine done_ (by kernel_rfl) ?_

        clear e1 e2
        go_wp2_with fail
        go_roundw
        case rel =>
          exact ⟨i + 1, by omega, by go_num, own_below HR1.out (Below.refl _ wr).drew, own_below HR2.out (Below.refl _ wr).drew, HB.out.drew⟩
        case measure => simp [intOf]; omega
      · have hnl : ¬ (i : Int) < (L.length : Int) := by omega
        go_wp2_with fail
        go_ret
        exact ⟨rfl, HB.out⟩

end Go.Proofs.YtehdnjegipcpfaaDoor
