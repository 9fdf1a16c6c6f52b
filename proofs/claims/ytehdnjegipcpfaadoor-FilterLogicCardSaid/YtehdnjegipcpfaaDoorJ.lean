/-
  The contract of path.own at formed values: a value in new memory; no other condition.
-/
import Derived.Test.YtehdnjegipcpfaaDoorE
import Derived.Deep.QuietTactic
import Derived.Deep.DeepCutAuto
import Derived.Deep.RegionHeld3
import Derived.Deep.RegionWith
import Derived.BigQuiet
namespace Go.Proofs.YtehdnjegipcpfaaDoor
open Go.RowKit Go.Proofs.YtehdnjegipcpfaaDoorW.PrintWords Go.Proofs.YtehdnjegipcpfaaDoorW.PrintLast Go.Proofs.YtehdnjegipcpfaaDoorW.PrintMore
open PFilterHolds Go.Shelf

theorem info25 : (Tryd.prog.info? 25).map (fun i => (i.zero, i.size, i.bytes)) = some (some (.agg #[.int .i64 0, .int .i64 0, .string ⟨#[]⟩, .slice none 0 0, .slice none 0 0]), 5, 80) := by kernel_rfl
theorem info9' : (Tryd.prog.info? 9).map (fun i => (i.zero, i.size, i.bytes)) = some (some (.string ⟨#[]⟩), 1, 16) := by kernel_rfl

/-- A value that a call has made from a block on. -/
def OwnEnd (w : World) (x : S25) (e : Ending) (w' : World) : Prop :=
  ∃ v3 v4, e = .returned (.agg #[.int .i64 x.f0, .int .i64 x.f1, .string x.f2, v3, v4]) ∧ k25.M w' w.heap.size (fun b => w.heap.size ≤ b) x [.int .i64 x.f0, .int .i64 x.f1, .string x.f2, v3, v4] ∧ Below w.heap.size w w'

def OwnAt (k : Nat) : Prop := ∀ (x : S25) (A3 : Option Addr) (c3 : Nat) (A4 : Option Addr) (c4 : Nat) (w : World), formedJ k x = true → Rd w A3 c3 A4 c4 x →
    Calls Tryd.prog 117 #[av x A3 c3 A4 c4] w (OwnEnd w x)

theorem far5 {α : Type} {d : Kd α} {e base g : Nat} {ok : Nat → Prop} {w : World} {v : Value} {xs : List α} (h : d.R e w base ok v xs) (hok : ∀ k, ok k → k ≠ g) (u0 u1 u2 u3 u4 : Value) :
    d.R e (((((w.setCell ⟨g, 0, none⟩ u0).setCell ⟨g, 1, none⟩ u1).setCell ⟨g, 2, none⟩ u2).setCell ⟨g, 3, none⟩ u3).setCell ⟨g, 4, none⟩ u4) base ok v xs :=
  Kd.R_far (Kd.R_far (Kd.R_far (Kd.R_far (Kd.R_far h hok _) hok _) hok _) hok _) hok _

set_option maxRecDepth 100000 in
set_option maxHeartbeats 4000000 in
theorem own_step (k : Nat) (ih : OwnAt k) : OwnAt (k + 1) := by
  intro x A3 c3 A4 c4 w hf h
  obtain ⟨hl3, hl4⟩ : x.f3.length ≤ 24 ∧ x.f4.length ≤ 24 := ⟨(formed_parts hf).1, (formed_parts hf).2.1⟩
  have hit := (formed_parts hf).2.2.1
  have HI := Lib.hid ih; clear ih
  have HIT := Lib.hid hit; clear hit
  have HRD := Lib.hid h; clear h
  clear hf
  obtain ⟨x0, x1, x2, x3, x4⟩ := x
  simp only at hl3 hl4
  go_enter Tryd.func117, Tryd.ntmps117
  go_wp2_with (first
    | (at_builtin; refine Kd.R_append_row (h1 := fun _ => rfl) (w0 := w) Value.string ByteArray.empty w.heap.size rfl _ _ 22 9 (.string ⟨#[]⟩) 16 rfl Tryd.underlying22 info9' rfl (by decide) (.slice none 0 0) [] x3 A3 x3.length c3 (fun b => w.heap.size ≤ b) rfl rfl ?a1 (Kd.R_nil _ _ _ _ _) ?a2 ?a3 ?a4 ?a5 ?a6)
    | go_in)
  case a1 => exact fun k hk => by omega
  case a2 => exact Kd.C_below HRD.out.g3 (by repeat (first | exact Below.refl _ _ | apply below_alloc))
  case a3 => repeat (first | exact Below.refl _ _ | apply below_alloc)
  case a4 => omega
  case a5 => omega
  intro v3 w1 hr3 hb1 hg1 hat1
  obtain ⟨Av, cv, rfl⟩ := Kd.R_slice hr3
  have B0 : w1.heap[w.heap.size]? = some (.cells #[.int .i64 x0, .int .i64 x1, .string x2, .slice A3 x3.length c3, .slice A4 x4.length c4] 25 (0, 0)) := (hg1.block _ (by simp; omega) (fun e => by simp [Value.ownBlock] at e)).trans (blk_alloc (blk_alloc (new_blk w _) _) _)
  have B1 : w1.heap[w.heap.size + 1]? = some (.cells #[.int .i64 0, .int .i64 0, .string ⟨#[]⟩, .slice none 0 0, .slice none 0 0] 25 (0, 0)) := (hg1.block _ (by simp) (fun e => by simp [Value.ownBlock] at e)).trans (blk_alloc (by
    have := new_blk (w.alloc (.cells #[.int .i64 x0, .int .i64 x1, .string x2, .slice A3 x3.length c3, .slice A4 x4.length c4] 25)) (.cells #[.int .i64 0, .int .i64 0, .string ⟨#[]⟩, .slice none 0 0, .slice none 0 0] 25)
    simpa using this) _)
  have B2 : w1.heap[w.heap.size + 1 + 1]? = some (.cells #[.int .i64 x0, .int .i64 x1, .string x2, .slice A3 x3.length c3, .slice A4 x4.length c4] 25 (0, 0)) := (hg1.block _ (by simp) (fun e => by simp [Value.ownBlock] at e)).trans (by
    have := new_blk ((w.alloc (.cells #[.int .i64 x0, .int .i64 x1, .string x2, .slice A3 x3.length c3, .slice A4 x4.length c4] 25)).alloc (.cells #[.int .i64 0, .int .i64 0, .string ⟨#[]⟩, .slice none 0 0, .slice none 0 0] 25)) (.cells #[.int .i64 x0, .int .i64 x1, .string x2, .slice A3 x3.length c3, .slice A4 x4.length c4] 25)
    simpa using this)
  have f2 : w1.cell? ⟨w.heap.size + 1 + 1, 3, none⟩ = some (.slice A3 x3.length c3) := (blk_cell B2 3).trans rfl
  have f5 : w1.cell? ⟨w.heap.size + 1 + 1, 4, none⟩ = some (.slice A4 x4.length c4) := (blk_cell B2 4).trans rfl
  have z2 := blk_frozen B2 3
  have z4 := blk_frozen B2 4
  have hz : w.heap.size + 1 + 1 + 1 ≤ w1.heap.size := by have := hg1.size; simpa using this
  have hr3' := Kd.R_set (Kd.R_set hr3 B2 (by decide) 3 (.slice Av x3.length cv)) (blk_set B2 3 (.slice Av x3.length cv)) (by decide) 4 (.slice none 0 0)
  have HR3 := Lib.hid hr3'; clear hr3'
  have HB0 := Lib.hid B0; clear B0
  have HB2 := Lib.hid B2; clear B2
  have HB1' := Lib.hid B1; clear B1
  have HB1 := Lib.hid hb1; clear hb1
  clear hg1 hat1 hr3
  go_wp2_with fail
  go_loopw [4] (fun u wr => ∃ (j : Nat) (vv : Value), j ≤ x4.length ∧ u = .int .i64 j ∧ wr.heap[w.heap.size]? = some (.cells #[.int .i64 x0, .int .i64 x1, .string x2, .slice A3 x3.length c3, .slice A4 x4.length c4] 25 (0, 0)) ∧ wr.heap[w.heap.size + 1]? = some (.cells #[.int .i64 0, .int .i64 0, .string ⟨#[]⟩, .slice none 0 0, .slice none 0 0] 25 (0, 0)) ∧ wr.heap[w.heap.size + 1 + 1]? = some (.cells #[.int .i64 x0, .int .i64 x1, .string x2, .slice Av x3.length cv, vv] 25 (0, 0)) ∧ Kd.string.R 9 wr w.heap.size (fun b => w.heap.size ≤ b) (.slice Av x3.length cv) x3 ∧ k25.R 25 wr w.heap.size (fun b => w.heap.size + 3 ≤ b) vv (x4.take j) ∧ Below w.heap.size w wr) (fun u _ => x4.length - (intOf u).toNat)
  case atStart =>
    refine ⟨0, .slice none 0 0, Nat.zero_le _, rfl, ?_, ?_, ?_, HR3.out, Kd.R_nil _ _ _ _ _, ?_⟩
    · exact blk_far (blk_far HB0.out (by show w.heap.size ≠ w.heap.size + 1 + 1; omega) _) (by show w.heap.size ≠ w.heap.size + 1 + 1; omega) _
    · exact blk_far (blk_far HB1'.out (by show w.heap.size + 1 ≠ w.heap.size + 1 + 1; omega) _) (by show w.heap.size + 1 ≠ w.heap.size + 1 + 1; omega) _
    · exact (blk_set (blk_set HB2.out 3 _) 4 _).trans rfl
    · exact below_set (below_set HB1.out (by omega)) (by omega)
  case round =>
    obtain ⟨j, vv, hj, rfl, B0, B1, B2, hr3, hr4, hB⟩ := hrel
    obtain ⟨Aw, cw, rfl⟩ := Kd.R_slice hr4
    have htl : (x4.take j).length = j := by simp; omega
    rw [htl] at hr4 B2
    clear htl
    have f0 : wr.cell? ⟨w.heap.size, 4, none⟩ = some (.slice A4 x4.length c4) := (blk_cell B0 4).trans rfl
    have HR3' := Lib.hid hr3; clear hr3
    have HR4 := Lib.hid hr4; clear hr4
    have HB := Lib.hid hB; clear hB
    clear HR3 HB0 HB2 HB1
    by_cases hlt : j < x4.length
    · have hji : (j : Int) < (x4.length : Int) := by omega
      obtain ⟨y, hy⟩ : ∃ y, x4[j]? = some y := ⟨_, List.getElem?_eq_getElem hlt⟩
      obtain ⟨b, o, B3, d3, B4, d4, rfl, hb, e0, e1, e2, e3, e4, hR⟩ := item_of HRD.out.g4 rfl j y hy
      replace e0 := (HB.out.cell (World.block_lt_of_cell? w _ e0)).trans e0
      replace e1 := (HB.out.cell (World.block_lt_of_cell? w _ e1)).trans e1
      replace e2 := (HB.out.cell (World.block_lt_of_cell? w _ e2)).trans e2
      replace e3 := (HB.out.cell (World.block_lt_of_cell? w _ e3)).trans e3
      replace e4 := (HB.out.cell (World.block_lt_of_cell? w _ e4)).trans e4
      have f5 : wr.cell? ⟨w.heap.size + 1 + 1, 4, none⟩ = some (.slice Aw j cw) := (blk_cell B2 4).trans rfl
      have hcall := fun W (hbW : Below w.heap.size w W) => HI.out y B3 d3 B4 d4 W (HIT.out y (List.mem_of_getElem? hy)) (hR.below hbW)
      have hlt4 : w.heap.size + 1 + 1 < wr.heap.size := blk_lt B2
      obtain ⟨y0, y1, y2, y3, y4⟩ := y
      have hcw := hcall wr.drew (HB.out.drew)
      have hj4 : x4[j]? = some ⟨y0, y1, y2, y3, y4⟩ := hy
      have HJ4 := Lib.hid hj4; clear hj4
      clear hcall hR hy
      have hok : ∀ k, Value.ownBlock (.slice Aw j cw) = some k → w.heap.size + 3 ≤ k ∧ k < wr.heap.size := fun k hk => ⟨HR4.out.1 k hk, (Kd.R_bound HR4.out).1 k hk |>.2.2.1⟩
      have hne : ∀ k, k < w.heap.size + 3 → some k ≠ Value.ownBlock (.slice Aw j cw) := fun k hk e => by have := (hok k e.symm).1; omega
      have HNE := Lib.hid hne; clear hne
      have hokp : ∀ k, wr.heap.size ≤ k → w.heap.size + 3 ≤ k ∧ some k ≠ Value.ownBlock (.slice Aw j cw) := fun k hk => ⟨by omega, fun e => by have := (hok k e.symm).2; omega⟩
      have HOK := Lib.hid hokp; clear hokp hok
      have hlt0 : w.heap.size < wr.heap.size := by omega
      have HSZ := Lib.hid HB.out.size
      have HSZ2 := Lib.hid hlt4
      have HSZ0 := Lib.hid hlt0
      clear hlt0
      have HK0 := Lib.hid B0; clear B0
      have HK1 := Lib.hid B1; clear B1
      have HK2 := Lib.hid B2; clear B2
      go_upto_region 7 with fail
      refine start_ (n := 12) (S := fun w' => w'.cell? ⟨w.heap.size + 1 + 1, 4, none⟩ = some (.slice Aw j cw) ∧ w'.cell? ⟨w.heap.size, 4, none⟩ = some (.slice (some ⟨b, o, none⟩) x4.length c4) ∧ w'.cell? ⟨b, o + j * 5, none⟩ = some (.int .i64 y0) ∧ w'.cell? ⟨b, o + j * 5 + 1, none⟩ = some (.int .i64 y1) ∧ w'.cell? ⟨b, o + j * 5 + 2, none⟩ = some (.string y2) ∧ w'.cell? ⟨b, o + j * 5 + 3, none⟩ = some (.slice B3 y3.length d3) ∧ w'.cell? ⟨b, o + j * 5 + 4, none⟩ = some (.slice B4 y4.length d4)) (ds := [9, 11]) #[false, false, false, false, false, false, false, false, false, false, false, false] (by kernel_rfl) rfl rfl ⟨f5, f0, e0, e1, e2, e3, e4⟩ (fun hHeld => ?_)
      refine pure_ (i := 0) (N := some 18) (v := ?_) (a' := ?_) #[true, false, false, false, false, false, false, false, false, false, false, false] rfl rfl (by kernel_rfl) (fun _ _ _ h => h) (Or.inl ⟨by rfl, ?_⟩) ?_ ?_
      rotate_left
      · intro w'
        go_simp
        with_reducible rfl
      rotate_left
      · simp only [Act.put, List.setIfInBounds_toArray, List.set_cons_zero, List.set_cons_succ]
        rfl
      refine pure_ (i := 2) (N := some 20) (v := ?_) (a' := ?_) #[true, false, true, false, false, false, false, false, false, false, false, false] rfl rfl (by kernel_rfl) (fun _ _ _ h => h) (Or.inl ⟨by rfl, ?_⟩) ?_ ?_
      rotate_left
      · intro w'
        go_simp
        with_reducible rfl
      rotate_left
      · simp only [Act.put, List.setIfInBounds_toArray, List.set_cons_zero, List.set_cons_succ]
        rfl
      refine pure_ (i := 4) (N := some 22) (v := ?_) (a' := ?_) #[true, false, true, false, true, false, false, false, false, false, false, false] rfl rfl (by kernel_rfl) (fun _ _ _ h => h) (Or.inl ⟨by rfl, ?_⟩) ?_ ?_
      rotate_left
      · intro w'
        go_simp
        with_reducible rfl
      rotate_left
      · simp only [Act.put, List.setIfInBounds_toArray, List.set_cons_zero, List.set_cons_succ]
        rfl
      refine take_ (i := 1) (N := some 19) (v := ?_) (a' := ?_) #[true, true, true, false, true, false, false, false, false, false, false, false] rfl rfl (by kernel_rfl) (fun _ _ _ h => h) (Or.inl ⟨by rfl, ?_⟩) hHeld ?_ ?_
      rotate_left
      · rintro w' ⟨s0, s1, s2, s3, s4, s5, s6⟩
        go_simp
        with_reducible rfl
      rotate_left
      · simp only [Act.put, List.setIfInBounds_toArray, List.set_cons_zero, List.set_cons_succ]
        rfl
      refine take_ (i := 3) (N := some 21) (v := ?_) (a' := ?_) #[true, true, true, true, true, false, false, false, false, false, false, false] rfl rfl (by kernel_rfl) (fun _ _ _ h => h) (Or.inl ⟨by rfl, ?_⟩) hHeld ?_ ?_
      rotate_left
      · rintro w' ⟨s0, s1, s2, s3, s4, s5, s6⟩
        go_simp
        with_reducible rfl
      rotate_left
      · simp only [Act.put, List.setIfInBounds_toArray, List.set_cons_zero, List.set_cons_succ]
        rfl
      refine pure_ (i := 5) (N := some 23) (v := ?_) (a' := ?_) #[true, true, true, true, true, true, false, false, false, false, false, false] rfl rfl (by kernel_rfl) (fun _ _ _ h => h) (Or.inl ⟨by rfl, ?_⟩) ?_ ?_
      rotate_left
      · intro w'
        go_simp
        with_reducible rfl
      rotate_left
      · simp only [Act.put, List.setIfInBounds_toArray, List.set_cons_zero, List.set_cons_succ]
        rfl
      refine take_ (i := 6) (N := some 24) (v := ?_) (a' := ?_) #[true, true, true, true, true, true, true, false, false, false, false, false] rfl rfl (by kernel_rfl) (fun _ _ _ h => h) (Or.inl ⟨by rfl, ?_⟩) hHeld ?_ ?_
      rotate_left
      · rintro w' ⟨s0, s1, s2, s3, s4, s5, s6⟩
        go_simp
        with_reducible rfl
      rotate_left
      · simp only [Act.put, List.setIfInBounds_toArray, List.set_cons_zero, List.set_cons_succ]
        rfl
      refine one_ (i := 7) (N := some 25) #[true, true, true, true, true, true, true, true, false, false, false, false] rfl rfl (by kernel_rfl) (by decide) (fun K hK => ?_)
      refine goes_ Tryd.func117 (by kernel_rfl) rfl #[.agg #[.int .i64 y0, .int .i64 y1, .string y2, .slice B3 y3.length d3, .slice B4 y4.length d4]] (by rfl) rfl rfl (by simp only [List.map_toArray, List.map_cons, List.map_nil]; rfl) ?_
      with_reducible refine (hcw).mono ?_
      rintro e w2 ⟨u3, u4, rfl, hM, hbc⟩
      refine ⟨_, rfl, ?_⟩
      obtain ⟨t3, t4, ht, g3, g4⟩ := k25_openM hM
      obtain ⟨rfl, rfl⟩ : u3 = t3 ∧ u4 = t4 := by simpa using ht
      obtain ⟨Bu, du, rfl⟩ := Kd.R_slice g3
      obtain ⟨Cu, eu, rfl⟩ := Kd.R_slice g4
      have hbw : Below wr.heap.size wr w2 := (Below.refl _ wr).drew.trans hbc
      have HM := Lib.hid hM
      have HBC := Lib.hid hbw
      clear hM hbc hbw g3 g4 ht
      refine hK.out _ _ ⟨((HBC.out.cell (p := ⟨w.heap.size + 1 + 1, 4, none⟩) HSZ2.out).trans f5), ((HBC.out.cell (p := ⟨w.heap.size, 4, none⟩) HSZ0.out).trans f0), ((HBC.out.cell (World.block_lt_of_cell? wr _ e0)).trans e0), ((HBC.out.cell (World.block_lt_of_cell? wr _ e1)).trans e1), ((HBC.out.cell (World.block_lt_of_cell? wr _ e2)).trans e2), ((HBC.out.cell (World.block_lt_of_cell? wr _ e3)).trans e3), ((HBC.out.cell (World.block_lt_of_cell? wr _ e4)).trans e4)⟩ (fun hHeld => ?_)
      clear hK K
      refine norm_ (a' := ?_) ?_ ?_
      rotate_left
      · show Act.put _ (some 25) _ = _
        simp only [Act.put, List.setIfInBounds_toArray, List.set_cons_zero, List.set_cons_succ]
        rfl
      refine one_ (i := 8) (N := some 26) #[true, true, true, true, true, true, true, true, true, false, false, false] rfl rfl (by kernel_rfl) (by decide) (fun K hK => ?_)
      refine value_ (w1 := ?_) (v := ?_) (by rfl) rfl ?_ ?_
      rotate_left 2
      · go_simp
        constructor
        · rfl
        · rfl
      refine hK.out _ _ ⟨((below_alloc (Below.refl _ w2) _).cell (World.block_lt_of_cell? w2 _ hHeld.1)).trans hHeld.1, ((below_alloc (Below.refl _ w2) _).cell (World.block_lt_of_cell? w2 _ hHeld.2.1)).trans hHeld.2.1, ((below_alloc (Below.refl _ w2) _).cell (World.block_lt_of_cell? w2 _ hHeld.2.2.1)).trans hHeld.2.2.1, ((below_alloc (Below.refl _ w2) _).cell (World.block_lt_of_cell? w2 _ hHeld.2.2.2.1)).trans hHeld.2.2.2.1, ((below_alloc (Below.refl _ w2) _).cell (World.block_lt_of_cell? w2 _ hHeld.2.2.2.2.1)).trans hHeld.2.2.2.2.1, ((below_alloc (Below.refl _ w2) _).cell (World.block_lt_of_cell? w2 _ hHeld.2.2.2.2.2.1)).trans hHeld.2.2.2.2.2.1, ((below_alloc (Below.refl _ w2) _).cell (World.block_lt_of_cell? w2 _ hHeld.2.2.2.2.2.2)).trans hHeld.2.2.2.2.2.2⟩ (fun hHeld => ?_)
      clear hK K
      refine norm_ (a' := ?_) ?_ ?_
      rotate_left
      · show Act.put _ (some 26) _ = _
        simp only [Act.put, List.setIfInBounds_toArray, List.set_cons_zero, List.set_cons_succ]
        rfl
      refine last_ (i := 9) (N := some 27) #[true, true, true, true, true, true, true, true, true, true, false, false] rfl rfl (by kernel_rfl) (by decide) (fun K hK => ?_)
      refine Kd.R_append_step k25 (w0 := w) (W := w2) w.heap.size (by rfl) (.tmp 19) (.tmp 26) 23 25 (.agg #[.int .i64 0, .int .i64 0, .string ⟨#[]⟩, .slice none 0 0, .slice none 0 0]) 80 rfl Tryd.underlying23 info25 rfl (by decide) (by decide) (.slice Aw j cw) (x4.take j) ⟨y0, y1, y2, y3, y4⟩ [.int .i64 y0, .int .i64 y1, .string y2, .slice Bu y3.length du, .slice Cu y4.length eu] (fun b => w.heap.size + 3 ≤ b) (fun b => wr.heap.size ≤ b) (by rfl) (by rfl) (k25.M_lower HSZ.out HM.out) HOK.out (fun k hk => by have h1 := HSZ2.out; have h2 := HBC.out.size; omega) (Kd.R_below HR4.out HBC.out) (HB.out.trans (HBC.out.mono HB.out.size)) (by have h1 := HB.out.size; have h2 := HBC.out.size; omega) (by have h1 := List.length_take_le j x4; omega) ?_
      intro v1 w3 hR4 hB3 hG3 hAt3
      obtain ⟨Aq, cq, rfl⟩ := Kd.R_slice hR4
      have hln : (x4.take j ++ [(⟨y0, y1, y2, y3, y4⟩ : S25)]).length = j + 1 := by simp; omega
      rw [hln] at hR4 ⊢
      clear hln
      have HR4' := Lib.hid hR4
      have HB3 := Lib.hid hB3
      have HG3 := Lib.hid hG3
      have hK3 : w3.heap[w.heap.size + 1 + 1]? = some (.cells #[.int .i64 x0, .int .i64 x1, .string x2, .slice Av x3.length cv, .slice Aw j cw] 25 (0, 0)) := blk_grown (blk_below HK2.out HBC.out) hG3 (HNE.out _ (by omega))
      have HK3 := Lib.hid hK3
      have hs5 : w3.cell? ⟨w.heap.size + 1 + 1, 4, none⟩ = some (.slice Aw j cw) := (blk_cell hK3 4).trans rfl
      have hz5 := blk_frozen hK3 4
      clear hR4 hB3 hG3 hAt3 hK3
      refine hK.out _ _ ?_
      clear hK K
      refine norm_ (a' := ?_) ?_ ?_
      rotate_left
      · show Act.put _ (some 27) _ = _
        simp only [Act.put, List.setIfInBounds_toArray, List.set_cons_zero, List.set_cons_succ]
        rfl
      refine pure_ (i := 10) (N := some 28) (v := ?_) (a' := ?_) #[true, true, true, true, true, true, true, true, true, true, true, false] rfl rfl (by kernel_rfl) (fun _ _ _ h => h) (Or.inl ⟨by rfl, ?_⟩) ?_ ?_
      rotate_left
      · intro w'
        go_simp
        with_reducible rfl
      rotate_left
      · simp only [Act.put, List.setIfInBounds_toArray, List.set_cons_zero, List.set_cons_succ]
        rfl
      refine last_ (i := 11) (N := none) #[true, true, true, true, true, true, true, true, true, true, true, true] rfl rfl (by kernel_rfl) (by decide) (fun K hK => ?_)
      refine skip_ (w1 := ?_) (by rfl) rfl ?_ ?_
      rotate_left
      · go_simp
        rfl
      refine hK.out _ _ ?_
      clear hK K
      refine done_ (by kernel_rfl) ?_

      clear e0 e1 e2 e3 e4 f0 f5 hs5 hz5 hcw
      go_wp2_with fail
      go_roundw
      case rel =>
        have hM9 := Kd.M_over (Kd.M_below (Kd.M_row HR3'.out) HBC.out) (Kd.R_below HR4.out HBC.out) (by decide) HG3.out
        obtain ⟨v9, hv9, hR9⟩ := hM9
        obtain rfl : Value.slice Av x3.length cv = v9 := by simpa using hv9
        refine ⟨j + 1, .slice Aq (j + 1) cq, by omega, by go_num, ?_, ?_, ?_, ?_, ?_, ?_⟩
        · exact blk_far (blk_grown (blk_below HK0.out HBC.out) HG3.out (HNE.out _ (by omega))) (by show w.heap.size ≠ w.heap.size + 1 + 1; omega) _
        · exact blk_far (blk_grown (blk_below HK1.out HBC.out) HG3.out (HNE.out _ (by omega))) (by show w.heap.size + 1 ≠ w.heap.size + 1 + 1; omega) _
        · exact (blk_set HK3.out 4 _).trans rfl
        · exact Kd.R_set hR9 HK3.out (by decide) 4 _
        · rw [List.take_succ_eq_append_getElem hlt, (List.getElem?_eq_some_iff.1 HJ4.out).2]
          exact Kd.R_far HR4'.out (p := ⟨w.heap.size + 1 + 1, 4, none⟩) (fun k hk => by show k ≠ w.heap.size + 1 + 1; omega) _
        · exact below_set HB3.out (by omega)
      case measure => simp [intOf]; omega
    · have hnl : ¬ (j : Int) < (x4.length : Int) := by omega
      have p0 : wr.cell? ⟨w.heap.size + 1 + 1, 0, none⟩ = some (.int .i64 x0) := (blk_cell B2 0).trans rfl
      have p1 : wr.cell? ⟨w.heap.size + 1 + 1, 1, none⟩ = some (.int .i64 x1) := (blk_cell B2 1).trans rfl
      have p2 : wr.cell? ⟨w.heap.size + 1 + 1, 2, none⟩ = some (.string x2) := (blk_cell B2 2).trans rfl
      have p3 : wr.cell? ⟨w.heap.size + 1 + 1, 3, none⟩ = some (.slice Av x3.length cv) := (blk_cell B2 3).trans rfl
      have p4 : wr.cell? ⟨w.heap.size + 1 + 1, 4, none⟩ = some (.slice Aw j cw) := (blk_cell B2 4).trans rfl
      have q0 : wr.cell? ⟨w.heap.size + 1, 0, none⟩ = some (.int .i64 0) := (blk_cell B1 0).trans rfl
      have q1 : wr.cell? ⟨w.heap.size + 1, 1, none⟩ = some (.int .i64 0) := (blk_cell B1 1).trans rfl
      have q2 : wr.cell? ⟨w.heap.size + 1, 2, none⟩ = some (.string ⟨#[]⟩) := (blk_cell B1 2).trans rfl
      have q3 : wr.cell? ⟨w.heap.size + 1, 3, none⟩ = some (.slice none 0 0) := (blk_cell B1 3).trans rfl
      have q4 : wr.cell? ⟨w.heap.size + 1, 4, none⟩ = some (.slice none 0 0) := (blk_cell B1 4).trans rfl
      have z0 := blk_frozen B1 0
      have z1 := blk_frozen B1 1
      have z2' := z2; clear z2
      have z4' := z4; clear z4
      have z2 := blk_frozen B1 2
      have z3 := blk_frozen B1 3
      have z4 := blk_frozen B1 4
      obtain rfl : j = x4.length := by omega
      have g4 : k25.R 25 wr w.heap.size (fun b => w.heap.size + 3 ≤ b) (.slice Aw x4.length cw) x4 := by
        have := HR4.out
        rw [List.take_length] at this
        exact this
      have HG4 := Lib.hid g4; clear g4
      have g3 : Kd.string.R 9 wr w.heap.size (fun b => w.heap.size ≤ b ∧ b ≠ w.heap.size + 1) (.slice Av x3.length cv) x3 := Kd.R_types HR3'.out B1 (by decide)
      have HG3 := Lib.hid g3; clear g3
      have hlt1 : w.heap.size ≤ w.heap.size + 1 := by omega
      clear HR3' HR4 HRD HB1' HIT HI hl3 hl4 f2 f5 z2' z4' hz
      go_wp2_with fail
      refine bodyPost_ret (v := .agg #[.int .i64 x0, .int .i64 x1, .string x2, .slice Av x3.length cv, .slice Aw x4.length cw]) ?_ rfl ?_
      · simp [results, Tryd.results117, go_sem, q0, q1, q2, q3, q4]
      refine ⟨_, _, rfl, ?_, ?_⟩
      · exact k25_mkM _ _ _ ⟨x0, x1, x2, x3, x4⟩ (Kd.R_mono (far5 HG3.out (fun k hk => hk.2) _ _ _ _ _) (fun k hk => hk.1)) (Kd.R_mono (far5 HG4.out (fun k hk => by omega) _ _ _ _ _) (fun k hk => by omega))
      · exact below_set (below_set (below_set (below_set (below_set HB.out hlt1) hlt1) hlt1) hlt1) hlt1

theorem own_any : ∀ k, OwnAt k
  | 0 => fun x A3 c3 A4 c4 w hf _ => by unfold formedJ at hf; cases hf
  | k + 1 => own_step k (own_any k)

end Go.Proofs.YtehdnjegipcpfaaDoor
