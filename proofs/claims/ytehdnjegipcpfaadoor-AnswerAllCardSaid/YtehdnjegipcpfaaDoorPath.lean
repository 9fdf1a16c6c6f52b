/-
  Documents and orders as the reference has them: what plainDocs comes to.
  The contract of path.own at formed values: a value in new memory; no other condition. Plain laws: what stands at a path of a value, whether a test passes, whether a filter holds; no condition. The contract of path.Get at formed values, under utf8's tables.
-/
import Derived.Test.YtehdnjegipcpfaaDoorAnsg
import Derived.Test.YtehdnjegipcpfaaDoorAx1
import Derived.Test.YtehdnjegipcpfaaDoorBase
import Derived.Test.YtehdnjegipcpfaaDoorOrd
import Derived.Deep.QuietTactic
import Derived.Deep.DeepCutAuto
import Derived.Deep.RegionHeld3
import Derived.Deep.RegionWith
import Derived.BigQuiet
namespace Go.Proofs.YtehdnjegipcpfaaDoor
open Go.RowKit Go.Proofs.YtehdnjegipcpfaaDoorW.PrintWords Go.Proofs.YtehdnjegipcpfaaDoorW.PrintLast Go.Proofs.YtehdnjegipcpfaaDoorW.PrintMore
open PFilterHolds PAns Go.Shelf
def s83 (o : S84) : S83 := ⟨o.f0, o.f1⟩
def s72 (d : S42) : S72 := ⟨d.f0, d.f1⟩
theorem wrap_succ {j : Nat} (h : j < 1000) : wrap64 ((j : Int) + 1) = ((j + 1 : Nat) : Int) := by
  unfold wrap64
  omega
theorem docs_l0 (l : List S42) (hl : l.length ≤ 40) : ∀ (d j k : Nat) (acc : List S72), d + j = l.length → d < k → acc.length ≤ j → munimentlaw16_plainDocs.l0 k l acc (j : Int) = some (acc ++ (l.drop j).map s72)
  | 0, j, k + 1, acc, h1, _, _ => by
    unfold munimentlaw16_plainDocs.l0
    rw [if_neg (by omega), List.drop_eq_nil_of_le (by omega)]
    simp
  | d + 1, j, k + 1, acc, h1, h2, h3 => by
    unfold munimentlaw16_plainDocs.l0
    have hj : j < l.length := by omega
    rw [if_pos (by omega), if_pos (by omega), if_pos (by omega), wrap_succ (by omega), docs_l0 l hl d (j + 1) k _ (by omega) (by omega) (by simp; omega), List.drop_eq_getElem_cons hj, List.map_cons, List.append_assoc]
    have : rd_T42 l (j : Int) = l[j] := by unfold rd_T42; simp [hj]
    rw [this, List.singleton_append]
    have e : s72 l[j] = (⟨l[j].f0, ⟨l[j].f1.f0, l[j].f1.f1, l[j].f1.f2, l[j].f1.f3, l[j].f1.f4⟩⟩ : S72) := by unfold s72; cases l[j].f1; rfl
    rw [e]
theorem docs_f (l : List S42) (hl : l.length ≤ 40) (k : Nat) (hk : l.length < k) : munimentlaw16_plainDocs.f k l = some (l.map s72) := by
  unfold munimentlaw16_plainDocs.f
  have := docs_l0 l hl l.length 0 k [] (by omega) hk (Nat.zero_le _)
  simpa using this
end Go.Proofs.YtehdnjegipcpfaaDoor

namespace Go.Proofs.YtehdnjegipcpfaaDoor
open Go.RowKit Go.Proofs.YtehdnjegipcpfaaDoorW.PrintWords Go.Proofs.YtehdnjegipcpfaaDoorW.PrintLast Go.Proofs.YtehdnjegipcpfaaDoorW.PrintMore
open PFilterHolds Go.Shelf
theorem info25 : (Tryd.prog.info? 25).map (fun i => (i.zero, i.size, i.bytes)) = some (some (.agg #[.int .i64 0, .int .i64 0, .string ⟨#[]⟩, .slice none 0 0, .slice none 0 0]), 5, 80) := by kernel_rfl
theorem info9' : (Tryd.prog.info? 9).map (fun i => (i.zero, i.size, i.bytes)) = some (some (.string ⟨#[]⟩), 1, 16) := by kernel_rfl
def OwnEnd (w : World) (x : S25) (e : Ending) (w' : World) : Prop :=
  ∃ v3 v4, e = .returned (.agg #[.int .i64 x.f0, .int .i64 x.f1, .string x.f2, v3, v4]) ∧ k25.M w' w.heap.size (fun b => w.heap.size ≤ b) x [.int .i64 x.f0, .int .i64 x.f1, .string x.f2, v3, v4] ∧ Below w.heap.size w w'
def OwnAt (k : Nat) : Prop := ∀ (x : S25) (A3 : Option Addr) (c3 : Nat) (A4 : Option Addr) (c4 : Nat) (w : World), formedJ k x = true → Rd w A3 c3 A4 c4 x →
    Calls Tryd.prog 117 #[av x A3 c3 A4 c4] w (OwnEnd w x)
theorem far5 {α : Type} {d : Kd α} {e base g : Nat} {ok : Nat → Prop} {w : World} {v : Value} {xs : List α} (h : d.R e w base ok v xs) (hok : ∀ k, ok k → k ≠ g) (u0 u1 u2 u3 u4 : Value) :
    d.R e (((((w.setCell ⟨g, 0, none⟩ u0).setCell ⟨g, 1, none⟩ u1).setCell ⟨g, 2, none⟩ u2).setCell ⟨g, 3, none⟩ u3).setCell ⟨g, 4, none⟩ u4) base ok v xs :=
  Kd.R_far (Kd.R_far (Kd.R_far (Kd.R_far (Kd.R_far h hok _) hok _) hok _) hok _) hok _
set_option maxRecDepth 100000 in
set_option maxHeartbeats 4000000 in
theorem own_step (k : Nat) (ih : OwnAt k) : OwnAt (k + 1) := by
  intro x A3 c3 A4 c4 w hf h
  obtain ⟨hl3, hl4⟩ : x.f3.length ≤ 24 ∧ x.f4.length ≤ 24 := ⟨(formed_parts hf).1, (formed_parts hf).2.1⟩
  have hit := (formed_parts hf).2.2.1
  have HI := Lib.hid ih; clear ih
  have HIT := Lib.hid hit; clear hit
  have HRD := Lib.hid h; clear h
  clear hf
  obtain ⟨x0, x1, x2, x3, x4⟩ := x
  simp only at hl3 hl4
  go_enter Tryd.func117, Tryd.ntmps117
  go_wp2_with (first
    | (at_builtin; refine Kd.R_append_row (h1 := fun _ => rfl) (w0 := w) Value.string ByteArray.empty w.heap.size rfl _ _ 22 9 (.string ⟨#[]⟩) 16 rfl Tryd.underlying22 info9' rfl (by decide) (.slice none 0 0) [] x3 A3 x3.length c3 (fun b => w.heap.size ≤ b) rfl rfl ?a1 (Kd.R_nil _ _ _ _ _) ?a2 ?a3 ?a4 ?a5 ?a6)
    | go_in)
  case a1 => exact fun k hk => by omega
  case a2 => exact Kd.C_below HRD.out.g3 (by repeat (first | exact Below.refl _ _ | apply below_alloc))
  case a3 => repeat (first | exact Below.refl _ _ | apply below_alloc)
  case a4 => omega
  case a5 => omega
  intro v3 w1 hr3 hb1 hg1 hat1
  obtain ⟨Av, cv, rfl⟩ := Kd.R_slice hr3
  have B0 : w1.heap[w.heap.size]? = some (.cells #[.int .i64 x0, .int .i64 x1, .string x2, .slice A3 x3.length c3, .slice A4 x4.length c4] 25 (0, 0)) := (hg1.block _ (by simp; omega) (fun e => by simp [Value.ownBlock] at e)).trans (blk_alloc (blk_alloc (new_blk w _) _) _)
  have B1 : w1.heap[w.heap.size + 1]? = some (.cells #[.int .i64 0, .int .i64 0, .string ⟨#[]⟩, .slice none 0 0, .slice none 0 0] 25 (0, 0)) := (hg1.block _ (by simp) (fun e => by simp [Value.ownBlock] at e)).trans (blk_alloc (by
    have := new_blk (w.alloc (.cells #[.int .i64 x0, .int .i64 x1, .string x2, .slice A3 x3.length c3, .slice A4 x4.length c4] 25)) (.cells #[.int .i64 0, .int .i64 0, .string ⟨#[]⟩, .slice none 0 0, .slice none 0 0] 25)
    simpa using this) _)
  have B2 : w1.heap[w.heap.size + 1 + 1]? = some (.cells #[.int .i64 x0, .int .i64 x1, .string x2, .slice A3 x3.length c3, .slice A4 x4.length c4] 25 (0, 0)) := (hg1.block _ (by simp) (fun e => by simp [Value.ownBlock] at e)).trans (by
    have := new_blk ((w.alloc (.cells #[.int .i64 x0, .int .i64 x1, .string x2, .slice A3 x3.length c3, .slice A4 x4.length c4] 25)).alloc (.cells #[.int .i64 0, .int .i64 0, .string ⟨#[]⟩, .slice none 0 0, .slice none 0 0] 25)) (.cells #[.int .i64 x0, .int .i64 x1, .string x2, .slice A3 x3.length c3, .slice A4 x4.length c4] 25)
    simpa using this)
  have f2 : w1.cell? ⟨w.heap.size + 1 + 1, 3, none⟩ = some (.slice A3 x3.length c3) := (blk_cell B2 3).trans rfl
  have f5 : w1.cell? ⟨w.heap.size + 1 + 1, 4, none⟩ = some (.slice A4 x4.length c4) := (blk_cell B2 4).trans rfl
  have z2 := blk_frozen B2 3
  have z4 := blk_frozen B2 4
  have hz : w.heap.size + 1 + 1 + 1 ≤ w1.heap.size := by have := hg1.size; simpa using this
  have hr3' := Kd.R_set (Kd.R_set hr3 B2 (by decide) 3 (.slice Av x3.length cv)) (blk_set B2 3 (.slice Av x3.length cv)) (by decide) 4 (.slice none 0 0)
  have HR3 := Lib.hid hr3'; clear hr3'
  have HB0 := Lib.hid B0; clear B0
  have HB2 := Lib.hid B2; clear B2
  have HB1' := Lib.hid B1; clear B1
  have HB1 := Lib.hid hb1; clear hb1
  clear hg1 hat1 hr3
  go_wp2_with fail
  go_loopw [4] (fun u wr => ∃ (j : Nat) (vv : Value), j ≤ x4.length ∧ u = .int .i64 j ∧ wr.heap[w.heap.size]? = some (.cells #[.int .i64 x0, .int .i64 x1, .string x2, .slice A3 x3.length c3, .slice A4 x4.length c4] 25 (0, 0)) ∧ wr.heap[w.heap.size + 1]? = some (.cells #[.int .i64 0, .int .i64 0, .string ⟨#[]⟩, .slice none 0 0, .slice none 0 0] 25 (0, 0)) ∧ wr.heap[w.heap.size + 1 + 1]? = some (.cells #[.int .i64 x0, .int .i64 x1, .string x2, .slice Av x3.length cv, vv] 25 (0, 0)) ∧ Kd.string.R 9 wr w.heap.size (fun b => w.heap.size ≤ b) (.slice Av x3.length cv) x3 ∧ k25.R 25 wr w.heap.size (fun b => w.heap.size + 3 ≤ b) vv (x4.take j) ∧ Below w.heap.size w wr) (fun u _ => x4.length - (intOf u).toNat)
  case atStart =>
    refine ⟨0, .slice none 0 0, Nat.zero_le _, rfl, ?_, ?_, ?_, HR3.out, Kd.R_nil _ _ _ _ _, ?_⟩
    · exact blk_far (blk_far HB0.out (by show w.heap.size ≠ w.heap.size + 1 + 1; omega) _) (by show w.heap.size ≠ w.heap.size + 1 + 1; omega) _
    · exact blk_far (blk_far HB1'.out (by show w.heap.size + 1 ≠ w.heap.size + 1 + 1; omega) _) (by show w.heap.size + 1 ≠ w.heap.size + 1 + 1; omega) _
    · exact (blk_set (blk_set HB2.out 3 _) 4 _).trans rfl
    · exact below_set (below_set HB1.out (by omega)) (by omega)
  case round =>
    obtain ⟨j, vv, hj, rfl, B0, B1, B2, hr3, hr4, hB⟩ := hrel
    obtain ⟨Aw, cw, rfl⟩ := Kd.R_slice hr4
    have htl : (x4.take j).length = j := by simp; omega
    rw [htl] at hr4 B2
    clear htl
    have f0 : wr.cell? ⟨w.heap.size, 4, none⟩ = some (.slice A4 x4.length c4) := (blk_cell B0 4).trans rfl
    have HR3' := Lib.hid hr3; clear hr3
    have HR4 := Lib.hid hr4; clear hr4
    have HB := Lib.hid hB; clear hB
    clear HR3 HB0 HB2 HB1
    by_cases hlt : j < x4.length
    · have hji : (j : Int) < (x4.length : Int) := by omega
      obtain ⟨y, hy⟩ : ∃ y, x4[j]? = some y := ⟨_, List.getElem?_eq_getElem hlt⟩
      obtain ⟨b, o, B3, d3, B4, d4, rfl, hb, e0, e1, e2, e3, e4, hR⟩ := item_of HRD.out.g4 rfl j y hy
      replace e0 := (HB.out.cell (World.block_lt_of_cell? w _ e0)).trans e0
      replace e1 := (HB.out.cell (World.block_lt_of_cell? w _ e1)).trans e1
      replace e2 := (HB.out.cell (World.block_lt_of_cell? w _ e2)).trans e2
      replace e3 := (HB.out.cell (World.block_lt_of_cell? w _ e3)).trans e3
      replace e4 := (HB.out.cell (World.block_lt_of_cell? w _ e4)).trans e4
      have f5 : wr.cell? ⟨w.heap.size + 1 + 1, 4, none⟩ = some (.slice Aw j cw) := (blk_cell B2 4).trans rfl
      have hcall := fun W (hbW : Below w.heap.size w W) => HI.out y B3 d3 B4 d4 W (HIT.out y (List.mem_of_getElem? hy)) (hR.below hbW)
      have hlt4 : w.heap.size + 1 + 1 < wr.heap.size := blk_lt B2
      obtain ⟨y0, y1, y2, y3, y4⟩ := y
      have hcw := hcall wr.drew (HB.out.drew)
      have hj4 : x4[j]? = some ⟨y0, y1, y2, y3, y4⟩ := hy
      have HJ4 := Lib.hid hj4; clear hj4
      clear hcall hR hy
      have hok : ∀ k, Value.ownBlock (.slice Aw j cw) = some k → w.heap.size + 3 ≤ k ∧ k < wr.heap.size := fun k hk => ⟨HR4.out.1 k hk, (Kd.R_bound HR4.out).1 k hk |>.2.2.1⟩
      have hne : ∀ k, k < w.heap.size + 3 → some k ≠ Value.ownBlock (.slice Aw j cw) := fun k hk e => by have := (hok k e.symm).1; omega
      have HNE := Lib.hid hne; clear hne
      have hokp : ∀ k, wr.heap.size ≤ k → w.heap.size + 3 ≤ k ∧ some k ≠ Value.ownBlock (.slice Aw j cw) := fun k hk => ⟨by omega, fun e => by have := (hok k e.symm).2; omega⟩
      have HOK := Lib.hid hokp; clear hokp hok
      have hlt0 : w.heap.size < wr.heap.size := by omega
      have HSZ := Lib.hid HB.out.size
      have HSZ2 := Lib.hid hlt4
      have HSZ0 := Lib.hid hlt0
      clear hlt0
      have HK0 := Lib.hid B0; clear B0
      have HK1 := Lib.hid B1; clear B1
      have HK2 := Lib.hid B2; clear B2
      go_upto_region 7 with fail
      refine start_ (n := 12) (S := fun w' => w'.cell? ⟨w.heap.size + 1 + 1, 4, none⟩ = some (.slice Aw j cw) ∧ w'.cell? ⟨w.heap.size, 4, none⟩ = some (.slice (some ⟨b, o, none⟩) x4.length c4) ∧ w'.cell? ⟨b, o + j * 5, none⟩ = some (.int .i64 y0) ∧ w'.cell? ⟨b, o + j * 5 + 1, none⟩ = some (.int .i64 y1) ∧ w'.cell? ⟨b, o + j * 5 + 2, none⟩ = some (.string y2) ∧ w'.cell? ⟨b, o + j * 5 + 3, none⟩ = some (.slice B3 y3.length d3) ∧ w'.cell? ⟨b, o + j * 5 + 4, none⟩ = some (.slice B4 y4.length d4)) (ds := [9, 11]) #[false, false, false, false, false, false, false, false, false, false, false, false] (by kernel_rfl) rfl rfl ⟨f5, f0, e0, e1, e2, e3, e4⟩ (fun hHeld => ?_)
      refine pure_ (i := 0) (N := some 18) (v := ?_) (a' := ?_) #[true, false, false, false, false, false, false, false, false, false, false, false] rfl rfl (by kernel_rfl) (fun _ _ _ h => h) (Or.inl ⟨by rfl, ?_⟩) ?_ ?_
      rotate_left
      · intro w'
        go_simp
        with_reducible rfl
      rotate_left
      · simp only [Act.put, List.setIfInBounds_toArray, List.set_cons_zero, List.set_cons_succ]
        rfl
      refine pure_ (i := 2) (N := some 20) (v := ?_) (a' := ?_) #[true, false, true, false, false, false, false, false, false, false, false, false] rfl rfl (by kernel_rfl) (fun _ _ _ h => h) (Or.inl ⟨by rfl, ?_⟩) ?_ ?_
      rotate_left
      · intro w'
        go_simp
        with_reducible rfl
      rotate_left
      · simp only [Act.put, List.setIfInBounds_toArray, List.set_cons_zero, List.set_cons_succ]
        rfl
      refine pure_ (i := 4) (N := some 22) (v := ?_) (a' := ?_) #[true, false, true, false, true, false, false, false, false, false, false, false] rfl rfl (by kernel_rfl) (fun _ _ _ h => h) (Or.inl ⟨by rfl, ?_⟩) ?_ ?_
      rotate_left
      · intro w'
        go_simp
        with_reducible rfl
      rotate_left
      · simp only [Act.put, List.setIfInBounds_toArray, List.set_cons_zero, List.set_cons_succ]
        rfl
      refine take_ (i := 1) (N := some 19) (v := ?_) (a' := ?_) #[true, true, true, false, true, false, false, false, false, false, false, false] rfl rfl (by kernel_rfl) (fun _ _ _ h => h) (Or.inl ⟨by rfl, ?_⟩) hHeld ?_ ?_
      rotate_left
      · rintro w' ⟨s0, s1, s2, s3, s4, s5, s6⟩
        go_simp
        with_reducible rfl
      rotate_left
      · simp only [Act.put, List.setIfInBounds_toArray, List.set_cons_zero, List.set_cons_succ]
        rfl
      refine take_ (i := 3) (N := some 21) (v := ?_) (a' := ?_) #[true, true, true, true, true, false, false, false, false, false, false, false] rfl rfl (by kernel_rfl) (fun _ _ _ h => h) (Or.inl ⟨by rfl, ?_⟩) hHeld ?_ ?_
      rotate_left
      · rintro w' ⟨s0, s1, s2, s3, s4, s5, s6⟩
        go_simp
        with_reducible rfl
      rotate_left
      · simp only [Act.put, List.setIfInBounds_toArray, List.set_cons_zero, List.set_cons_succ]
        rfl
      refine pure_ (i := 5) (N := some 23) (v := ?_) (a' := ?_) #[true, true, true, true, true, true, false, false, false, false, false, false] rfl rfl (by kernel_rfl) (fun _ _ _ h => h) (Or.inl ⟨by rfl, ?_⟩) ?_ ?_
      rotate_left
      · intro w'
        go_simp
        with_reducible rfl
      rotate_left
      · simp only [Act.put, List.setIfInBounds_toArray, List.set_cons_zero, List.set_cons_succ]
        rfl
      refine take_ (i := 6) (N := some 24) (v := ?_) (a' := ?_) #[true, true, true, true, true, true, true, false, false, false, false, false] rfl rfl (by kernel_rfl) (fun _ _ _ h => h) (Or.inl ⟨by rfl, ?_⟩) hHeld ?_ ?_
      rotate_left
      · rintro w' ⟨s0, s1, s2, s3, s4, s5, s6⟩
        go_simp
        with_reducible rfl
      rotate_left
      · simp only [Act.put, List.setIfInBounds_toArray, List.set_cons_zero, List.set_cons_succ]
        rfl
      refine one_ (i := 7) (N := some 25) #[true, true, true, true, true, true, true, true, false, false, false, false] rfl rfl (by kernel_rfl) (by decide) (fun K hK => ?_)
      refine goes_ Tryd.func117 (by kernel_rfl) rfl #[.agg #[.int .i64 y0, .int .i64 y1, .string y2, .slice B3 y3.length d3, .slice B4 y4.length d4]] (by rfl) rfl rfl (by simp only [List.map_toArray, List.map_cons, List.map_nil]; rfl) ?_
      with_reducible refine (hcw).mono ?_
      rintro e w2 ⟨u3, u4, rfl, hM, hbc⟩
      refine ⟨_, rfl, ?_⟩
      obtain ⟨t3, t4, ht, g3, g4⟩ := k25_openM hM
      obtain ⟨rfl, rfl⟩ : u3 = t3 ∧ u4 = t4 := by simpa using ht
      obtain ⟨Bu, du, rfl⟩ := Kd.R_slice g3
      obtain ⟨Cu, eu, rfl⟩ := Kd.R_slice g4
      have hbw : Below wr.heap.size wr w2 := (Below.refl _ wr).drew.trans hbc
      have HM := Lib.hid hM
      have HBC := Lib.hid hbw
      clear hM hbc hbw g3 g4 ht
      refine hK.out _ _ ⟨((HBC.out.cell (p := ⟨w.heap.size + 1 + 1, 4, none⟩) HSZ2.out).trans f5), ((HBC.out.cell (p := ⟨w.heap.size, 4, none⟩) HSZ0.out).trans f0), ((HBC.out.cell (World.block_lt_of_cell? wr _ e0)).trans e0), ((HBC.out.cell (World.block_lt_of_cell? wr _ e1)).trans e1), ((HBC.out.cell (World.block_lt_of_cell? wr _ e2)).trans e2), ((HBC.out.cell (World.block_lt_of_cell? wr _ e3)).trans e3), ((HBC.out.cell (World.block_lt_of_cell? wr _ e4)).trans e4)⟩ (fun hHeld => ?_)
      clear hK K
      refine norm_ (a' := ?_) ?_ ?_
      rotate_left
      · show Act.put _ (some 25) _ = _
        simp only [Act.put, List.setIfInBounds_toArray, List.set_cons_zero, List.set_cons_succ]
        rfl
      refine one_ (i := 8) (N := some 26) #[true, true, true, true, true, true, true, true, true, false, false, false] rfl rfl (by kernel_rfl) (by decide) (fun K hK => ?_)
      refine value_ (w1 := ?_) (v := ?_) (by rfl) rfl ?_ ?_
      rotate_left 2
      · go_simp
        constructor
        · rfl
        · rfl
      refine hK.out _ _ ⟨((below_alloc (Below.refl _ w2) _).cell (World.block_lt_of_cell? w2 _ hHeld.1)).trans hHeld.1, ((below_alloc (Below.refl _ w2) _).cell (World.block_lt_of_cell? w2 _ hHeld.2.1)).trans hHeld.2.1, ((below_alloc (Below.refl _ w2) _).cell (World.block_lt_of_cell? w2 _ hHeld.2.2.1)).trans hHeld.2.2.1, ((below_alloc (Below.refl _ w2) _).cell (World.block_lt_of_cell? w2 _ hHeld.2.2.2.1)).trans hHeld.2.2.2.1, ((below_alloc (Below.refl _ w2) _).cell (World.block_lt_of_cell? w2 _ hHeld.2.2.2.2.1)).trans hHeld.2.2.2.2.1, ((below_alloc (Below.refl _ w2) _).cell (World.block_lt_of_cell? w2 _ hHeld.2.2.2.2.2.1)).trans hHeld.2.2.2.2.2.1, ((below_alloc (Below.refl _ w2) _).cell (World.block_lt_of_cell? w2 _ hHeld.2.2.2.2.2.2)).trans hHeld.2.2.2.2.2.2⟩ (fun hHeld => ?_)
      clear hK K
      refine norm_ (a' := ?_) ?_ ?_
      rotate_left
      · show Act.put _ (some 26) _ = _
        simp only [Act.put, List.setIfInBounds_toArray, List.set_cons_zero, List.set_cons_succ]
        rfl
      refine last_ (i := 9) (N := some 27) #[true, true, true, true, true, true, true, true, true, true, false, false] rfl rfl (by kernel_rfl) (by decide) (fun K hK => ?_)
      refine Kd.R_append_step k25 (w0 := w) (W := w2) w.heap.size (by rfl) (.tmp 19) (.tmp 26) 23 25 (.agg #[.int .i64 0, .int .i64 0, .string ⟨#[]⟩, .slice none 0 0, .slice none 0 0]) 80 rfl Tryd.underlying23 info25 rfl (by decide) (by decide) (.slice Aw j cw) (x4.take j) ⟨y0, y1, y2, y3, y4⟩ [.int .i64 y0, .int .i64 y1, .string y2, .slice Bu y3.length du, .slice Cu y4.length eu] (fun b => w.heap.size + 3 ≤ b) (fun b => wr.heap.size ≤ b) (by rfl) (by rfl) (k25.M_lower HSZ.out HM.out) HOK.out (fun k hk => by have h1 := HSZ2.out; have h2 := HBC.out.size; omega) (Kd.R_below HR4.out HBC.out) (HB.out.trans (HBC.out.mono HB.out.size)) (by have h1 := HB.out.size; have h2 := HBC.out.size; omega) (by have h1 := List.length_take_le j x4; omega) ?_
      intro v1 w3 hR4 hB3 hG3 hAt3
      obtain ⟨Aq, cq, rfl⟩ := Kd.R_slice hR4
      have hln : (x4.take j ++ [(⟨y0, y1, y2, y3, y4⟩ : S25)]).length = j + 1 := by simp; omega
      rw [hln] at hR4 ⊢
      clear hln
      have HR4' := Lib.hid hR4
      have HB3 := Lib.hid hB3
      have HG3 := Lib.hid hG3
      have hK3 : w3.heap[w.heap.size + 1 + 1]? = some (.cells #[.int .i64 x0, .int .i64 x1, .string x2, .slice Av x3.length cv, .slice Aw j cw] 25 (0, 0)) := blk_grown (blk_below HK2.out HBC.out) hG3 (HNE.out _ (by omega))
      have HK3 := Lib.hid hK3
      have hs5 : w3.cell? ⟨w.heap.size + 1 + 1, 4, none⟩ = some (.slice Aw j cw) := (blk_cell hK3 4).trans rfl
      have hz5 := blk_frozen hK3 4
      clear hR4 hB3 hG3 hAt3 hK3
      refine hK.out _ _ ?_
      clear hK K
      refine norm_ (a' := ?_) ?_ ?_
      rotate_left
      · show Act.put _ (some 27) _ = _
        simp only [Act.put, List.setIfInBounds_toArray, List.set_cons_zero, List.set_cons_succ]
        rfl
      refine pure_ (i := 10) (N := some 28) (v := ?_) (a' := ?_) #[true, true, true, true, true, true, true, true, true, true, true, false] rfl rfl (by kernel_rfl) (fun _ _ _ h => h) (Or.inl ⟨by rfl, ?_⟩) ?_ ?_
      rotate_left
      · intro w'
        go_simp
        with_reducible rfl
      rotate_left
      · simp only [Act.put, List.setIfInBounds_toArray, List.set_cons_zero, List.set_cons_succ]
        rfl
      refine last_ (i := 11) (N := none) #[true, true, true, true, true, true, true, true, true, true, true, true] rfl rfl (by kernel_rfl) (by decide) (fun K hK => ?_)
      refine skip_ (w1 := ?_) (by rfl) rfl ?_ ?_
      rotate_left
      · go_simp
        rfl
      refine hK.out _ _ ?_
      clear hK K
      refine done_ (by kernel_rfl) ?_

      clear e0 e1 e2 e3 e4 f0 f5 hs5 hz5 hcw
      go_wp2_with fail
      go_roundw
      case rel =>
        have hM9 := Kd.M_over (Kd.M_below (Kd.M_row HR3'.out) HBC.out) (Kd.R_below HR4.out HBC.out) (by decide) HG3.out
        obtain ⟨v9, hv9, hR9⟩ := hM9
        obtain rfl : Value.slice Av x3.length cv = v9 := by simpa using hv9
        refine ⟨j + 1, .slice Aq (j + 1) cq, by omega, by go_num, ?_, ?_, ?_, ?_, ?_, ?_⟩
        · exact blk_far (blk_grown (blk_below HK0.out HBC.out) HG3.out (HNE.out _ (by omega))) (by show w.heap.size ≠ w.heap.size + 1 + 1; omega) _
        · exact blk_far (blk_grown (blk_below HK1.out HBC.out) HG3.out (HNE.out _ (by omega))) (by show w.heap.size + 1 ≠ w.heap.size + 1 + 1; omega) _
        · exact (blk_set HK3.out 4 _).trans rfl
        · exact Kd.R_set hR9 HK3.out (by decide) 4 _
        · rw [List.take_succ_eq_append_getElem hlt, (List.getElem?_eq_some_iff.1 HJ4.out).2]
          exact Kd.R_far HR4'.out (p := ⟨w.heap.size + 1 + 1, 4, none⟩) (fun k hk => by show k ≠ w.heap.size + 1 + 1; omega) _
        · exact below_set HB3.out (by omega)
      case measure => simp [intOf]; omega
    · have hnl : ¬ (j : Int) < (x4.length : Int) := by omega
      have p0 : wr.cell? ⟨w.heap.size + 1 + 1, 0, none⟩ = some (.int .i64 x0) := (blk_cell B2 0).trans rfl
      have p1 : wr.cell? ⟨w.heap.size + 1 + 1, 1, none⟩ = some (.int .i64 x1) := (blk_cell B2 1).trans rfl
      have p2 : wr.cell? ⟨w.heap.size + 1 + 1, 2, none⟩ = some (.string x2) := (blk_cell B2 2).trans rfl
      have p3 : wr.cell? ⟨w.heap.size + 1 + 1, 3, none⟩ = some (.slice Av x3.length cv) := (blk_cell B2 3).trans rfl
      have p4 : wr.cell? ⟨w.heap.size + 1 + 1, 4, none⟩ = some (.slice Aw j cw) := (blk_cell B2 4).trans rfl
      have q0 : wr.cell? ⟨w.heap.size + 1, 0, none⟩ = some (.int .i64 0) := (blk_cell B1 0).trans rfl
      have q1 : wr.cell? ⟨w.heap.size + 1, 1, none⟩ = some (.int .i64 0) := (blk_cell B1 1).trans rfl
      have q2 : wr.cell? ⟨w.heap.size + 1, 2, none⟩ = some (.string ⟨#[]⟩) := (blk_cell B1 2).trans rfl
      have q3 : wr.cell? ⟨w.heap.size + 1, 3, none⟩ = some (.slice none 0 0) := (blk_cell B1 3).trans rfl
      have q4 : wr.cell? ⟨w.heap.size + 1, 4, none⟩ = some (.slice none 0 0) := (blk_cell B1 4).trans rfl
      have z0 := blk_frozen B1 0
      have z1 := blk_frozen B1 1
      have z2' := z2; clear z2
      have z4' := z4; clear z4
      have z2 := blk_frozen B1 2
      have z3 := blk_frozen B1 3
      have z4 := blk_frozen B1 4
      obtain rfl : j = x4.length := by omega
      have g4 : k25.R 25 wr w.heap.size (fun b => w.heap.size + 3 ≤ b) (.slice Aw x4.length cw) x4 := by
        have := HR4.out
        rw [List.take_length] at this
        exact this
      have HG4 := Lib.hid g4; clear g4
      have g3 : Kd.string.R 9 wr w.heap.size (fun b => w.heap.size ≤ b ∧ b ≠ w.heap.size + 1) (.slice Av x3.length cv) x3 := Kd.R_types HR3'.out B1 (by decide)
      have HG3 := Lib.hid g3; clear g3
      have hlt1 : w.heap.size ≤ w.heap.size + 1 := by omega
      clear HR3' HR4 HRD HB1' HIT HI hl3 hl4 f2 f5 z2' z4' hz
      go_wp2_with fail
      refine bodyPost_ret (v := .agg #[.int .i64 x0, .int .i64 x1, .string x2, .slice Av x3.length cv, .slice Aw x4.length cw]) ?_ rfl ?_
      · simp [results, Tryd.results117, go_sem, q0, q1, q2, q3, q4]
      refine ⟨_, _, rfl, ?_, ?_⟩
      · exact k25_mkM _ _ _ ⟨x0, x1, x2, x3, x4⟩ (Kd.R_mono (far5 HG3.out (fun k hk => hk.2) _ _ _ _ _) (fun k hk => hk.1)) (Kd.R_mono (far5 HG4.out (fun k hk => by omega) _ _ _ _ _) (fun k hk => by omega))
      · exact below_set (below_set (below_set (below_set (below_set HB.out hlt1) hlt1) hlt1) hlt1) hlt1
theorem own_any : ∀ k, OwnAt k
  | 0 => fun x A3 c3 A4 c4 w hf _ => by unfold formedJ at hf; cases hf
  | k + 1 => own_step k (own_any k)
end Go.Proofs.YtehdnjegipcpfaaDoor
namespace Go.Proofs.YtehdnjegipcpfaaDoor
open Go.RowKit Go.Proofs.YtehdnjegipcpfaaDoorW.PrintWords Go.Proofs.YtehdnjegipcpfaaDoorW.PrintLast Go.Proofs.YtehdnjegipcpfaaDoorW.PrintMore
open PFilterHolds Go.Shelf
def walkJ : S25 → List ByteArray → Option S25
  | x, [] => some x
  | x, s :: l => if placeJ x s < 0 then none else walkJ (x.f4.getD (placeJ x s).toNat z25) l
def getJ (x : S25) (p : ByteArray) : Option S25 := (stepsJ vstr p).bind fun l => if fmJ x then walkJ x l else none
theorem nameAt_le (s : ByteArray) (l : List ByteArray) : ∀ d i : Nat, nameAt s l d i = -1 ∨ ((i : Int) ≤ nameAt s l d i ∧ nameAt s l d i < (i : Int) + d)
  | 0, i => .inl rfl
  | d + 1, i => by
    unfold nameAt
    by_cases h : (l.getD i ByteArray.empty).toList = s.toList
    · rw [if_pos h]; exact .inr ⟨by omega, by omega⟩
    · rw [if_neg h]
      rcases nameAt_le s l d (i + 1) with e | ⟨e1, e2⟩
      · exact .inl e
      · exact .inr ⟨by omega, by omega⟩
theorem placeJ_lt {k : Nat} {x : S25} (h : formedJ k x = true) (s : ByteArray) : -1 ≤ placeJ x s ∧ (0 ≤ placeJ x s → placeJ x s < x.f4.length) := by
  have hn := (numJ_tot s).2
  unfold placeJ
  by_cases h5 : x.f0 = 5
  · rw [if_pos h5]
    split <;> omega
  · rw [if_neg h5]
    by_cases h6 : x.f0 = 6
    · rw [if_pos h6]
      have := names_items h h6
      rcases nameAt_le s x.f3 x.f3.length 0 with e | ⟨e1, e2⟩ <;> omega
    · rw [if_neg h6]; omega
theorem item_formed {k : Nat} {x : S25} (h : formedJ k x = true) {i : Nat} (hi : i < x.f4.length) : formedJ k (x.f4.getD i z25) = true := by
  rw [List.getD_eq_getElem?_getD, List.getElem?_eq_getElem hi]
  exact items_formed h _ (List.getElem_mem hi)
theorem walk_formed {k : Nat} : ∀ (l : List ByteArray) (x y : S25), formedJ k x = true → walkJ x l = some y → formedJ k y = true
  | [], x, y, h, e => by unfold walkJ at e; injection e with e; rw [← e]; exact h
  | s :: l, x, y, h, e => by
    unfold walkJ at e
    by_cases hp : placeJ x s < 0
    · rw [if_pos hp] at e; cases e
    · rw [if_neg hp] at e
      have := (placeJ_lt h s).2 (by omega)
      exact walk_formed l _ y (item_formed h (by omega)) e
theorem get_formed {x : S25} {p : ByteArray} {y : S25} (h : getJ x p = some y) : fmJ y = true := by
  unfold getJ at h
  cases hs : stepsJ vstr p with
  | none => rw [hs] at h; cases h
  | some l =>
    rw [hs, Option.bind_some] at h
    cases hf : fmJ x with
    | false => rw [hf, if_neg (by simp)] at h; cases h
    | true => rw [hf, if_pos rfl] at h; exact walk_formed l x y hf h
def isB (c : List UInt8) (s : ByteArray) : Bool := s.toList == c
def nHas : List UInt8 := [36, 104, 97, 115]
def nNe : List UInt8 := [36, 110, 101]
def nIn : List UInt8 := [36, 105, 110]
def nEq : List UInt8 := [36, 101, 113]
def nLt : List UInt8 := [36, 108, 116]
def nLe : List UInt8 := [36, 108, 101]
def nGt : List UInt8 := [36, 103, 116]
def passJ (s : ByteArray) (v x : S25) (there : Bool) : Bool :=
  if isB nHas s then there == (v.f0 == 2)
  else if !there then isB nNe s
  else if isB nIn s then v.f4.any (sameF 6 x)
  else if isB nEq s then cmpF 6 x v == 0
  else if isB nNe s then cmpF 6 x v != 0
  else if isB nLt s then decide (cmpF 6 x v < 0)
  else if isB nLe s then decide (cmpF 6 x v ≤ 0)
  else if isB nGt s then decide (cmpF 6 x v > 0)
  else decide (cmpF 6 x v ≥ 0)
def oneJ (h : S25 → Bool) (s : ByteArray) (v doc : S25) : Bool :=
  if isAnd s then v.f4.all h
  else if isOr s then v.f4.any h
  else if isNot s then !h v
  else if testsJ v then (List.range' 0 v.f3.length).all (fun i => passJ (v.f3.getD i ByteArray.empty) (v.f4.getD i z25) ((getJ doc s).getD z25) (getJ doc s).isSome)
  else (getJ doc s).isSome && sameF 6 ((getJ doc s).getD z25) v
def holdsJ : Nat → S25 → S25 → Bool
  | 0, _, _ => false
  | k + 1, f, doc => (List.range' 0 f.f3.length).all fun i => oneJ (fun y => holdsJ k y doc) (f.f3.getD i ByteArray.empty) (f.f4.getD i z25) doc
def HoldsJ (f doc : S25) : Bool := checkJ f == 0 && (doc.f0 == 6 && (fmJ doc && holdsJ 6 f doc))
theorem names_le {k : Nat} {x : S25} (h : formedJ (k + 1) x = true) : x.f3.length ≤ x.f4.length := by
  by_cases h6 : x.f0 = 6
  · rw [names_items h h6]; exact Nat.le_refl _
  · rw [(formed_parts h).2.2.2.2.2.2.1 h6]; exact Nat.zero_le _
theorem member_formed {k : Nat} {x : S25} (h : formedJ (k + 1) x = true) {i : Nat} (hi : i < x.f3.length) : formedJ k (x.f4.getD i z25) = true := by
  have hl := names_le h
  rw [List.getD_eq_getElem?_getD, List.getElem?_eq_getElem (by omega)]
  exact (formed_parts h).2.2.1 _ (List.getElem_mem _)
end Go.Proofs.YtehdnjegipcpfaaDoor
namespace Go.Proofs.YtehdnjegipcpfaaDoor
open Go.RowKit Go.Proofs.YtehdnjegipcpfaaDoorW.PrintWords Go.Proofs.YtehdnjegipcpfaaDoorW.PrintLast Go.Proofs.YtehdnjegipcpfaaDoorW.PrintMore
open PFilterHolds Go.Shelf
def GetEnd (r : Option S25) (e : Ending) (w' : World) : Prop :=
  match r with
  | none => e = .returned (.tuple #[.agg #[.int .i64 0, .int .i64 0, .string ⟨#[]⟩, .slice none 0 0, .slice none 0 0], .bool false])
  | some y => ∃ A3 c3 A4 c4, e = .returned (.tuple #[av y A3 c3 A4 c4, .bool true]) ∧ Rd w' A3 c3 A4 c4 y
abbrev cs25 (x : S25) (A3 : Option Addr) (c3 : Nat) (A4 : Option Addr) (c4 : Nat) : Array Value := #[.int .i64 x.f0, .int .i64 x.f1, .string x.f2, .slice A3 x.f3.length c3, .slice A4 x.f4.length c4]
theorem blk_set5 {w : World} {g : Nat} {a0 a1 a2 a3 a4 : Value} {t : TypeId} (h : w.heap[g]? = some (.cells #[a0, a1, a2, a3, a4] t (0, 0))) (u0 u1 u2 u3 u4 : Value) :
    (((((w.setCell ⟨g, 0, none⟩ u0).setCell ⟨g, 1, none⟩ u1).setCell ⟨g, 2, none⟩ u2).setCell ⟨g, 3, none⟩ u3).setCell ⟨g, 4, none⟩ u4).heap[g]? = some (.cells #[u0, u1, u2, u3, u4] t (0, 0)) :=
  (blk_set (blk_set (blk_set (blk_set (blk_set h 0 u0) 1 u1) 2 u2) 3 u3) 4 u4).trans rfl
theorem blk_far5 {w : World} {g : Nat} {t : TypeId} {cs : Array Value} {g' : Nat} (h : w.heap[g']? = some (.cells cs t (0, 0))) (hne : g' ≠ g) (u0 u1 u2 u3 u4 : Value) :
    (((((w.setCell ⟨g, 0, none⟩ u0).setCell ⟨g, 1, none⟩ u1).setCell ⟨g, 2, none⟩ u2).setCell ⟨g, 3, none⟩ u3).setCell ⟨g, 4, none⟩ u4).heap[g']? = some (.cells cs t (0, 0)) :=
  blk_far (blk_far (blk_far (blk_far (blk_far h hne u0) hne u1) hne u2) hne u3) hne u4
theorem below_set5 {w W : World} {g : Nat} (h : Below w.heap.size w W) (hg : w.heap.size ≤ g) (u0 u1 u2 u3 u4 : Value) :
    Below w.heap.size w (((((W.setCell ⟨g, 0, none⟩ u0).setCell ⟨g, 1, none⟩ u1).setCell ⟨g, 2, none⟩ u2).setCell ⟨g, 3, none⟩ u3).setCell ⟨g, 4, none⟩ u4) :=
  below_set (below_set (below_set (below_set (below_set h hg) hg) hg) hg) hg
theorem own_row_far {w : World} {base g : Nat} {e : TypeId} {n : Nat} {v : Value} {xs : List Value} (h : w.ownsRow base e 1 v n xs) (hg : g < base) (u : Value) (i : Nat) : (w.setCell ⟨g, i, none⟩ u).ownsRow base e 1 v n xs := by
  have hlt := h.lt
  obtain ⟨h1, h2⟩ := h
  refine ⟨h1, ?_⟩
  rcases h2 with h2 | ⟨g', cap, cur, rfl, hb', hg', r⟩
  · exact .inl h2
  · exact .inr ⟨g', cap, cur, rfl, hb', (Below.heap_setCell w ⟨g, i, none⟩ u g' (by show g' ≠ g; omega)).trans hg', r⟩
theorem stepsL_len (v : ByteArray → Bool) (p : ByteArray) : ∀ (f i g : Nat) (out l : List ByteArray), out.length ≤ 4 → stepsL v p f i g out = some l → l.length ≤ 4
  | 0, i, g, out, l, ho, h => by unfold stepsL at h; injection h with h; rw [← h]; exact ho
  | f + 1, i, g, out, l, ho, h => by
    unfold stepsL at h
    by_cases c : i < p.size ∧ ¬ bt p i = 46
    · rw [if_pos c] at h
      exact stepsL_len v p f _ _ out l ho h
    · rw [if_neg c] at h
      cases hb : stepsBad v p i g out.length with
      | true => rw [hb, if_pos rfl] at h; cases h
      | false =>
        rw [hb, if_neg (by simp)] at h
        refine stepsL_len v p f _ _ _ l ?_ h
        unfold stepsBad at hb
        simp only [Bool.or_eq_false_iff, decide_eq_false_iff_not] at hb
        rw [List.length_append, List.length_singleton]
        omega
set_option maxRecDepth 100000 in
set_option maxHeartbeats 4000000 in
theorem get_any (x : S25) (p : ByteArray) (A3 : Option Addr) (c3 : Nat) (A4 : Option Addr) (c4 : Nat) (w : World) (hf : fmJ x = true) (h : Rd w A3 c3 A4 c4 x) (hT : Tabs w) (hp : p.size ≤ 1000000) :
    Calls Tryd.prog 72 #[av x A3 c3 A4 c4, .string p] w fun e w' => GetEnd (getJ x p) e w' ∧ Below w.heap.size w w' := by
  have hb0 := two_boxes w (.cells (cs25 x A3 c3 A4 c4) 25) (.cells #[.int .i64 0, .int .i64 0, .string ⟨#[]⟩, .slice none 0 0, .slice none 0 0] 25)
  have hS := steps_any p _ (hT.below hb0) hp
  have hsz : ((w.alloc (.cells (cs25 x A3 c3 A4 c4) 25)).alloc (.cells #[.int .i64 0, .int .i64 0, .string ⟨#[]⟩, .slice none 0 0, .slice none 0 0] 25)).heap.size = w.heap.size + 2 := by simp
  rw [hsz] at hS
  have hk0 := two_boxes_0 w (.cells (cs25 x A3 c3 A4 c4) 25) (.cells #[.int .i64 0, .int .i64 0, .string ⟨#[]⟩, .slice none 0 0, .slice none 0 0] 25)
  have hk1 := two_boxes_1 w (.cells (cs25 x A3 c3 A4 c4) 25) (.cells #[.int .i64 0, .int .i64 0, .string ⟨#[]⟩, .slice none 0 0, .slice none 0 0] 25)
  obtain ⟨ANS, hA⟩ : ∃ a, getJ x p = a := ⟨_, rfl⟩
  rw [hA]
  unfold getJ at hA
  simp only [hf, if_true] at hA
  obtain ⟨q, hq⟩ : ∃ q, stepsJ vstr p = q := ⟨_, rfl⟩
  have hl4 : ∀ l, q = some l → l.length ≤ 4 := fun l e => stepsL_len vstr p _ _ _ [] l (by simp) (hq.trans e)
  rw [hq] at hA hS
  clear hq hsz
  have HA := Lib.hid hA; clear hA
  have HB0 := Lib.hid hb0; clear hb0
  have HK0 := Lib.hid hk0; clear hk0
  have HK1 := Lib.hid hk1; clear hk1
  have HT := Lib.hid hT; clear hT
  have HRD := Lib.hid h; clear h
  have HF := Lib.hid hf; clear hf
  obtain ⟨x0, x1, x2, x3, x4⟩ := x
  cases q with
  | none =>
    clear hl4
    go_enter Tryd.func72, Tryd.ntmps72
    go_wp2_with fail
    refine hS.mono ?_
    rintro e w1 ⟨hE, hb⟩
    have hE' : e = .returned (.tuple #[.slice none 0 0, .int .i64 2]) := hE
    subst hE'
    have hb' : Below ((w.alloc (.cells (cs25 ⟨x0, x1, x2, x3, x4⟩ A3 c3 A4 c4) 25)).alloc (.cells #[.int .i64 0, .int .i64 0, .string ⟨#[]⟩, .slice none 0 0, .slice none 0 0] 25)).heap.size ((w.alloc (.cells (cs25 ⟨x0, x1, x2, x3, x4⟩ A3 c3 A4 c4) 25)).alloc (.cells #[.int .i64 0, .int .i64 0, .string ⟨#[]⟩, .slice none 0 0, .slice none 0 0] 25)) w1 := by simpa using hb
    have k1 := blk_below HK1.out hb'
    have hB1 := HB0.out.trans (hb'.mono HB0.out.size)
    have HB1 := Lib.hid hB1; clear hB1 hb hb' hS hE
    have q0 : w1.cell? ⟨w.heap.size + 1, 0, none⟩ = some (.int .i64 0) := (blk_cell k1 0).trans rfl
    have q1 : w1.cell? ⟨w.heap.size + 1, 1, none⟩ = some (.int .i64 0) := (blk_cell k1 1).trans rfl
    have q2 : w1.cell? ⟨w.heap.size + 1, 2, none⟩ = some (.string ⟨#[]⟩) := (blk_cell k1 2).trans rfl
    have q3 : w1.cell? ⟨w.heap.size + 1, 3, none⟩ = some (.slice none 0 0) := (blk_cell k1 3).trans rfl
    have q4 : w1.cell? ⟨w.heap.size + 1, 4, none⟩ = some (.slice none 0 0) := (blk_cell k1 4).trans rfl
    have z0 := blk_frozen k1 0
    have z1 := blk_frozen k1 1
    have z2 := blk_frozen k1 2
    have z3 := blk_frozen k1 3
    have z4 := blk_frozen k1 4
    clear k1
    go_wp2_with fail
    refine bodyPost_ret (v := .tuple #[.agg #[.int .i64 0, .int .i64 0, .string ⟨#[]⟩, .slice none 0 0, .slice none 0 0], .bool false]) ?_ rfl ?_
    · simp [results, Tryd.results72, go_sem, q0, q1, q2, q3, q4]
    refine ⟨?_, below_set5 HB1.out (by omega) _ _ _ _ _⟩
    rw [← HA.out]
    rfl
  | some l =>
    have hl4' := hl4 l rfl
    clear hl4
    go_enter Tryd.func72, Tryd.ntmps72
    go_wp2_with fail
    refine hS.mono ?_
    rintro e w1 ⟨hE, hb⟩
    obtain ⟨vv, rfl, hrow⟩ : ∃ v, e = .returned (.tuple #[v, .int .i64 0]) ∧ w1.ownsRow (w.heap.size + 2) 9 1 v l.length (l.map Value.string) := hE
    obtain ⟨Al, cl, rfl⟩ := row_len hrow
    have hb' : Below ((w.alloc (.cells (cs25 ⟨x0, x1, x2, x3, x4⟩ A3 c3 A4 c4) 25)).alloc (.cells #[.int .i64 0, .int .i64 0, .string ⟨#[]⟩, .slice none 0 0, .slice none 0 0] 25)).heap.size ((w.alloc (.cells (cs25 ⟨x0, x1, x2, x3, x4⟩ A3 c3 A4 c4) 25)).alloc (.cells #[.int .i64 0, .int .i64 0, .string ⟨#[]⟩, .slice none 0 0, .slice none 0 0] 25)) w1 := by simpa using hb
    have k0 := blk_below HK0.out hb'
    have k1 := blk_below HK1.out hb'
    have hB1 := HB0.out.trans (hb'.mono HB0.out.size)
    have hlt2 : w.heap.size + 1 < w1.heap.size := blk_lt k1
    have hX := Formed_any ⟨x0, x1, x2, x3, x4⟩ A3 c3 A4 c4 w1 (HRD.out.below hB1) (HT.out.below hB1)
    rw [HF.out] at hX
    have f0 : w1.cell? ⟨w.heap.size, 0, none⟩ = some (.int .i64 x0) := (blk_cell k0 0).trans rfl
    have f1 : w1.cell? ⟨w.heap.size, 1, none⟩ = some (.int .i64 x1) := (blk_cell k0 1).trans rfl
    have f2 : w1.cell? ⟨w.heap.size, 2, none⟩ = some (.string x2) := (blk_cell k0 2).trans rfl
    have f3 : w1.cell? ⟨w.heap.size, 3, none⟩ = some (.slice A3 x3.length c3) := (blk_cell k0 3).trans rfl
    have f4 : w1.cell? ⟨w.heap.size, 4, none⟩ = some (.slice A4 x4.length c4) := (blk_cell k0 4).trans rfl
    have HK0' := Lib.hid k0
    have HK1' := Lib.hid k1
    have HB1 := Lib.hid hB1
    have HR := Lib.hid hrow
    clear k0 k1 hB1 hb hb' hS hrow HK0 HK1 HB0
    go_wp2_with fail
    refine hX.mono ?_
    rintro e w2 ⟨rfl, hb⟩
    have hB2 := HB1.out.trans (hb.mono HB1.out.size)
    have k0 := blk_below HK0'.out hb
    have k1 := blk_below HK1'.out hb
    have hrow2 := own_below HR.out hb
    have HB2 := Lib.hid hB2
    have HK0 := Lib.hid k0
    have HK1 := Lib.hid k1
    have HR2 := Lib.hid hrow2
    clear hB2 k0 k1 hrow2 hb hX f0 f1 f2 f3 f4 HK0' HK1' HB1 HR hlt2
    go_wp2_with fail
    go_loopw [8, 9] (fun v8 v9 wr => ∃ (j : Nat) (y : S25) (B3 : Option Addr) (d3 : Nat) (B4 : Option Addr) (d4 : Nat), j ≤ l.length ∧ v8 = .int .i64 j ∧ wr.heap[w.heap.size]? = some (.cells (cs25 y B3 d3 B4 d4) 25 (0, 0)) ∧ wr.heap[w.heap.size + 1]? = some (.cells #[.int .i64 0, .int .i64 0, .string ⟨#[]⟩, .slice none 0 0, .slice none 0 0] 25 (0, 0)) ∧ Rd w B3 d3 B4 d4 y ∧ fmJ y = true ∧ ANS = walkJ y (l.drop j) ∧ wr.ownsRow (w.heap.size + 2) 9 1 (.slice Al l.length cl) l.length (l.map Value.string) ∧ Below w.heap.size w wr) (fun v8 _ _ => l.length - (intOf v8).toNat)
    case atStart => exact ⟨0, ⟨x0, x1, x2, x3, x4⟩, A3, c3, A4, c4, Nat.zero_le _, rfl, HK0.out, HK1.out, HRD.out, HF.out, HA.out.symm, HR2.out, HB2.out⟩
    case round =>
      obtain ⟨j, y, B3, d3, B4, d4, hj, rfl, k0, k1, hRy, hfy, hS, hrow, hB⟩ := hrel
      have HS := Lib.hid hS; clear hS
      have HB := Lib.hid hB; clear hB
      have HRY := Lib.hid hRy; clear hRy
      have HFY := Lib.hid hfy; clear hfy
      have hlt2 : w.heap.size + 1 < wr.heap.size := blk_lt k1
      obtain ⟨y0, y1, y2, y3, y4⟩ := y
      have e0 : wr.cell? ⟨w.heap.size, 0, none⟩ = some (.int .i64 y0) := (blk_cell k0 0).trans rfl
      have e1 : wr.cell? ⟨w.heap.size, 1, none⟩ = some (.int .i64 y1) := (blk_cell k0 1).trans rfl
      have e2 : wr.cell? ⟨w.heap.size, 2, none⟩ = some (.string y2) := (blk_cell k0 2).trans rfl
      have e3 : wr.cell? ⟨w.heap.size, 3, none⟩ = some (.slice B3 y3.length d3) := (blk_cell k0 3).trans rfl
      have e4 : wr.cell? ⟨w.heap.size, 4, none⟩ = some (.slice B4 y4.length d4) := (blk_cell k0 4).trans rfl
      clear HK0 HK1 HR2 HB2 HA HRD HF
      by_cases hlt : j < l.length
      · have hji : (j : Int) < (l.length : Int) := by omega
        obtain ⟨g, capg, hform, hgb, hglt⟩ := hrow.form (by omega)
        have hAl : Al = some ⟨g, 0, none⟩ := by injection hform
        subst hAl
        obtain ⟨s, hs⟩ : ∃ s, l[j]? = some s := ⟨_, List.getElem?_eq_getElem hlt⟩
        have e9 : wr.cell? ⟨g, j, none⟩ = some (.string s) := by
          have := hrow.cells (g := g) rfl j (.string s) (by rw [List.getElem?_map, hs]; rfl)
          rw [Addr.add_lit, Nat.zero_add] at this
          exact this
        have hd : l.drop j = s :: l.drop (j + 1) := by
          obtain ⟨hi, rfl⟩ := List.getElem?_eq_some_iff.1 hs
          exact List.drop_eq_getElem_cons hi
        have HD := Lib.hid hd; clear hd hs
        have h24 := few_items HFY.out
        have hcw := place_any ⟨y0, y1, y2, y3, y4⟩ s (by have := h24.1; omega) B3 d3 B4 d4 wr.drew ((HRY.out.below HB.out).below (Below.refl _ wr).drew)
        have hpl := placeJ_lt HFY.out s
        obtain ⟨q, hq⟩ : ∃ q, placeJ ⟨y0, y1, y2, y3, y4⟩ s = q := ⟨_, rfl⟩
        rw [hq] at hcw hpl
        have HQ := Lib.hid hq; clear hq
        have HPL := Lib.hid hpl; clear hpl
        have HK0 := Lib.hid k0; clear k0
        have HK1 := Lib.hid k1; clear k1
        have HR := Lib.hid hrow; clear hrow hform
        have HG := Lib.hid hgb; clear hgb hglt h24
        go_upto_region 7 with fail
        refine start_ (n := 7) (S := fun w' => w'.cell? ⟨w.heap.size, 0, none⟩ = some (.int .i64 y0) ∧ w'.cell? ⟨w.heap.size, 1, none⟩ = some (.int .i64 y1) ∧ w'.cell? ⟨w.heap.size, 2, none⟩ = some (.string y2) ∧ w'.cell? ⟨w.heap.size, 3, none⟩ = some (.slice B3 y3.length d3) ∧ w'.cell? ⟨w.heap.size, 4, none⟩ = some (.slice B4 y4.length d4) ∧ w'.cell? ⟨g, j, none⟩ = some (.string s)) (ds := []) #[false, false, false, false, false, false, false] (by kernel_rfl) rfl rfl ⟨e0, e1, e2, e3, e4, e9⟩ (fun hHeld => ?_)
        refine pure_ (i := 1) (N := some 30) (v := ?_) (a' := ?_) #[false, true, false, false, false, false, false] rfl rfl (by kernel_rfl) (fun _ _ _ h => h) (Or.inl ⟨by rfl, ?_⟩) ?_ ?_
        rotate_left
        · intro w'
          go_simp
          with_reducible rfl
        rotate_left
        · simp only [Act.put, List.setIfInBounds_toArray, List.set_cons_zero, List.set_cons_succ]
          rfl
        refine pure_ (i := 2) (N := some 31) (v := ?_) (a' := ?_) #[false, true, true, false, false, false, false] rfl rfl (by kernel_rfl) (fun _ _ _ h => h) (Or.inl ⟨by rfl, ?_⟩) ?_ ?_
        rotate_left
        · intro w'
          go_simp
          with_reducible rfl
        rotate_left
        · simp only [Act.put, List.setIfInBounds_toArray, List.set_cons_zero, List.set_cons_succ]
          rfl
        refine pure_ (i := 3) (N := some 32) (v := ?_) (a' := ?_) #[false, true, true, true, false, false, false] rfl rfl (by kernel_rfl) (fun _ _ _ h => h) (Or.inl ⟨by rfl, ?_⟩) ?_ ?_
        rotate_left
        · intro w'
          go_simp
          with_reducible rfl
        rotate_left
        · simp only [Act.put, List.setIfInBounds_toArray, List.set_cons_zero, List.set_cons_succ]
          rfl
        refine take_ (i := 0) (N := some 29) (v := ?_) (a' := ?_) #[true, true, true, true, false, false, false] rfl rfl (by kernel_rfl) (fun _ _ _ h => h) (Or.inl ⟨by rfl, ?_⟩) hHeld ?_ ?_
        rotate_left
        · rintro w' ⟨s0, s1, s2, s3, s4, s5⟩
          go_simp
          with_reducible rfl
        rotate_left
        · simp only [Act.put, List.setIfInBounds_toArray, List.set_cons_zero, List.set_cons_succ]
          rfl
        refine take_ (i := 4) (N := some 33) (v := ?_) (a' := ?_) #[true, true, true, true, true, false, false] rfl rfl (by kernel_rfl) (fun _ _ _ h => h) (Or.inl ⟨by rfl, ?_⟩) hHeld ?_ ?_
        rotate_left
        · rintro w' ⟨s0, s1, s2, s3, s4, s5⟩
          go_simp
          with_reducible rfl
        rotate_left
        · simp only [Act.put, List.setIfInBounds_toArray, List.set_cons_zero, List.set_cons_succ]
          rfl
        refine one_ (i := 5) (N := some 34) #[true, true, true, true, true, true, false] rfl rfl (by kernel_rfl) (by decide) (fun K hK => ?_)
        refine goes_ Tryd.func116 (by kernel_rfl) rfl #[.agg #[.int .i64 y0, .int .i64 y1, .string y2, .slice B3 y3.length d3, .slice B4 y4.length d4], .string s] (by rfl) rfl rfl (by simp only [List.map_toArray, List.map_cons, List.map_nil]; rfl) ?_
        with_reducible refine (hcw).mono ?_
        rintro e w2 ⟨rfl, hbc⟩
        refine ⟨_, rfl, ?_⟩
        have hbw : Below wr.heap.size wr w2 := (Below.refl _ wr).drew.trans hbc
        have HBC := Lib.hid hbw
        clear hbc hbw
        refine hK.out _ _ ⟨((HBC.out.cell (World.block_lt_of_cell? wr _ e0)).trans e0), ((HBC.out.cell (World.block_lt_of_cell? wr _ e1)).trans e1), ((HBC.out.cell (World.block_lt_of_cell? wr _ e2)).trans e2), ((HBC.out.cell (World.block_lt_of_cell? wr _ e3)).trans e3), ((HBC.out.cell (World.block_lt_of_cell? wr _ e4)).trans e4), ((HBC.out.cell (World.block_lt_of_cell? wr _ e9)).trans e9)⟩ (fun hHeld => ?_)
        clear hK K
        refine norm_ (a' := ?_) ?_ ?_
        rotate_left
        · show Act.put _ (some 34) _ = _
          simp only [Act.put, List.setIfInBounds_toArray, List.set_cons_zero, List.set_cons_succ]
          rfl
        refine pure_ (i := 6) (N := some 9) (v := ?_) (a' := ?_) #[true, true, true, true, true, true, true] rfl rfl (by kernel_rfl) (fun _ _ _ h => h) (Or.inl ⟨by rfl, ?_⟩) ?_ ?_
        rotate_left
        · intro w'
          go_simp
          with_reducible rfl
        rotate_left
        · simp only [Act.put, List.setIfInBounds_toArray, List.set_cons_zero, List.set_cons_succ]
          rfl
        refine done_ (by kernel_rfl) ?_

        have hB2 := HB.out.trans (HBC.out.mono HB.out.size)
        have k0 := blk_below HK0.out HBC.out
        have k1 := blk_below HK1.out HBC.out
        have hrow2 := own_below HR.out HBC.out
        have HR2 := Lib.hid hrow2; clear hrow2
        have HB2 := Lib.hid hB2; clear hB2
        clear hcw e0 e1 e2 e3 e4 e9 HR HB HK0 HBC
        have HK1b := Lib.hid k1
        by_cases hneg : q < 0
        · have t1 : decide (q < 0) = true := decide_eq_true hneg
          have q0 : w2.cell? ⟨w.heap.size + 1, 0, none⟩ = some (.int .i64 0) := (blk_cell k1 0).trans rfl
          have q1 : w2.cell? ⟨w.heap.size + 1, 1, none⟩ = some (.int .i64 0) := (blk_cell k1 1).trans rfl
          have q2 : w2.cell? ⟨w.heap.size + 1, 2, none⟩ = some (.string ⟨#[]⟩) := (blk_cell k1 2).trans rfl
          have q3 : w2.cell? ⟨w.heap.size + 1, 3, none⟩ = some (.slice none 0 0) := (blk_cell k1 3).trans rfl
          have q4 : w2.cell? ⟨w.heap.size + 1, 4, none⟩ = some (.slice none 0 0) := (blk_cell k1 4).trans rfl
          have z0 := blk_frozen k1 0
          have z1 := blk_frozen k1 1
          have z2 := blk_frozen k1 2
          have z3 := blk_frozen k1 3
          have z4 := blk_frozen k1 4
          clear k0 k1
          go_wp2_with fail
          refine bodyPost_ret (v := .tuple #[.agg #[.int .i64 0, .int .i64 0, .string ⟨#[]⟩, .slice none 0 0, .slice none 0 0], .bool false]) ?_ rfl ?_
          · simp [results, Tryd.results72, go_sem, q0, q1, q2, q3, q4]
          refine ⟨?_, below_set5 HB2.out (by omega) _ _ _ _ _⟩
          rw [HS.out, HD.out]
          unfold walkJ
          rw [HQ.out, if_pos hneg]
          rfl
        · have t1 : decide (q < 0) = false := decide_eq_false hneg
          obtain ⟨k, rfl⟩ : ∃ k : Nat, q = k := ⟨q.toNat, by omega⟩
          have hk4 : k < y4.length := by have := HPL.out.2 (by omega); simpa using this
          have hki : (k : Int) < (y4.length : Int) := by omega
          obtain ⟨u, hu⟩ : ∃ u, y4[k]? = some u := ⟨_, List.getElem?_eq_getElem hk4⟩
          obtain ⟨b', o', D3, m3, D4, m4, rfl, hb', i0, i1, i2, i3, i4, hRu⟩ := item_of HRY.out.g4 rfl k u hu
          replace i0 := (HB2.out.cell (World.block_lt_of_cell? w _ i0)).trans i0
          replace i1 := (HB2.out.cell (World.block_lt_of_cell? w _ i1)).trans i1
          replace i2 := (HB2.out.cell (World.block_lt_of_cell? w _ i2)).trans i2
          replace i3 := (HB2.out.cell (World.block_lt_of_cell? w _ i3)).trans i3
          replace i4 := (HB2.out.cell (World.block_lt_of_cell? w _ i4)).trans i4
          have hfu : fmJ u = true := items_formed HFY.out u (List.mem_of_getElem? hu)
          have hgd : y4.getD k z25 = u := by rw [List.getD_eq_getElem?_getD, hu]; rfl
          have HGD := Lib.hid hgd; clear hgd hu
          have HFU := Lib.hid hfu; clear hfu
          have HRU := Lib.hid hRu; clear hRu
          have e0 : w2.cell? ⟨w.heap.size, 0, none⟩ = some (.int .i64 y0) := (blk_cell k0 0).trans rfl
          have e1 : w2.cell? ⟨w.heap.size, 1, none⟩ = some (.int .i64 y1) := (blk_cell k0 1).trans rfl
          have e2 : w2.cell? ⟨w.heap.size, 2, none⟩ = some (.string y2) := (blk_cell k0 2).trans rfl
          have e3 : w2.cell? ⟨w.heap.size, 3, none⟩ = some (.slice B3 y3.length d3) := (blk_cell k0 3).trans rfl
          have e4 : w2.cell? ⟨w.heap.size, 4, none⟩ = some (.slice (some ⟨b', o', none⟩) y4.length d4) := (blk_cell k0 4).trans rfl
          have z0 := blk_frozen k0 0
          have z1 := blk_frozen k0 1
          have z2 := blk_frozen k0 2
          have z3 := blk_frozen k0 3
          have z4 := blk_frozen k0 4
          have HK0 := Lib.hid k0; clear k0 k1
          obtain ⟨u0, u1, u2, u3, u4⟩ := u
          go_wp2_with fail
          go_roundw
          case rel =>
            refine ⟨j + 1, ⟨u0, u1, u2, u3, u4⟩, D3, m3, D4, m4, by omega, by go_num, blk_set5 HK0.out _ _ _ _ _, blk_far5 HK1b.out (by omega) _ _ _ _ _, HRU.out, HFU.out, ?_, ?_, below_set5 HB2.out (Nat.le_refl _) _ _ _ _ _⟩
            · rw [HS.out, HD.out]
              conv => lhs; unfold walkJ
              rw [HQ.out, if_neg hneg, Int.toNat_natCast]
              simp only [HGD.out]
            · exact own_row_far (own_row_far (own_row_far (own_row_far (own_row_far HR2.out (by omega) _ _) (by omega) _ _) (by omega) _ _) (by omega) _ _) (by omega) _ _
          case measure => simp [intOf]; omega
      · obtain rfl : j = l.length := by omega
        have hO := own_any 6 ⟨y0, y1, y2, y3, y4⟩ B3 d3 B4 d4 wr HFY.out (HRY.out.below HB.out)
        have HK1 := Lib.hid k1; clear k1 k0
        have HR := Lib.hid hrow; clear hrow
        go_wp2_with fail
        refine hO.mono ?_
        rintro e w2 ⟨v3, v4, rfl, hM, hb⟩
        have k1 := blk_below HK1.out hb
        have hB2 := HB.out.trans (hb.mono HB.out.size)
        have HB2 := Lib.hid hB2; clear hB2 hb
        obtain ⟨t3, t4, ht, g3, g4⟩ := k25_openM hM
        obtain ⟨rfl, rfl⟩ : v3 = t3 ∧ v4 = t4 := by simpa using ht
        obtain ⟨Bu, du, rfl⟩ := Kd.R_slice g3
        obtain ⟨Cu, eu, rfl⟩ := Kd.R_slice g4
        have HG3 := Lib.hid g3; clear g3
        have HG4 := Lib.hid g4; clear g4 ht hM
        have q0 : w2.cell? ⟨w.heap.size + 1, 0, none⟩ = some (.int .i64 0) := (blk_cell k1 0).trans rfl
        have q1 : w2.cell? ⟨w.heap.size + 1, 1, none⟩ = some (.int .i64 0) := (blk_cell k1 1).trans rfl
        have q2 : w2.cell? ⟨w.heap.size + 1, 2, none⟩ = some (.string ⟨#[]⟩) := (blk_cell k1 2).trans rfl
        have q3 : w2.cell? ⟨w.heap.size + 1, 3, none⟩ = some (.slice none 0 0) := (blk_cell k1 3).trans rfl
        have q4 : w2.cell? ⟨w.heap.size + 1, 4, none⟩ = some (.slice none 0 0) := (blk_cell k1 4).trans rfl
        have z0 := blk_frozen k1 0
        have z1 := blk_frozen k1 1
        have z2 := blk_frozen k1 2
        have z3 := blk_frozen k1 3
        have z4 := blk_frozen k1 4
        have hans : ANS = some ⟨y0, y1, y2, y3, y4⟩ := by rw [HS.out, List.drop_length]; rfl
        subst hans
        clear k1 hO e0 e1 e2 e3 e4 HS
        simp only at HG3 HG4 ⊢
        go_wp2_with fail
        refine bodyPost_ret (v := .tuple #[.agg #[.int .i64 y0, .int .i64 y1, .string y2, .slice Bu y3.length du, .slice Cu y4.length eu], .bool true]) ?_ rfl ?_
        · simp [results, Tryd.results72, go_sem, q0, q1, q2, q3, q4]
        refine ⟨⟨Bu, du, Cu, eu, rfl, ?_⟩, below_set5 HB2.out (by omega) _ _ _ _ _⟩
        have r3 := far5 (g := w.heap.size + 1) HG3.out (fun k hk => by omega) (.int .i64 y0) (.int .i64 y1) (.string y2) (.slice Bu y3.length du) (.slice Cu y4.length eu)
        have r4 := far5 (g := w.heap.size + 1) HG4.out (fun k hk => by omega) (.int .i64 y0) (.int .i64 y1) (.string y2) (.slice Bu y3.length du) (.slice Cu y4.length eu)
        obtain ⟨_, l3, c3'⟩ := Kd.R_reads' r3
        obtain ⟨_, l4, c4'⟩ := Kd.R_reads' r4
        exact ⟨l3, c3', l4, c4'⟩
end Go.Proofs.YtehdnjegipcpfaaDoor
