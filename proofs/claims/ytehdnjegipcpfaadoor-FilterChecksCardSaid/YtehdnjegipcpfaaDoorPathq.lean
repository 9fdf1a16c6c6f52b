/-
  The contract of filter.Paths: a filter's paths, sorted, each once; under utf8's tables.
-/
import Derived.Test.YtehdnjegipcpfaaDoorPathw
import Derived.Test.YtehdnjegipcpfaaDoorShelfb
import Derived.Shelf.Slices.In.CompactS
import Derived.Shelf.Slices.In.SortNone
import Derived.Sort.OwnSorted
import Derived.Sort.EveryDepth
import Derived.Sort.Grow
import Derived.Lib.OwnBridge
namespace Go.Proofs.YtehdnjegipcpfaaDoor
open Go.RowKit Go.Proofs.YtehdnjegipcpfaaDoorW.PrintWords Go.Proofs.YtehdnjegipcpfaaDoorW.PrintLast Go.Proofs.YtehdnjegipcpfaaDoorW.PrintMore
open PFilterHolds Go.Shelf Go.Sort

abbrev srt (zs : List (List UInt8)) : List (List UInt8) := zs.mergeSort fun x y => decide (x ≤ y)

theorem sort_c (blk off cap : Nat) (zs : List (List UInt8)) (w : World) (hH : Holds encStr w blk off zs.toArray) (hblk : blk < w.heap.size) (hsz : zs.length < 4611686018427387904) :
    Calls Tryd.prog 39 #[.slice (some ⟨blk, off, none⟩) zs.length cap] w fun e w' =>
      e = .returned (.tuple #[]) ∧ ∃ n os, w' = grow (putRow encStr (Sort.ahead w n) blk off (srt zs).toArray) os :=
  calls_of_every_depth fun D => AnyS.slices_Sort_string_alone Tryd.laysSort D blk off cap zs w hH hblk hsz
theorem compact_c (blk off cap : Nat) (zs : List (List UInt8)) (w : World) (hH : Holds encStr w blk off zs.toArray) (hsz : zs.length ≤ 9223372036854775807) (hcap : zs.length ≤ cap) :
    Calls Tryd.prog 40 #[.slice (some ⟨blk, off, none⟩) zs.length cap] w fun e w' => e = .returned (.slice (some ⟨blk, off, none⟩) (Lib.compact zs).length cap) ∧ ∃ q, w' = putRow encStr (Sort.ahead w q) blk off (Lib.compact zs ++ List.replicate (zs.length - (Lib.compact zs).length) []).toArray :=
  calls_of_every_depth fun D => AnyS.slices_Compact_string_in Tryd.laysCompact D blk off cap zs w hH hsz hcap
theorem sort_none (p : Option Addr) (cap : Nat) (w : World) : Calls Tryd.prog 39 #[.slice p 0 cap] w fun e w' => e = .returned (.tuple #[]) ∧ w' = w :=
  calls_of_every_depth fun D => AnyS.slices_Sort_string_none_alone Tryd.laysSort D p cap w
theorem compact_none (p : Option Addr) (cap : Nat) (w : World) : Calls Tryd.prog 40 #[.slice p 0 cap] w fun e w' => e = .returned (.slice p 0 cap) ∧ w' = w :=
  calls_of_every_depth fun D => AnyS.slices_Compact_string_empty_in Tryd.laysCompact D p cap w

/-- What is left: the slice handed back owns the texts; nothing older has turned. -/
def LeftP (w : World) (L : List ByteArray) (e : Ending) (w' : World) : Prop :=
  ∃ v, e = .returned v ∧ w'.ownsRow w.heap.size 9 1 v L.length (L.map Value.string) ∧ Below w.heap.size w w'

theorem left_of {w w1 : World} {g cap nn q : Nat} {os : Array Obj} {ps : List ByteArray} (hown : w1.ownsRow w.heap.size 9 1 (.slice (some ⟨g, 0, none⟩) (ps.map key).length cap) (ps.map key).length ((ps.map key).map encStr)) (hbel : Below w.heap.size w w1) (hbg : w.heap.size ≤ g) :
    LeftP w (ps.foldl putJ []) (.returned (.slice (some ⟨g, 0, none⟩) (Lib.compact (srt (ps.map key))).length cap))
      (putRow encStr (Sort.ahead (grow (putRow encStr (Sort.ahead w1 nn) g 0 (srt (ps.map key)).toArray) os) q) g 0 (Lib.compact (srt (ps.map key)) ++ List.replicate ((ps.map key).length - (Lib.compact (srt (ps.map key))).length) []).toArray) := by
  have hl2 : (srt (ps.map key)).length = (ps.map key).length := List.length_mergeSort _
  have hle := Lib.compact_length_le (srt (ps.map key))
  rcases hown.2 with ⟨h0, _⟩ | ⟨g', cap', cur, hv, hbase, hb, h1, h2, h3, h4⟩
  · cases h0
  cases hv
  have hs := ownsRow_sorted (n := nn) (os := os) (ts := srt (ps.map key)) hl2 hbase hb h1 h2 h3
  have hc := Lib.ownsRow_putRow (q := q) (k := (Lib.compact (srt (ps.map key))).length) (ys := Lib.compact (srt (ps.map key)) ++ List.replicate ((ps.map key).length - (Lib.compact (srt (ps.map key))).length) []) hs (by simp only [List.length_append, List.length_replicate]; omega) (by omega)
  rw [List.take_left] at hc
  refine ⟨_, rfl, ?_, Lib.below_putRow (hbel.grown (grownBy_sorted _) hbel.size (fun j hj => by cases hj; exact hbase)) hbg⟩
  have e1 : (Lib.compact (srt (ps.map key))).map encStr = (ps.foldl putJ []).map Value.string := by
    rw [paths_law]
    exact Lib.map_encStr _
  have e2 : (Lib.compact (srt (ps.map key))).length = (ps.foldl putJ []).length := by rw [paths_law, List.length_map]
  rw [e1] at hc
  rw [← e2]
  exact hc

/-- What Paths answers. -/
def PathsJ (x : S25) : List ByteArray := if checkJ x == 0 then (pathsJ 6 x).foldl putJ [] else []

set_option maxRecDepth 100000 in
set_option maxHeartbeats 1000000 in
theorem Paths_any (x : S25) (A3 : Option Addr) (c3 : Nat) (A4 : Option Addr) (c4 : Nat) (w : World) (h : Rd w A3 c3 A4 c4 x) (hT : Tabs w) :
    Calls Tryd.prog 19 #[av x A3 c3 A4 c4] w fun e w' => LeftP w (PathsJ x) e w' := by
  have hb0 := below_alloc (Below.refl w.heap.size w) (.cells (cs25 x A3 c3 A4 c4) 25)
  have hblk := new_blk w (.cells (cs25 x A3 c3 A4 c4) 25)
  have hC := check_any x A3 c3 A4 c4 _ (h.below hb0) (hT.below hb0)
  have hP : ∀ (W : World), Below w.heap.size w W → (checkJ x == 0) = true → Calls Tryd.prog 38 #[.slice none 0 0, av x A3 c3 A4 c4] W fun e w' => ∃ v', e = .returned v' ∧ w'.ownsRow w.heap.size 9 1 v' (pathsJ 6 x).length ((pathsJ 6 x).map Value.string) ∧ Gr W (.slice none 0 0) w' v' := fun W hb hc => by
    obtain ⟨e1, n, e2, hn⟩ := check_zero.1 (show checkJ x = 0 by simpa using hc)
    have hle := paths_le 6 x n e2
    exact paths_any w 6 x A3 c3 A4 c4 (.slice none 0 0) [] W e1 h hb (World.ownsRow_nil _ _ _ _) (by simp; omega)
  have hn12 : (checkJ x == 0) = true → (pathsJ 6 x).length ≤ 12 := fun hc => by
    obtain ⟨e1, n, e2, hn⟩ := check_zero.1 (show checkJ x = 0 by simpa using hc)
    have hle := paths_le 6 x n e2
    omega
  unfold PathsJ
  generalize checkJ x = c at hC hP hn12
  generalize pathsJ 6 x = ps at hP hn12
  have HB0 := Lib.hid hb0; clear hb0
  have HP := Lib.hid hP; clear hP
  have HN := Lib.hid hn12; clear hn12
  clear h hT
  obtain ⟨x0, x1, x2, x3, x4⟩ := x
  cases b1 : c == 0 with
  | false =>
    clear HP HN
    rw [if_neg (by simp)]
    have b2 : (c != 0) = true := by unfold bne; rw [b1]; rfl
    go_enter Tryd.func19, Tryd.ntmps19
    go_wp2_with fail
    refine hC.mono ?_; rintro e w1 ⟨rfl, hb⟩
    have HB := Lib.hid hb; clear hb hC
    go_wp2_with fail
    go_ret
    exact ⟨_, rfl, World.ownsRow_nil _ _ _ _, HB0.out.trans (HB.out.mono HB0.out.size)⟩
  | true =>
    rw [if_pos rfl]
    have b2 : (c != 0) = false := by unfold bne; rw [b1]; rfl
    go_enter Tryd.func19, Tryd.ntmps19
    go_wp2_with fail
    refine hC.mono ?_; rintro e w1 ⟨rfl, hb⟩
    have hB1 := HB0.out.trans (hb.mono HB0.out.size)
    have k0 := blk_below hblk hb
    have hcw := HP.out w1 hB1 b1
    have hps := HN.out b1
    have HB1 := Lib.hid hB1; clear hB1 hb hC HB0 HP HN b1 hblk
    have f0 : w1.cell? ⟨w.heap.size, 0, none⟩ = some (.int .i64 x0) := (blk_cell k0 0).trans rfl
    have f1 : w1.cell? ⟨w.heap.size, 1, none⟩ = some (.int .i64 x1) := (blk_cell k0 1).trans rfl
    have f2 : w1.cell? ⟨w.heap.size, 2, none⟩ = some (.string x2) := (blk_cell k0 2).trans rfl
    have f3 : w1.cell? ⟨w.heap.size, 3, none⟩ = some (.slice A3 x3.length c3) := (blk_cell k0 3).trans rfl
    have f4 : w1.cell? ⟨w.heap.size, 4, none⟩ = some (.slice A4 x4.length c4) := (blk_cell k0 4).trans rfl
    clear k0
    have HPS := Lib.hid hps; clear hps
    go_wp2_with fail
    refine hcw.mono ?_
    rintro e w2 ⟨V, rfl, hrow, hg⟩
    have hB2 : Below w.heap.size w w2 := hg.below HB1.out HB1.out.size (fun k hk => by cases hk)
    have HB2 := Lib.hid hB2; clear hB2 hg hcw f0 f1 f2 f3 f4 HB1
    obtain ⟨r, kk, rfl⟩ := row_len hrow
    cases ps with
    | nil =>
      have hs := sort_none r kk w2
      have hcm := compact_none r kk w2
      have HRW := Lib.hid hrow; clear hrow HPS
      simp only [List.length_nil] at HRW ⊢
      go_wp2_with fail
      refine hs.mono ?_; rintro e w3 ⟨rfl, rfl⟩
      clear hs
      go_wp2_with fail
      refine hcm.mono ?_; rintro e w3 ⟨rfl, rfl⟩
      clear hcm
      go_wp2_with fail
      go_ret
      exact ⟨_, rfl, HRW.out, HB2.out⟩
    | cons p ps =>
      obtain ⟨qs, hqs⟩ : ∃ l, p :: ps = l := ⟨_, rfl⟩
      rw [hqs] at hrow HPS ⊢
      have hne : 0 < qs.length := by rw [← hqs]; simp
      have HQS := Lib.hid hqs; clear hqs
      have hl : (qs.map key).length = qs.length := List.length_map _
      rw [← Lib.map_encStr, ← hl] at hrow
      obtain ⟨g0, cap0, hv, hbg, hgl, hncap, hcm, _, hH⟩ := Lib.holds_of_ownsRow hrow (by
        intro e
        injection e with _ e2 _
        omega)
      cases hv
      have hsz : (qs.map key).length ≤ 12 := by have := HPS.out; omega
      have cSort := sort_c g0 0 kk (qs.map key) w2 hH hgl (by omega)
      have cComp : ∀ nn os, Calls Tryd.prog 40 #[.slice (some ⟨g0, 0, none⟩) (qs.map key).length kk] (grow (putRow encStr (Sort.ahead w2 nn) g0 0 (srt (qs.map key)).toArray) os) fun e w' =>
          e = .returned (.slice (some ⟨g0, 0, none⟩) (Lib.compact (srt (qs.map key))).length kk) ∧ ∃ q, w' = putRow encStr (Sort.ahead (grow (putRow encStr (Sort.ahead w2 nn) g0 0 (srt (qs.map key)).toArray) os) q) g0 0 (Lib.compact (srt (qs.map key)) ++ List.replicate ((qs.map key).length - (Lib.compact (srt (qs.map key))).length) []).toArray := fun nn os => by
        have hl2 : (srt (qs.map key)).length = (qs.map key).length := List.length_mergeSort _
        have hH2 : Holds encStr (grow (putRow encStr (Sort.ahead w2 nn) g0 0 (srt (qs.map key)).toArray) os) g0 0 (srt (qs.map key)).toArray :=
          holds_grow encStr _ os g0 0 _ (by simpa [putRow, mapBlock, Sort.ahead] using hgl) (holds_putRow encStr _ g0 0 _ _ (holds_ahead encStr w2 nn g0 0 _ hH) (by simp))
        have := compact_c g0 0 kk (srt (qs.map key)) _ hH2 (by omega) (by omega)
        rwa [hl2] at this
      have hfin := fun nn os q => left_of (nn := nn) (os := os) (q := q) hrow HB2.out hbg
      rw [hl] at cSort cComp
      have HFIN := Lib.hid hfin
      have HCC := Lib.hid cComp
      clear hrow hH hfin cComp hl hsz hgl hncap hcm hbg
      go_wp2_with fail
      refine cSort.mono ?_; rintro e w3 ⟨rfl, nn, os, rfl⟩
      have hcc := HCC.out nn os
      clear cSort HCC
      go_wp2_with fail
      refine hcc.mono ?_; rintro e w4 ⟨rfl, q, rfl⟩
      clear hcc
      go_wp2_with fail
      go_ret
      have hfin := HFIN.out nn os q
      rw [List.length_map] at hfin
      rw [HQS.out]
      exact hfin

end Go.Proofs.YtehdnjegipcpfaaDoor
