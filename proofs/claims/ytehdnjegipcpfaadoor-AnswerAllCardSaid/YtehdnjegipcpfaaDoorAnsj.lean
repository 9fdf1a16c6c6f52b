/-
  The law AnswerAll is walked: it answers true; under utf8's tables.
-/
import Derived.Test.YtehdnjegipcpfaaDoorAnsi
namespace Go.Proofs.YtehdnjegipcpfaaDoor
open Go.RowKit Go.Proofs.YtehdnjegipcpfaaDoorW.PrintWords Go.Proofs.YtehdnjegipcpfaaDoorW.PrintLast Go.Proofs.YtehdnjegipcpfaaDoorW.PrintMore
open PFilterHolds PAns Go.Shelf Go.Sort
theorem lo_rd {w : World} {q : Qy} {z : Qa} {A : Option Addr} {l : List Dc} {W : World} (h : Lo w q z A l W) : RdD W A l := ⟨fun j x hx => by
  obtain ⟨b, o, cs, e, h1, h2, h3⟩ := h.get j x hx
  exact ⟨b, o, e, blk_lt h2, (blk_cell h2 _).trans (h3 0 _ rfl), (blk_cell h2 _).trans (h3 1 _ rfl), (blk_cell h2 _).trans (h3 2 _ rfl), (blk_cell h2 _).trans (h3 3 _ rfl), (blk_cell h2 _).trans (h3 4 _ rfl), (blk_cell h2 _).trans (h3 5 _ rfl),
    h.gd x (List.mem_of_getElem? hx) W ⟨rfl, rfl, rfl, Nat.le_refl _, fun _ _ _ => rfl⟩⟩⟩
structure Ka (w : World) (q : Qy) (z : Qa) (r : Option Addr) (ys : List Dc) (W : World) : Prop where
  b : Below w.heap.size w W
  k0 : W.heap[w.heap.size]? = some (.cells (cs38 q z) 38 (0, 0))
  l : RdD W r ys
theorem Ka.below {w : World} {q : Qy} {z : Qa} {r : Option Addr} {ys : List Dc} {W W' : World} (h : Ka w q z r ys W) (hb : Below W.heap.size W W') : Ka w q z r ys W' :=
  ⟨h.b.trans (hb.mono h.b.size), blk_below h.k0 hb, h.l.below hb⟩
theorem runJ_all {w : World} {q : Qy} {z : Qa} {docs : List Dc} {e : Ending} {w' : World} (h : RunJ w q z id docs e w') (hs : q.skip = 0) (hl : q.lim = 0) :
    (∃ n : Int, n ≠ 0 ∧ e = .returned (.tuple #[.slice none 0 0, .int .i64 n]) ∧ Below w.heap.size w w') ∨
    ∃ (ys : List Dc) (r : Option Addr) (k : Nat), AllP q.sort (fun d => HoldsJ q.flt d.f1) (docs.map Dc.d) (ys.map Dc.d) ∧ (∀ x ∈ docs, docJ x.d = true) ∧ ys.length ≤ k ∧ RdD w' r ys ∧ Below w.heap.size w w' ∧ e = .returned (.tuple #[.slice r ys.length k, .int .i64 0]) := by
  rcases h with ⟨h, rfl, hb⟩ | ⟨_, _, rfl, hb⟩ | ⟨_, hsc, l', ys, r, k, hp, hpw, hm, hk, hlo, rfl⟩
  · exact .inl ⟨_, h, rfl, hb⟩
  · exact .inl ⟨2, by decide, rfl, hb⟩
  · refine .inr ⟨ys, r, k, ⟨?_, ?_, ?_⟩, fun x hx => ((scan_false _ _ hsc).2 x hx).1, hk, lo_rd hlo, hlo.bl, rfl⟩
    · have : cutJ q l' = l' := by unfold cutJ; rw [hl, hs]; simp
      rw [this] at hm
      have hm2 : ys.map Dc.d = l'.map Dc.d := hm
      rw [hm2, List.filter_map]
      exact hp.map Dc.d
    · have : cutJ q l' = l' := by unfold cutJ; rw [hl, hs]; simp
      rw [this] at hm
      have hm2 : ys.map Dc.d = l'.map Dc.d := hm
      rw [hm2, List.pairwise_map]
      exact hpw
    · have := (scan_false _ _ hsc).1
      rw [List.map_map]
      exact this
theorem same_refl (x : S25) (A3 : Option Addr) (c3 : Nat) (A4 : Option Addr) (c4 : Nat) (B3 : Option Addr) (d3 : Nat) (B4 : Option Addr) (d4 : Nat) (w : World) (hf : fmJ x = true) (ha : Rd w A3 c3 A4 c4 x) (hb : Rd w B3 d3 B4 d4 x) :
    Calls Tryd.prog 27 #[av x A3 c3 A4 c4, av x B3 d3 B4 d4] w fun e w' => e = .returned (.bool true) ∧ Below w.heap.size w w' := by
  obtain ⟨k, hk⟩ := same_formed 6 x hf
  exact munimentref01_Same.calls k x.f0 x.f1 x.f2 A3 c3 x.f3 A4 c4 x.f4 x.f0 x.f1 x.f2 B3 d3 x.f3 B4 d4 x.f4 true w ha.g3 ha.l3 ha.g4 ha.l4 hb.g3 hb.l3 hb.g4 hb.l4 hk
set_option maxRecDepth 100000 in
set_option maxHeartbeats 4000000 in
theorem allL_any (q : Qy) (z : Qa) (dl : List Dc) (A : Option Addr) (c : Nat) (w : World) (hQ : RdQ w q z) (hM : Rm q z) (hD : Kd.C k42 w A dl.length (dl.map Dc.d)) (hRD : RdD w A dl) (hcd : dl.length ≤ c) (hT : Tabs w) :
    Calls Tryd.prog 10 #[qv q z, .slice A dl.length c] w fun e w' => e = .returned (.bool true) ∧ Below w.heap.size w w' := by
  obtain ⟨r, hr, hFew⟩ := few_any q (dl.map Dc.d)
  rw [List.length_map] at hFew
  have hb0 := below_alloc (Below.refl w.heap.size w) (.cells (cs38 q z) 38)
  have hk0 := new_blk w (.cells (cs38 q z) 38)
  have hAw := fun W (hb : Below w.heap.size w W) => awakeR_any W (hT.below hb)
  have hF := fun W (hb : Below w.heap.size w W) => hFew z A c W (hQ.below hb) hM (Kd.C_below hD hb) hcd
  have hA0 := hAw _ hb0
  clear hFew
  have HAW := Lib.hid hAw; clear hAw
  have HF := Lib.hid hF; clear hF
  have HB0 := Lib.hid hb0; clear hb0
  have HK0 := Lib.hid hk0; clear hk0
  have HR := Lib.hid hr; clear hr
  have HQ := Lib.hid hQ; clear hQ
  have HRD := Lib.hid hRD; clear hRD
  have HT := Lib.hid hT; clear hT
  clear hM hD hcd
  obtain ⟨⟨x0, x1, x2, x3, x4⟩, srt, fl, sk, lm⟩ := q
  obtain ⟨F3, f3, F4, f4, So, so, Fi, fi⟩ := z
  simp only [qv, cs38] at HF HB0 HK0 ⊢
  go_enter Tryd.func10, Tryd.ntmps10
  go_wp2_with fail
  refine hA0.mono ?_; rintro e w1 ⟨rfl, hb⟩
  have hb1 := HB0.out.trans (hb.mono HB0.out.size)
  have k0 := blk_below HK0.out hb
  have p0 : w1.cell? ⟨w.heap.size, 0, none⟩ = some (.int .i64 x0) := (blk_cell k0 0).trans rfl
  have p1 : w1.cell? ⟨w.heap.size, 1, none⟩ = some (.int .i64 x1) := (blk_cell k0 1).trans rfl
  have p2 : w1.cell? ⟨w.heap.size, 2, none⟩ = some (.string x2) := (blk_cell k0 2).trans rfl
  have p3 : w1.cell? ⟨w.heap.size, 3, none⟩ = some (.slice F3 x3.length f3) := (blk_cell k0 3).trans rfl
  have p4 : w1.cell? ⟨w.heap.size, 4, none⟩ = some (.slice F4 x4.length f4) := (blk_cell k0 4).trans rfl
  have p5 : w1.cell? ⟨w.heap.size, 5, none⟩ = some (.slice So srt.length so) := (blk_cell k0 5).trans rfl
  have p6 : w1.cell? ⟨w.heap.size, 6, none⟩ = some (.slice Fi fl.length fi) := (blk_cell k0 6).trans rfl
  have p7 : w1.cell? ⟨w.heap.size, 7, none⟩ = some (.int .i64 sk) := (blk_cell k0 7).trans rfl
  have p8 : w1.cell? ⟨w.heap.size, 8, none⟩ = some (.int .i64 lm) := (blk_cell k0 8).trans rfl
  have hF1 := HF.out w1 hb1
  have HB1 := Lib.hid hb1; clear hb1 HB0
  have HK1 := Lib.hid k0; clear k0 HK0 hb hA0
  go_wp2_with fail
  refine hF1.mono ?_; rintro e w2 ⟨rfl, hb⟩
  have hb2 := HB1.out.trans (hb.mono HB1.out.size)
  have k0 := blk_below HK1.out hb
  clear p0 p1 p2 p3 p4 p5 p6 p7 p8 hF1
  have HB2 := Lib.hid hb2; clear hb2 HB1 hb
  have HK2 := Lib.hid k0; clear k0 HK1
  cases r with
  | false =>
    have hA := HAW.out w2 HB2.out
    go_wp2_with fail
    refine hA.mono ?_; rintro e w3 ⟨rfl, hb⟩
    have HB3 := Lib.hid hb; clear hb hA
    go_wp2_with fail
    go_ret
    exact ⟨rfl, HB2.out.trans (HB3.out.mono HB2.out.size)⟩
  | true =>
    have hfw := HR.out rfl
    have p0 : w2.cell? ⟨w.heap.size, 0, none⟩ = some (.int .i64 x0) := (blk_cell HK2.out 0).trans rfl
    have p1 : w2.cell? ⟨w.heap.size, 1, none⟩ = some (.int .i64 x1) := (blk_cell HK2.out 1).trans rfl
    have p2 : w2.cell? ⟨w.heap.size, 2, none⟩ = some (.string x2) := (blk_cell HK2.out 2).trans rfl
    have p3 : w2.cell? ⟨w.heap.size, 3, none⟩ = some (.slice F3 x3.length f3) := (blk_cell HK2.out 3).trans rfl
    have p4 : w2.cell? ⟨w.heap.size, 4, none⟩ = some (.slice F4 x4.length f4) := (blk_cell HK2.out 4).trans rfl
    have p5 : w2.cell? ⟨w.heap.size, 5, none⟩ = some (.slice So srt.length so) := (blk_cell HK2.out 5).trans rfl
    have p6 : w2.cell? ⟨w.heap.size, 6, none⟩ = some (.slice Fi fl.length fi) := (blk_cell HK2.out 6).trans rfl
    have p7 : w2.cell? ⟨w.heap.size, 7, none⟩ = some (.int .i64 sk) := (blk_cell HK2.out 7).trans rfl
    have p8 : w2.cell? ⟨w.heap.size, 8, none⟩ = some (.int .i64 lm) := (blk_cell HK2.out 8).trans rfl
    have z6 := blk_frozen HK2.out 6
    have z7 := blk_frozen HK2.out 7
    have z8 := blk_frozen HK2.out 8
    clear HR
    have HFW := Lib.hid hfw; clear hfw
    go_wp2_with fail
    have hb3 : Below w.heap.size w (((w2.setCell ⟨w.heap.size, 7, none⟩ (.int .i64 0)).setCell ⟨w.heap.size, 8, none⟩ (.int .i64 0)).setCell ⟨w.heap.size, 6, none⟩ (.slice none 0 0)) := below_set (below_set (below_set HB2.out (Nat.le_refl _)) (Nat.le_refl _)) (Nat.le_refl _)
    have hk3 := blk_set (blk_set (blk_set HK2.out 7 (.int .i64 0)) 8 (.int .i64 0)) 6 (.slice none 0 0)
    have hcR := run_any ⟨⟨x0, x1, x2, x3, x4⟩, srt, [], 0, 0⟩ ⟨F3, f3, F4, f4, So, so, none, 0⟩ A c dl _ ⟨HQ.out.rd.below hb3, Kd.C_below HQ.out.so hb3, Kd.C_nil _ _⟩ ⟨HFW.out.bd.so, (fun _ h => nomatch h), HFW.out.bd.ls, Nat.zero_le _⟩ (HRD.out.below hb3) (HT.out.below hb3) (by have := HFW.out.ds; rw [List.length_map] at this; omega) (fun x hx => Nat.le_trans (HFW.out.dss x.d (List.mem_map_of_mem hx)) (by decide)) id (proj_none _ _ _ _ rfl)
    have HB3 := Lib.hid hb3; clear hb3
    have HK3 := Lib.hid hk3; clear hk3
    have HBD : Hid (BdQ ⟨⟨x0, x1, x2, x3, x4⟩, srt, [], 0, 0⟩) := Lib.hid ⟨HFW.out.bd.so, (fun _ h => nomatch h), HFW.out.bd.ls, Nat.zero_le _⟩
    have hdl : dl.length ≤ 40 := by have := HFW.out.ds; rw [List.length_map] at this; exact this
    clear p0 p1 p2 p3 p4 p5 p6 p7 p8 z6 z7 z8 HB2 HK2 HF HAW HFW
    simp only [qv, List.length_nil] at hcR
    refine hcR.mono ?_
    intro e w4 hRJ
    clear hcR
    rcases runJ_all hRJ rfl rfl with ⟨n, hn, rfl, hb⟩ | ⟨ys, r, kc, hall, hdoc, hk, hl, hb, rfl⟩
    · have b1 : (n != 0) = true := by simpa using hn
      have HB4 := Lib.hid hb; clear hb hRJ hn
      go_wp2_with fail
      go_ret
      exact ⟨rfl, HB3.out.trans (HB4.out.mono HB3.out.size)⟩
    · have hka : Ka w ⟨⟨x0, x1, x2, x3, x4⟩, srt, [], 0, 0⟩ ⟨F3, f3, F4, f4, So, so, none, 0⟩ r ys w4 := ⟨HB3.out.trans (hb.mono HB3.out.size), blk_below HK3.out hb, hl⟩
      have HKA := Lib.hid hka; clear hka hb hl hRJ HB3 HK3
      have hyl : ys.length ≤ 40 := by
        have h2 := Nat.le_trans (Nat.le_of_eq hall.len.symm) (List.length_filter_le _ _)
        rw [List.length_map, List.length_map] at h2
        omega
      have HALL := Lib.hid hall; clear hall
      have HDOC := Lib.hid hdoc; clear hdoc
      go_wp2_with fail
      go_loopw [7, 8, 9, 10] (fun v7 v8 _ _ wr => ∃ j : Nat, j ≤ dl.length ∧ v8 = .int .i64 j ∧ v7 = .int .i64 (((dl.take j).filter fun x => HoldsJ ⟨x0, x1, x2, x3, x4⟩ x.d.f1).length : Nat) ∧ Ka w ⟨⟨x0, x1, x2, x3, x4⟩, srt, [], 0, 0⟩ ⟨F3, f3, F4, f4, So, so, none, 0⟩ r ys wr) (fun _ v8 _ _ _ => dl.length - (intOf v8).toNat)
      case atStart => exact ⟨0, Nat.zero_le _, rfl, rfl, HKA.out⟩
      case round =>
        obtain ⟨j, hj, rfl, rfl, hka⟩ := hrel
        clear HKA
        have HKA := Lib.hid hka; clear hka
        obtain ⟨N, hN⟩ : ∃ N : Nat, ((dl.take j).filter fun x => HoldsJ ⟨x0, x1, x2, x3, x4⟩ x.d.f1).length = N := ⟨_, rfl⟩
        have hNj : N ≤ j := by
          rw [← hN]
          exact Nat.le_trans (List.length_filter_le _ _) (List.length_take_le _ _)
        have HN := Lib.hid hN
        rw [hN]
        clear hN
        by_cases hlt : j < dl.length
        · have hji : (j : Int) < (dl.length : Int) := by omega
          obtain ⟨x, hx⟩ : ∃ x, dl[j]? = some x := ⟨_, List.getElem?_eq_getElem hlt⟩
          obtain ⟨b, o, rfl, hb, e0, e1, e2, e3, e4, e5, hR⟩ := HRD.out.get j x hx
          have hBW := HKA.out.b
          have E0 := Lib.hid e0
          have E1 := Lib.hid e1
          have E2 := Lib.hid e2
          have E3 := Lib.hid e3
          have E4 := Lib.hid e4
          have E5 := Lib.hid e5
          replace e0 := (hBW.cell hb).trans e0
          replace e1 := (hBW.cell hb).trans e1
          replace e2 := (hBW.cell hb).trans e2
          replace e3 := (hBW.cell hb).trans e3
          replace e4 := (hBW.cell hb).trans e4
          replace e5 := (hBW.cell hb).trans e5
          have hcw := Holds_any ⟨x0, x1, x2, x3, x4⟩ x.d.f1 F3 f3 F4 f4 x.A3 x.c3 x.A4 x.c4 wr.drew (HQ.out.rd.below hBW.drew) (hR.below hBW.drew) (HT.out.below hBW.drew)
          have hfil : ((dl.take (j + 1)).filter fun x => HoldsJ ⟨x0, x1, x2, x3, x4⟩ x.d.f1).length = if HoldsJ ⟨x0, x1, x2, x3, x4⟩ x.d.f1 then N + 1 else N := by
            have hx1 : dl[j] = x := (List.getElem?_eq_some_iff.1 hx).2
            rw [List.take_succ_eq_append_getElem hlt, List.filter_append, List.length_append, HN.out, hx1]
            cases hh : HoldsJ ⟨x0, x1, x2, x3, x4⟩ x.d.f1 <;> simp [hh]
          have hone : HoldsJ ⟨x0, x1, x2, x3, x4⟩ x.d.f1 = true → (ys.filter fun y => y.d.f0.toList == x.d.f0.toList).length = 1 := fun e => by
            have := HALL.out.one x.d (List.mem_map_of_mem (List.mem_of_getElem? hx)) e
            rw [List.filter_map, List.length_map] at this
            exact this
          have hsam : ∀ y ∈ ys, (y.d.f0.toList == x.d.f0.toList) = true → y.d = x.d := fun y hy e => HALL.out.same x.d y.d (List.mem_map_of_mem (List.mem_of_getElem? hx)) (List.mem_map_of_mem hy) e
          have hfm : fmJ x.d.f1 = true := by
            have := HDOC.out x (List.mem_of_getElem? hx)
            unfold docJ at this
            simp only [Bool.and_eq_true] at this
            exact this.2.2.2.2
          obtain ⟨⟨vi, v0, v1, v2, v3, v4⟩, V3, n3, V4, n4⟩ := x
          simp only at hcw hfil hone hsam hfm e0 e1 e2 e3 e4 e5 E0 E1 E2 E3 E4 E5
          obtain ⟨HJ, hHJ⟩ : ∃ b, HoldsJ ⟨x0, x1, x2, x3, x4⟩ ⟨v0, v1, v2, v3, v4⟩ = b := ⟨_, rfl⟩
          rw [hHJ] at hcw hfil hone
          have HFIL := Lib.hid hfil; clear hfil
          have HONE := Lib.hid hone; clear hone
          have HSAM := Lib.hid hsam; clear hsam
          have HFM := Lib.hid hfm; clear hfm
          have HRX := Lib.hid hR; clear hR
          have HB := Lib.hid hb
          clear hHJ hBW hx hb
          have p0 : wr.cell? ⟨w.heap.size, 0, none⟩ = some (.int .i64 x0) := (blk_cell HKA.out.k0 0).trans rfl
          have p1 : wr.cell? ⟨w.heap.size, 1, none⟩ = some (.int .i64 x1) := (blk_cell HKA.out.k0 1).trans rfl
          have p2 : wr.cell? ⟨w.heap.size, 2, none⟩ = some (.string x2) := (blk_cell HKA.out.k0 2).trans rfl
          have p3 : wr.cell? ⟨w.heap.size, 3, none⟩ = some (.slice F3 x3.length f3) := (blk_cell HKA.out.k0 3).trans rfl
          have p4 : wr.cell? ⟨w.heap.size, 4, none⟩ = some (.slice F4 x4.length f4) := (blk_cell HKA.out.k0 4).trans rfl
          go_upto_region 13 with fail
          refine start_ (n := 9) (S := fun w' => w'.cell? ⟨w.heap.size, 0, none⟩ = some (.int .i64 x0) ∧ w'.cell? ⟨w.heap.size, 1, none⟩ = some (.int .i64 x1) ∧ w'.cell? ⟨w.heap.size, 2, none⟩ = some (.string x2) ∧ w'.cell? ⟨w.heap.size, 3, none⟩ = some (.slice F3 x3.length f3) ∧ w'.cell? ⟨w.heap.size, 4, none⟩ = some (.slice F4 x4.length f4) ∧ w'.cell? ⟨b, o + j * 6 + 1, none⟩ = some (.int .i64 v0) ∧ w'.cell? ⟨b, o + j * 6 + 2, none⟩ = some (.int .i64 v1) ∧ w'.cell? ⟨b, o + j * 6 + 3, none⟩ = some (.string v2) ∧ w'.cell? ⟨b, o + j * 6 + 4, none⟩ = some (.slice V3 v3.length n3) ∧ w'.cell? ⟨b, o + j * 6 + 5, none⟩ = some (.slice V4 v4.length n4)) (ds := []) #[false, false, false, false, false, false, false, false, false] (by kernel_rfl) rfl rfl ⟨p0, p1, p2, p3, p4, e1, e2, e3, e4, e5⟩ (fun hHeld => ?_)
          refine pure_ (i := 0) (N := some 41) (v := ?_) (a' := ?_) #[true, false, false, false, false, false, false, false, false] rfl rfl (by kernel_rfl) (fun _ _ _ h => h) (Or.inl ⟨by rfl, ?_⟩) ?_ ?_
          rotate_left
          · intro w'
            go_simp
            with_reducible rfl
          rotate_left
          · simp only [Act.put, List.setIfInBounds_toArray, List.set_cons_zero, List.set_cons_succ]
            rfl
          refine pure_ (i := 2) (N := some 43) (v := ?_) (a' := ?_) #[true, false, true, false, false, false, false, false, false] rfl rfl (by kernel_rfl) (fun _ _ _ h => h) (Or.inl ⟨by rfl, ?_⟩) ?_ ?_
          rotate_left
          · intro w'
            go_simp
            with_reducible rfl
          rotate_left
          · simp only [Act.put, List.setIfInBounds_toArray, List.set_cons_zero, List.set_cons_succ]
            rfl
          refine pure_ (i := 3) (N := some 44) (v := ?_) (a' := ?_) #[true, false, true, true, false, false, false, false, false] rfl rfl (by kernel_rfl) (fun _ _ _ h => h) (Or.inl ⟨by rfl, ?_⟩) ?_ ?_
          rotate_left
          · intro w'
            go_simp
            with_reducible rfl
          rotate_left
          · simp only [Act.put, List.setIfInBounds_toArray, List.set_cons_zero, List.set_cons_succ]
            rfl
          refine pure_ (i := 4) (N := some 45) (v := ?_) (a' := ?_) #[true, false, true, true, true, false, false, false, false] rfl rfl (by kernel_rfl) (fun _ _ _ h => h) (Or.inl ⟨by rfl, ?_⟩) ?_ ?_
          rotate_left
          · intro w'
            go_simp
            with_reducible rfl
          rotate_left
          · simp only [Act.put, List.setIfInBounds_toArray, List.set_cons_zero, List.set_cons_succ]
            rfl
          refine pure_ (i := 5) (N := some 46) (v := ?_) (a' := ?_) #[true, false, true, true, true, true, false, false, false] rfl rfl (by kernel_rfl) (fun _ _ _ h => h) (Or.inl ⟨by rfl, ?_⟩) ?_ ?_
          rotate_left
          · intro w'
            go_simp
            with_reducible rfl
          rotate_left
          · simp only [Act.put, List.setIfInBounds_toArray, List.set_cons_zero, List.set_cons_succ]
            rfl
          refine take_ (i := 1) (N := some 42) (v := ?_) (a' := ?_) #[true, true, true, true, true, true, false, false, false] rfl rfl (by kernel_rfl) (fun _ _ _ h => h) (Or.inl ⟨by rfl, ?_⟩) hHeld ?_ ?_
          rotate_left
          · rintro w' ⟨s0, s1, s2, s3, s4, s5, s6, s7, s8, s9⟩
            go_simp
            with_reducible rfl
          rotate_left
          · simp only [Act.put, List.setIfInBounds_toArray, List.set_cons_zero, List.set_cons_succ]
            rfl
          refine take_ (i := 6) (N := some 47) (v := ?_) (a' := ?_) #[true, true, true, true, true, true, true, false, false] rfl rfl (by kernel_rfl) (fun _ _ _ h => h) (Or.inl ⟨by rfl, ?_⟩) hHeld ?_ ?_
          rotate_left
          · rintro w' ⟨s0, s1, s2, s3, s4, s5, s6, s7, s8, s9⟩
            go_simp
            with_reducible rfl
          rotate_left
          · simp only [Act.put, List.setIfInBounds_toArray, List.set_cons_zero, List.set_cons_succ]
            rfl
          refine one_ (i := 7) (N := some 48) #[true, true, true, true, true, true, true, true, false] rfl rfl (by kernel_rfl) (by decide) (fun K hK => ?_)
          refine goes_ Tryd.func13 (by kernel_rfl) rfl #[.agg #[.int .i64 x0, .int .i64 x1, .string x2, .slice F3 x3.length f3, .slice F4 x4.length f4], .agg #[.int .i64 v0, .int .i64 v1, .string v2, .slice V3 v3.length n3, .slice V4 v4.length n4]] (by rfl) rfl rfl (by simp only [List.map_toArray, List.map_cons, List.map_nil]; rfl) ?_
          with_reducible refine (hcw).mono ?_
          rintro e w5 ⟨rfl, hbc⟩
          refine ⟨_, rfl, ?_⟩
          have hbw : Below wr.heap.size wr w5 := (Below.refl _ wr).drew.trans hbc
          have HBC := Lib.hid hbw
          clear hbc hbw
          refine hK.out _ _ ⟨((HBC.out.cell (World.block_lt_of_cell? wr _ p0)).trans p0), ((HBC.out.cell (World.block_lt_of_cell? wr _ p1)).trans p1), ((HBC.out.cell (World.block_lt_of_cell? wr _ p2)).trans p2), ((HBC.out.cell (World.block_lt_of_cell? wr _ p3)).trans p3), ((HBC.out.cell (World.block_lt_of_cell? wr _ p4)).trans p4), ((HBC.out.cell (World.block_lt_of_cell? wr _ e1)).trans e1), ((HBC.out.cell (World.block_lt_of_cell? wr _ e2)).trans e2), ((HBC.out.cell (World.block_lt_of_cell? wr _ e3)).trans e3), ((HBC.out.cell (World.block_lt_of_cell? wr _ e4)).trans e4), ((HBC.out.cell (World.block_lt_of_cell? wr _ e5)).trans e5)⟩ (fun hHeld => ?_)
          clear hK K
          refine norm_ (a' := ?_) ?_ ?_
          rotate_left
          · show Act.put _ (some 48) _ = _
            simp only [Act.put, List.setIfInBounds_toArray, List.set_cons_zero, List.set_cons_succ]
            rfl
          refine pure_ (i := 8) (N := some 49) (v := ?_) (a' := ?_) #[true, true, true, true, true, true, true, true, true] rfl rfl (by kernel_rfl) (fun _ _ _ h => h) (Or.inl ⟨by rfl, ?_⟩) ?_ ?_
          rotate_left
          · intro w'
            go_simp
            with_reducible rfl
          rotate_left
          · simp only [Act.put, List.setIfInBounds_toArray, List.set_cons_zero, List.set_cons_succ]
            rfl
          refine done_ (by kernel_rfl) ?_

          have hka5 := HKA.out.below HBC.out
          clear p0 p1 p2 p3 p4 hcw HKA HBC e0 e1 e2 e3 e4 e5
          have HKA := Lib.hid hka5; clear hka5
          cases HJ with
          | false =>
            go_wp2_with fail
            go_roundw
            case rel =>
              refine ⟨j + 1, by omega, by go_num, ?_, HKA.out⟩
              rw [HFIL.out]
              rfl
            case measure => simp [intOf]; omega
          | true =>
            go_wp2_with fail
            go_loopw [9, 10] (fun v9 v10 wr => ∃ k : Nat, k ≤ ys.length ∧ v10 = .int .i64 k ∧ v9 = .int .i64 (((ys.take k).filter fun y => y.d.f0.toList == vi.toList).length : Nat) ∧ Ka w ⟨⟨x0, x1, x2, x3, x4⟩, srt, [], 0, 0⟩ ⟨F3, f3, F4, f4, So, so, none, 0⟩ r ys wr) (fun _ v10 _ => ys.length - (intOf v10).toNat)
            case atStart => exact ⟨0, Nat.zero_le _, rfl, rfl, HKA.out⟩
            case round =>
              obtain ⟨k, hkl, rfl, rfl, hka⟩ := hrel
              obtain ⟨T, hT⟩ : ∃ T : Nat, ((ys.take k).filter fun y => y.d.f0.toList == vi.toList).length = T := ⟨_, rfl⟩
              have hTk : T ≤ k := by
                rw [← hT]
                exact Nat.le_trans (List.length_filter_le _ _) (List.length_take_le _ _)
              have HTT := Lib.hid hT
              rw [hT]
              clear hT HKA
              have HKA := Lib.hid hka; clear hka
              by_cases hlt2 : k < ys.length
              · have hki : (k : Int) < (ys.length : Int) := by omega
                obtain ⟨y, hy⟩ : ∃ y, ys[k]? = some y := ⟨_, List.getElem?_eq_getElem hlt2⟩
                obtain ⟨g, p, rfl, hg, c0, c1, c2, c3, c4, c5, hRy⟩ := HKA.out.l.get k y hy
                have hBW := HKA.out.b
                have e0 := (hBW.cell HB.out).trans E0.out
                have e1 := (hBW.cell HB.out).trans E1.out
                have e2 := (hBW.cell HB.out).trans E2.out
                have e3 := (hBW.cell HB.out).trans E3.out
                have e4 := (hBW.cell HB.out).trans E4.out
                have e5 := (hBW.cell HB.out).trans E5.out
                have hfil : ((ys.take (k + 1)).filter fun y => y.d.f0.toList == vi.toList).length = if y.d.f0.toList == vi.toList then T + 1 else T := by
                  have hx1 : ys[k] = y := (List.getElem?_eq_some_iff.1 hy).2
                  rw [List.take_succ_eq_append_getElem hlt2, List.filter_append, List.length_append, HTT.out, hx1]
                  cases hh : (y.d.f0.toList == vi.toList) <;> simp [hh]
                have hsm := HSAM.out y (List.mem_of_getElem? hy)
                have hcw : y.d.f1 = ⟨v0, v1, v2, v3, v4⟩ → Calls Tryd.prog 27 #[av y.d.f1 y.A3 y.c3 y.A4 y.c4, av ⟨v0, v1, v2, v3, v4⟩ V3 n3 V4 n4] wr.drew fun e w' => e = .returned (.bool true) ∧ Below wr.drew.heap.size wr.drew w' := fun e => by
                  have h1 : Rd wr.drew y.A3 y.c3 y.A4 y.c4 y.d.f1 := hRy.below (Below.refl _ wr).drew
                  rw [e] at h1 ⊢
                  exact same_refl _ _ _ _ _ _ _ _ _ _ HFM.out h1 (HRX.out.below hBW.drew)
                obtain ⟨⟨ui, u0, u1, u2, u3, u4⟩, U3, m3, U4, m4⟩ := y
                simp only at hcw hfil hsm c0 c1 c2 c3 c4 c5
                cases hm : (ui.toList == vi.toList) with
                | false =>
                  rw [hm] at hfil
                  have HFI2 := Lib.hid hfil; clear hfil
                  clear hsm hcw hBW hRy hy hg
                  go_upto_region 19 with fail
                  refine start_ (n := 24) (S := fun w' => w'.cell? ⟨g, p + k * 6, none⟩ = some (.string ui) ∧ w'.cell? ⟨g, p + k * 6 + 1, none⟩ = some (.int .i64 u0) ∧ w'.cell? ⟨g, p + k * 6 + 2, none⟩ = some (.int .i64 u1) ∧ w'.cell? ⟨g, p + k * 6 + 3, none⟩ = some (.string u2) ∧ w'.cell? ⟨g, p + k * 6 + 4, none⟩ = some (.slice U3 u3.length m3) ∧ w'.cell? ⟨g, p + k * 6 + 5, none⟩ = some (.slice U4 u4.length m4) ∧ w'.cell? ⟨b, o + j * 6, none⟩ = some (.string vi) ∧ w'.cell? ⟨b, o + j * 6 + 1, none⟩ = some (.int .i64 v0) ∧ w'.cell? ⟨b, o + j * 6 + 2, none⟩ = some (.int .i64 v1) ∧ w'.cell? ⟨b, o + j * 6 + 3, none⟩ = some (.string v2) ∧ w'.cell? ⟨b, o + j * 6 + 4, none⟩ = some (.slice V3 v3.length n3) ∧ w'.cell? ⟨b, o + j * 6 + 5, none⟩ = some (.slice V4 v4.length n4)) (ds := []) #[false, false, false, false, false, false, false, false, false, false, false, false, false, false, false, false, false, false, false, false, false, false, false, false] (by kernel_rfl) rfl rfl ⟨c0, c1, c2, c3, c4, c5, e0, e1, e2, e3, e4, e5⟩ (fun hHeld => ?_)
                  refine pure_ (i := 0) (N := some 58) (v := ?_) (a' := ?_) #[true, false, false, false, false, false, false, false, false, false, false, false, false, false, false, false, false, false, false, false, false, false, false, false] rfl rfl (by kernel_rfl) (fun _ _ _ h => h) (Or.inl ⟨by rfl, ?_⟩) ?_ ?_
                  rotate_left
                  · intro w'
                    go_simp
                    with_reducible rfl
                  rotate_left
                  · simp only [Act.put, List.setIfInBounds_toArray, List.set_cons_zero, List.set_cons_succ]
                    rfl
                  refine pure_ (i := 1) (N := some 59) (v := ?_) (a' := ?_) #[true, true, false, false, false, false, false, false, false, false, false, false, false, false, false, false, false, false, false, false, false, false, false, false] rfl rfl (by kernel_rfl) (fun _ _ _ h => h) (Or.inl ⟨by rfl, ?_⟩) ?_ ?_
                  rotate_left
                  · intro w'
                    go_simp
                    with_reducible rfl
                  rotate_left
                  · simp only [Act.put, List.setIfInBounds_toArray, List.set_cons_zero, List.set_cons_succ]
                    rfl
                  refine pure_ (i := 2) (N := some 60) (v := ?_) (a' := ?_) #[true, true, true, false, false, false, false, false, false, false, false, false, false, false, false, false, false, false, false, false, false, false, false, false] rfl rfl (by kernel_rfl) (fun _ _ _ h => h) (Or.inl ⟨by rfl, ?_⟩) ?_ ?_
                  rotate_left
                  · intro w'
                    go_simp
                    with_reducible rfl
                  rotate_left
                  · simp only [Act.put, List.setIfInBounds_toArray, List.set_cons_zero, List.set_cons_succ]
                    rfl
                  refine pure_ (i := 3) (N := some 61) (v := ?_) (a' := ?_) #[true, true, true, true, false, false, false, false, false, false, false, false, false, false, false, false, false, false, false, false, false, false, false, false] rfl rfl (by kernel_rfl) (fun _ _ _ h => h) (Or.inl ⟨by rfl, ?_⟩) ?_ ?_
                  rotate_left
                  · intro w'
                    go_simp
                    with_reducible rfl
                  rotate_left
                  · simp only [Act.put, List.setIfInBounds_toArray, List.set_cons_zero, List.set_cons_succ]
                    rfl
                  refine pure_ (i := 5) (N := some 63) (v := ?_) (a' := ?_) #[true, true, true, true, false, true, false, false, false, false, false, false, false, false, false, false, false, false, false, false, false, false, false, false] rfl rfl (by kernel_rfl) (fun _ _ _ h => h) (Or.inl ⟨by rfl, ?_⟩) ?_ ?_
                  rotate_left
                  · intro w'
                    go_simp
                    with_reducible rfl
                  rotate_left
                  · simp only [Act.put, List.setIfInBounds_toArray, List.set_cons_zero, List.set_cons_succ]
                    rfl
                  refine pure_ (i := 6) (N := some 64) (v := ?_) (a' := ?_) #[true, true, true, true, false, true, true, false, false, false, false, false, false, false, false, false, false, false, false, false, false, false, false, false] rfl rfl (by kernel_rfl) (fun _ _ _ h => h) (Or.inl ⟨by rfl, ?_⟩) ?_ ?_
                  rotate_left
                  · intro w'
                    go_simp
                    with_reducible rfl
                  rotate_left
                  · simp only [Act.put, List.setIfInBounds_toArray, List.set_cons_zero, List.set_cons_succ]
                    rfl
                  refine pure_ (i := 7) (N := some 65) (v := ?_) (a' := ?_) #[true, true, true, true, false, true, true, true, false, false, false, false, false, false, false, false, false, false, false, false, false, false, false, false] rfl rfl (by kernel_rfl) (fun _ _ _ h => h) (Or.inl ⟨by rfl, ?_⟩) ?_ ?_
                  rotate_left
                  · intro w'
                    go_simp
                    with_reducible rfl
                  rotate_left
                  · simp only [Act.put, List.setIfInBounds_toArray, List.set_cons_zero, List.set_cons_succ]
                    rfl
                  refine pure_ (i := 8) (N := some 66) (v := ?_) (a' := ?_) #[true, true, true, true, false, true, true, true, true, false, false, false, false, false, false, false, false, false, false, false, false, false, false, false] rfl rfl (by kernel_rfl) (fun _ _ _ h => h) (Or.inl ⟨by rfl, ?_⟩) ?_ ?_
                  rotate_left
                  · intro w'
                    go_simp
                    with_reducible rfl
                  rotate_left
                  · simp only [Act.put, List.setIfInBounds_toArray, List.set_cons_zero, List.set_cons_succ]
                    rfl
                  refine take_ (i := 4) (N := some 62) (v := ?_) (a' := ?_) #[true, true, true, true, true, true, true, true, true, false, false, false, false, false, false, false, false, false, false, false, false, false, false, false] rfl rfl (by kernel_rfl) (fun _ _ _ h => h) (Or.inl ⟨by rfl, ?_⟩) hHeld ?_ ?_
                  rotate_left
                  · rintro w' ⟨s0, s1, s2, s3, s4, s5, s6, s7, s8, s9, s10, s11⟩
                    go_simp
                    with_reducible rfl
                  rotate_left
                  · simp only [Act.put, List.setIfInBounds_toArray, List.set_cons_zero, List.set_cons_succ]
                    rfl
                  refine take_ (i := 9) (N := some 67) (v := ?_) (a' := ?_) #[true, true, true, true, true, true, true, true, true, true, false, false, false, false, false, false, false, false, false, false, false, false, false, false] rfl rfl (by kernel_rfl) (fun _ _ _ h => h) (Or.inl ⟨by rfl, ?_⟩) hHeld ?_ ?_
                  rotate_left
                  · rintro w' ⟨s0, s1, s2, s3, s4, s5, s6, s7, s8, s9, s10, s11⟩
                    go_simp
                    with_reducible rfl
                  rotate_left
                  · simp only [Act.put, List.setIfInBounds_toArray, List.set_cons_zero, List.set_cons_succ]
                    rfl
                  refine pure_ (i := 10) (N := some 68) (v := ?_) (a' := ?_) #[true, true, true, true, true, true, true, true, true, true, true, false, false, false, false, false, false, false, false, false, false, false, false, false] rfl rfl (by kernel_rfl) (fun _ _ _ h => h) (Or.inl ⟨by rfl, ?_⟩) ?_ ?_
                  rotate_left
                  · intro w'
                    go_simp
                    with_reducible rfl
                  rotate_left
                  · simp only [Act.put, List.setIfInBounds_toArray, List.set_cons_zero, List.set_cons_succ]
                    rfl
                  refine pure_ (i := 11) (N := some 69) (v := ?_) (a' := ?_) #[true, true, true, true, true, true, true, true, true, true, true, true, false, false, false, false, false, false, false, false, false, false, false, false] rfl rfl (by kernel_rfl) (fun _ _ _ h => h) (Or.inl ⟨by rfl, ?_⟩) ?_ ?_
                  rotate_left
                  · intro w'
                    go_simp
                    with_reducible rfl
                  rotate_left
                  · simp only [Act.put, List.setIfInBounds_toArray, List.set_cons_zero, List.set_cons_succ]
                    rfl
                  refine pure_ (i := 12) (N := some 70) (v := undef) (a' := ?_) #[true, true, true, true, true, true, true, true, true, true, true, true, true, false, false, false, false, false, false, false, false, false, false, false] rfl rfl (by kernel_rfl) (fun _ _ _ h => h) (Or.inr ⟨by rfl, rfl⟩) ?_ ?_
                  rotate_left
                  · simp only [Act.put, List.setIfInBounds_toArray, List.set_cons_zero, List.set_cons_succ]
                    rfl
                  refine pure_ (i := 13) (N := some 71) (v := undef) (a' := ?_) #[true, true, true, true, true, true, true, true, true, true, true, true, true, true, false, false, false, false, false, false, false, false, false, false] rfl rfl (by kernel_rfl) (fun _ _ _ h => h) (Or.inr ⟨by rfl, rfl⟩) ?_ ?_
                  rotate_left
                  · simp only [Act.put, List.setIfInBounds_toArray, List.set_cons_zero, List.set_cons_succ]
                    rfl
                  refine pure_ (i := 14) (N := some 72) (v := undef) (a' := ?_) #[true, true, true, true, true, true, true, true, true, true, true, true, true, true, true, false, false, false, false, false, false, false, false, false] rfl rfl (by kernel_rfl) (fun _ _ _ h => h) (Or.inr ⟨by rfl, rfl⟩) ?_ ?_
                  rotate_left
                  · simp only [Act.put, List.setIfInBounds_toArray, List.set_cons_zero, List.set_cons_succ]
                    rfl
                  refine pure_ (i := 15) (N := some 73) (v := undef) (a' := ?_) #[true, true, true, true, true, true, true, true, true, true, true, true, true, true, true, true, false, false, false, false, false, false, false, false] rfl rfl (by kernel_rfl) (fun _ _ _ h => h) (Or.inr ⟨by rfl, rfl⟩) ?_ ?_
                  rotate_left
                  · simp only [Act.put, List.setIfInBounds_toArray, List.set_cons_zero, List.set_cons_succ]
                    rfl
                  refine pure_ (i := 16) (N := some 74) (v := undef) (a' := ?_) #[true, true, true, true, true, true, true, true, true, true, true, true, true, true, true, true, true, false, false, false, false, false, false, false] rfl rfl (by kernel_rfl) (fun _ _ _ h => h) (Or.inr ⟨by rfl, rfl⟩) ?_ ?_
                  rotate_left
                  · simp only [Act.put, List.setIfInBounds_toArray, List.set_cons_zero, List.set_cons_succ]
                    rfl
                  refine pure_ (i := 17) (N := some 75) (v := undef) (a' := ?_) #[true, true, true, true, true, true, true, true, true, true, true, true, true, true, true, true, true, true, false, false, false, false, false, false] rfl rfl (by kernel_rfl) (fun _ _ _ h => h) (Or.inr ⟨by rfl, rfl⟩) ?_ ?_
                  rotate_left
                  · simp only [Act.put, List.setIfInBounds_toArray, List.set_cons_zero, List.set_cons_succ]
                    rfl
                  refine pure_ (i := 18) (N := some 76) (v := undef) (a' := ?_) #[true, true, true, true, true, true, true, true, true, true, true, true, true, true, true, true, true, true, true, false, false, false, false, false] rfl rfl (by kernel_rfl) (fun _ _ _ h => h) (Or.inr ⟨by rfl, rfl⟩) ?_ ?_
                  rotate_left
                  · simp only [Act.put, List.setIfInBounds_toArray, List.set_cons_zero, List.set_cons_succ]
                    rfl
                  refine pure_ (i := 19) (N := some 77) (v := undef) (a' := ?_) #[true, true, true, true, true, true, true, true, true, true, true, true, true, true, true, true, true, true, true, true, false, false, false, false] rfl rfl (by kernel_rfl) (fun _ _ _ h => h) (Or.inr ⟨by rfl, rfl⟩) ?_ ?_
                  rotate_left
                  · simp only [Act.put, List.setIfInBounds_toArray, List.set_cons_zero, List.set_cons_succ]
                    rfl
                  refine pure_ (i := 20) (N := some 78) (v := undef) (a' := ?_) #[true, true, true, true, true, true, true, true, true, true, true, true, true, true, true, true, true, true, true, true, true, false, false, false] rfl rfl (by kernel_rfl) (fun _ _ _ h => h) (Or.inr ⟨by rfl, rfl⟩) ?_ ?_
                  rotate_left
                  · simp only [Act.put, List.setIfInBounds_toArray, List.set_cons_zero, List.set_cons_succ]
                    rfl
                  refine pure_ (i := 21) (N := some 79) (v := undef) (a' := ?_) #[true, true, true, true, true, true, true, true, true, true, true, true, true, true, true, true, true, true, true, true, true, true, false, false] rfl rfl (by kernel_rfl) (fun _ _ _ h => h) (Or.inr ⟨by rfl, rfl⟩) ?_ ?_
                  rotate_left
                  · simp only [Act.put, List.setIfInBounds_toArray, List.set_cons_zero, List.set_cons_succ]
                    rfl
                  refine pure_ (i := 22) (N := some 80) (v := undef) (a' := ?_) #[true, true, true, true, true, true, true, true, true, true, true, true, true, true, true, true, true, true, true, true, true, true, true, false] rfl rfl (by kernel_rfl) (fun _ _ _ h => h) (Or.inr ⟨by rfl, rfl⟩) ?_ ?_
                  rotate_left
                  · simp only [Act.put, List.setIfInBounds_toArray, List.set_cons_zero, List.set_cons_succ]
                    rfl
                  refine pure_ (i := 23) (N := some 81) (v := ?_) (a' := ?_) #[true, true, true, true, true, true, true, true, true, true, true, true, true, true, true, true, true, true, true, true, true, true, true, true] rfl rfl (by kernel_rfl) (fun _ _ _ h => h) (Or.inl ⟨by rfl, ?_⟩) ?_ ?_
                  rotate_left
                  · intro w'
                    go_simp
                    with_reducible rfl
                  rotate_left
                  · simp only [Act.put, List.setIfInBounds_toArray, List.set_cons_zero, List.set_cons_succ]
                    rfl
                  refine done_ (by kernel_rfl) ?_

                  clear c0 c1 c2 c3 c4 c5 e0 e1 e2 e3 e4 e5
                  go_wp2_with fail
                  go_roundw
                  case rel =>
                    refine ⟨k + 1, by omega, by go_num, ?_, HKA.out.below (Below.refl _ wr).drew⟩
                    rw [HFI2.out]
                    rfl
                  case measure => simp [intOf]; omega
                | true =>
                  rw [hm] at hfil
                  have HFI2 := Lib.hid hfil; clear hfil
                  have hse := hsm hm
                  have hcw := hcw (by injection hse)
                  clear hsm hse hBW hRy hy hg
                  go_upto_region 19 with fail
                  refine start_ (n := 24) (S := fun w' => w'.cell? ⟨g, p + k * 6, none⟩ = some (.string ui) ∧ w'.cell? ⟨g, p + k * 6 + 1, none⟩ = some (.int .i64 u0) ∧ w'.cell? ⟨g, p + k * 6 + 2, none⟩ = some (.int .i64 u1) ∧ w'.cell? ⟨g, p + k * 6 + 3, none⟩ = some (.string u2) ∧ w'.cell? ⟨g, p + k * 6 + 4, none⟩ = some (.slice U3 u3.length m3) ∧ w'.cell? ⟨g, p + k * 6 + 5, none⟩ = some (.slice U4 u4.length m4) ∧ w'.cell? ⟨b, o + j * 6, none⟩ = some (.string vi) ∧ w'.cell? ⟨b, o + j * 6 + 1, none⟩ = some (.int .i64 v0) ∧ w'.cell? ⟨b, o + j * 6 + 2, none⟩ = some (.int .i64 v1) ∧ w'.cell? ⟨b, o + j * 6 + 3, none⟩ = some (.string v2) ∧ w'.cell? ⟨b, o + j * 6 + 4, none⟩ = some (.slice V3 v3.length n3) ∧ w'.cell? ⟨b, o + j * 6 + 5, none⟩ = some (.slice V4 v4.length n4)) (ds := []) #[false, false, false, false, false, false, false, false, false, false, false, false, false, false, false, false, false, false, false, false, false, false, false, false] (by kernel_rfl) rfl rfl ⟨c0, c1, c2, c3, c4, c5, e0, e1, e2, e3, e4, e5⟩ (fun hHeld => ?_)
                  refine pure_ (i := 0) (N := some 58) (v := ?_) (a' := ?_) #[true, false, false, false, false, false, false, false, false, false, false, false, false, false, false, false, false, false, false, false, false, false, false, false] rfl rfl (by kernel_rfl) (fun _ _ _ h => h) (Or.inl ⟨by rfl, ?_⟩) ?_ ?_
                  rotate_left
                  · intro w'
                    go_simp
                    with_reducible rfl
                  rotate_left
                  · simp only [Act.put, List.setIfInBounds_toArray, List.set_cons_zero, List.set_cons_succ]
                    rfl
                  refine pure_ (i := 1) (N := some 59) (v := ?_) (a' := ?_) #[true, true, false, false, false, false, false, false, false, false, false, false, false, false, false, false, false, false, false, false, false, false, false, false] rfl rfl (by kernel_rfl) (fun _ _ _ h => h) (Or.inl ⟨by rfl, ?_⟩) ?_ ?_
                  rotate_left
                  · intro w'
                    go_simp
                    with_reducible rfl
                  rotate_left
                  · simp only [Act.put, List.setIfInBounds_toArray, List.set_cons_zero, List.set_cons_succ]
                    rfl
                  refine pure_ (i := 2) (N := some 60) (v := ?_) (a' := ?_) #[true, true, true, false, false, false, false, false, false, false, false, false, false, false, false, false, false, false, false, false, false, false, false, false] rfl rfl (by kernel_rfl) (fun _ _ _ h => h) (Or.inl ⟨by rfl, ?_⟩) ?_ ?_
                  rotate_left
                  · intro w'
                    go_simp
                    with_reducible rfl
                  rotate_left
                  · simp only [Act.put, List.setIfInBounds_toArray, List.set_cons_zero, List.set_cons_succ]
                    rfl
                  refine pure_ (i := 3) (N := some 61) (v := ?_) (a' := ?_) #[true, true, true, true, false, false, false, false, false, false, false, false, false, false, false, false, false, false, false, false, false, false, false, false] rfl rfl (by kernel_rfl) (fun _ _ _ h => h) (Or.inl ⟨by rfl, ?_⟩) ?_ ?_
                  rotate_left
                  · intro w'
                    go_simp
                    with_reducible rfl
                  rotate_left
                  · simp only [Act.put, List.setIfInBounds_toArray, List.set_cons_zero, List.set_cons_succ]
                    rfl
                  refine pure_ (i := 5) (N := some 63) (v := ?_) (a' := ?_) #[true, true, true, true, false, true, false, false, false, false, false, false, false, false, false, false, false, false, false, false, false, false, false, false] rfl rfl (by kernel_rfl) (fun _ _ _ h => h) (Or.inl ⟨by rfl, ?_⟩) ?_ ?_
                  rotate_left
                  · intro w'
                    go_simp
                    with_reducible rfl
                  rotate_left
                  · simp only [Act.put, List.setIfInBounds_toArray, List.set_cons_zero, List.set_cons_succ]
                    rfl
                  refine pure_ (i := 6) (N := some 64) (v := ?_) (a' := ?_) #[true, true, true, true, false, true, true, false, false, false, false, false, false, false, false, false, false, false, false, false, false, false, false, false] rfl rfl (by kernel_rfl) (fun _ _ _ h => h) (Or.inl ⟨by rfl, ?_⟩) ?_ ?_
                  rotate_left
                  · intro w'
                    go_simp
                    with_reducible rfl
                  rotate_left
                  · simp only [Act.put, List.setIfInBounds_toArray, List.set_cons_zero, List.set_cons_succ]
                    rfl
                  refine pure_ (i := 7) (N := some 65) (v := ?_) (a' := ?_) #[true, true, true, true, false, true, true, true, false, false, false, false, false, false, false, false, false, false, false, false, false, false, false, false] rfl rfl (by kernel_rfl) (fun _ _ _ h => h) (Or.inl ⟨by rfl, ?_⟩) ?_ ?_
                  rotate_left
                  · intro w'
                    go_simp
                    with_reducible rfl
                  rotate_left
                  · simp only [Act.put, List.setIfInBounds_toArray, List.set_cons_zero, List.set_cons_succ]
                    rfl
                  refine pure_ (i := 8) (N := some 66) (v := ?_) (a' := ?_) #[true, true, true, true, false, true, true, true, true, false, false, false, false, false, false, false, false, false, false, false, false, false, false, false] rfl rfl (by kernel_rfl) (fun _ _ _ h => h) (Or.inl ⟨by rfl, ?_⟩) ?_ ?_
                  rotate_left
                  · intro w'
                    go_simp
                    with_reducible rfl
                  rotate_left
                  · simp only [Act.put, List.setIfInBounds_toArray, List.set_cons_zero, List.set_cons_succ]
                    rfl
                  refine take_ (i := 4) (N := some 62) (v := ?_) (a' := ?_) #[true, true, true, true, true, true, true, true, true, false, false, false, false, false, false, false, false, false, false, false, false, false, false, false] rfl rfl (by kernel_rfl) (fun _ _ _ h => h) (Or.inl ⟨by rfl, ?_⟩) hHeld ?_ ?_
                  rotate_left
                  · rintro w' ⟨s0, s1, s2, s3, s4, s5, s6, s7, s8, s9, s10, s11⟩
                    go_simp
                    with_reducible rfl
                  rotate_left
                  · simp only [Act.put, List.setIfInBounds_toArray, List.set_cons_zero, List.set_cons_succ]
                    rfl
                  refine take_ (i := 9) (N := some 67) (v := ?_) (a' := ?_) #[true, true, true, true, true, true, true, true, true, true, false, false, false, false, false, false, false, false, false, false, false, false, false, false] rfl rfl (by kernel_rfl) (fun _ _ _ h => h) (Or.inl ⟨by rfl, ?_⟩) hHeld ?_ ?_
                  rotate_left
                  · rintro w' ⟨s0, s1, s2, s3, s4, s5, s6, s7, s8, s9, s10, s11⟩
                    go_simp
                    with_reducible rfl
                  rotate_left
                  · simp only [Act.put, List.setIfInBounds_toArray, List.set_cons_zero, List.set_cons_succ]
                    rfl
                  refine pure_ (i := 10) (N := some 68) (v := ?_) (a' := ?_) #[true, true, true, true, true, true, true, true, true, true, true, false, false, false, false, false, false, false, false, false, false, false, false, false] rfl rfl (by kernel_rfl) (fun _ _ _ h => h) (Or.inl ⟨by rfl, ?_⟩) ?_ ?_
                  rotate_left
                  · intro w'
                    go_simp
                    with_reducible rfl
                  rotate_left
                  · simp only [Act.put, List.setIfInBounds_toArray, List.set_cons_zero, List.set_cons_succ]
                    rfl
                  refine pure_ (i := 11) (N := some 69) (v := ?_) (a' := ?_) #[true, true, true, true, true, true, true, true, true, true, true, true, false, false, false, false, false, false, false, false, false, false, false, false] rfl rfl (by kernel_rfl) (fun _ _ _ h => h) (Or.inl ⟨by rfl, ?_⟩) ?_ ?_
                  rotate_left
                  · intro w'
                    go_simp
                    with_reducible rfl
                  rotate_left
                  · simp only [Act.put, List.setIfInBounds_toArray, List.set_cons_zero, List.set_cons_succ]
                    rfl
                  refine pure_ (i := 12) (N := some 70) (v := ?_) (a' := ?_) #[true, true, true, true, true, true, true, true, true, true, true, true, true, false, false, false, false, false, false, false, false, false, false, false] rfl rfl (by kernel_rfl) (fun _ _ _ h => h) (Or.inl ⟨by rfl, ?_⟩) ?_ ?_
                  rotate_left
                  · intro w'
                    go_simp
                    with_reducible rfl
                  rotate_left
                  · simp only [Act.put, List.setIfInBounds_toArray, List.set_cons_zero, List.set_cons_succ]
                    rfl
                  refine pure_ (i := 13) (N := some 71) (v := ?_) (a' := ?_) #[true, true, true, true, true, true, true, true, true, true, true, true, true, true, false, false, false, false, false, false, false, false, false, false] rfl rfl (by kernel_rfl) (fun _ _ _ h => h) (Or.inl ⟨by rfl, ?_⟩) ?_ ?_
                  rotate_left
                  · intro w'
                    go_simp
                    with_reducible rfl
                  rotate_left
                  · simp only [Act.put, List.setIfInBounds_toArray, List.set_cons_zero, List.set_cons_succ]
                    rfl
                  refine pure_ (i := 14) (N := some 72) (v := ?_) (a' := ?_) #[true, true, true, true, true, true, true, true, true, true, true, true, true, true, true, false, false, false, false, false, false, false, false, false] rfl rfl (by kernel_rfl) (fun _ _ _ h => h) (Or.inl ⟨by rfl, ?_⟩) ?_ ?_
                  rotate_left
                  · intro w'
                    go_simp
                    with_reducible rfl
                  rotate_left
                  · simp only [Act.put, List.setIfInBounds_toArray, List.set_cons_zero, List.set_cons_succ]
                    rfl
                  refine pure_ (i := 15) (N := some 73) (v := ?_) (a' := ?_) #[true, true, true, true, true, true, true, true, true, true, true, true, true, true, true, true, false, false, false, false, false, false, false, false] rfl rfl (by kernel_rfl) (fun _ _ _ h => h) (Or.inl ⟨by rfl, ?_⟩) ?_ ?_
                  rotate_left
                  · intro w'
                    go_simp
                    with_reducible rfl
                  rotate_left
                  · simp only [Act.put, List.setIfInBounds_toArray, List.set_cons_zero, List.set_cons_succ]
                    rfl
                  refine pure_ (i := 17) (N := some 75) (v := ?_) (a' := ?_) #[true, true, true, true, true, true, true, true, true, true, true, true, true, true, true, true, false, true, false, false, false, false, false, false] rfl rfl (by kernel_rfl) (fun _ _ _ h => h) (Or.inl ⟨by rfl, ?_⟩) ?_ ?_
                  rotate_left
                  · intro w'
                    go_simp
                    with_reducible rfl
                  rotate_left
                  · simp only [Act.put, List.setIfInBounds_toArray, List.set_cons_zero, List.set_cons_succ]
                    rfl
                  refine pure_ (i := 18) (N := some 76) (v := ?_) (a' := ?_) #[true, true, true, true, true, true, true, true, true, true, true, true, true, true, true, true, false, true, true, false, false, false, false, false] rfl rfl (by kernel_rfl) (fun _ _ _ h => h) (Or.inl ⟨by rfl, ?_⟩) ?_ ?_
                  rotate_left
                  · intro w'
                    go_simp
                    with_reducible rfl
                  rotate_left
                  · simp only [Act.put, List.setIfInBounds_toArray, List.set_cons_zero, List.set_cons_succ]
                    rfl
                  refine pure_ (i := 19) (N := some 77) (v := ?_) (a' := ?_) #[true, true, true, true, true, true, true, true, true, true, true, true, true, true, true, true, false, true, true, true, false, false, false, false] rfl rfl (by kernel_rfl) (fun _ _ _ h => h) (Or.inl ⟨by rfl, ?_⟩) ?_ ?_
                  rotate_left
                  · intro w'
                    go_simp
                    with_reducible rfl
                  rotate_left
                  · simp only [Act.put, List.setIfInBounds_toArray, List.set_cons_zero, List.set_cons_succ]
                    rfl
                  refine pure_ (i := 20) (N := some 78) (v := ?_) (a' := ?_) #[true, true, true, true, true, true, true, true, true, true, true, true, true, true, true, true, false, true, true, true, true, false, false, false] rfl rfl (by kernel_rfl) (fun _ _ _ h => h) (Or.inl ⟨by rfl, ?_⟩) ?_ ?_
                  rotate_left
                  · intro w'
                    go_simp
                    with_reducible rfl
                  rotate_left
                  · simp only [Act.put, List.setIfInBounds_toArray, List.set_cons_zero, List.set_cons_succ]
                    rfl
                  refine take_ (i := 16) (N := some 74) (v := ?_) (a' := ?_) #[true, true, true, true, true, true, true, true, true, true, true, true, true, true, true, true, true, true, true, true, true, false, false, false] rfl rfl (by kernel_rfl) (fun _ _ _ h => h) (Or.inl ⟨by rfl, ?_⟩) hHeld ?_ ?_
                  rotate_left
                  · rintro w' ⟨s0, s1, s2, s3, s4, s5, s6, s7, s8, s9, s10, s11⟩
                    go_simp
                    with_reducible rfl
                  rotate_left
                  · simp only [Act.put, List.setIfInBounds_toArray, List.set_cons_zero, List.set_cons_succ]
                    rfl
                  refine take_ (i := 21) (N := some 79) (v := ?_) (a' := ?_) #[true, true, true, true, true, true, true, true, true, true, true, true, true, true, true, true, true, true, true, true, true, true, false, false] rfl rfl (by kernel_rfl) (fun _ _ _ h => h) (Or.inl ⟨by rfl, ?_⟩) hHeld ?_ ?_
                  rotate_left
                  · rintro w' ⟨s0, s1, s2, s3, s4, s5, s6, s7, s8, s9, s10, s11⟩
                    go_simp
                    with_reducible rfl
                  rotate_left
                  · simp only [Act.put, List.setIfInBounds_toArray, List.set_cons_zero, List.set_cons_succ]
                    rfl
                  refine one_ (i := 22) (N := some 80) #[true, true, true, true, true, true, true, true, true, true, true, true, true, true, true, true, true, true, true, true, true, true, true, false] rfl rfl (by kernel_rfl) (by decide) (fun K hK => ?_)
                  refine goes_ Tryd.func27 (by kernel_rfl) rfl #[.agg #[.int .i64 u0, .int .i64 u1, .string u2, .slice U3 u3.length m3, .slice U4 u4.length m4], .agg #[.int .i64 v0, .int .i64 v1, .string v2, .slice V3 v3.length n3, .slice V4 v4.length n4]] (by rfl) rfl rfl (by simp only [List.map_toArray, List.map_cons, List.map_nil]; rfl) ?_
                  with_reducible refine (hcw).mono ?_
                  rintro e w5 ⟨rfl, hbc⟩
                  refine ⟨_, rfl, ?_⟩
                  have hbw : Below wr.heap.size wr w5 := (Below.refl _ wr).drew.trans hbc
                  have HBC := Lib.hid hbw
                  clear hbc hbw
                  refine hK.out _ _ ⟨((HBC.out.cell (World.block_lt_of_cell? wr _ c0)).trans c0), ((HBC.out.cell (World.block_lt_of_cell? wr _ c1)).trans c1), ((HBC.out.cell (World.block_lt_of_cell? wr _ c2)).trans c2), ((HBC.out.cell (World.block_lt_of_cell? wr _ c3)).trans c3), ((HBC.out.cell (World.block_lt_of_cell? wr _ c4)).trans c4), ((HBC.out.cell (World.block_lt_of_cell? wr _ c5)).trans c5), ((HBC.out.cell (World.block_lt_of_cell? wr _ e0)).trans e0), ((HBC.out.cell (World.block_lt_of_cell? wr _ e1)).trans e1), ((HBC.out.cell (World.block_lt_of_cell? wr _ e2)).trans e2), ((HBC.out.cell (World.block_lt_of_cell? wr _ e3)).trans e3), ((HBC.out.cell (World.block_lt_of_cell? wr _ e4)).trans e4), ((HBC.out.cell (World.block_lt_of_cell? wr _ e5)).trans e5)⟩ (fun hHeld => ?_)
                  clear hK K
                  refine norm_ (a' := ?_) ?_ ?_
                  rotate_left
                  · show Act.put _ (some 80) _ = _
                    simp only [Act.put, List.setIfInBounds_toArray, List.set_cons_zero, List.set_cons_succ]
                    rfl
                  refine pure_ (i := 23) (N := some 81) (v := ?_) (a' := ?_) #[true, true, true, true, true, true, true, true, true, true, true, true, true, true, true, true, true, true, true, true, true, true, true, true] rfl rfl (by kernel_rfl) (fun _ _ _ h => h) (Or.inl ⟨by rfl, ?_⟩) ?_ ?_
                  rotate_left
                  · intro w'
                    go_simp
                    with_reducible rfl
                  rotate_left
                  · simp only [Act.put, List.setIfInBounds_toArray, List.set_cons_zero, List.set_cons_succ]
                    rfl
                  refine done_ (by kernel_rfl) ?_

                  have hka5 := HKA.out.below HBC.out
                  clear c0 c1 c2 c3 c4 c5 e0 e1 e2 e3 e4 e5 hcw HKA HBC
                  have HKA := Lib.hid hka5; clear hka5
                  go_wp2_with fail
                  go_roundw
                  case rel =>
                    refine ⟨k + 1, by omega, by go_num, ?_, HKA.out⟩
                    rw [HFI2.out]
                    go_num
                  case measure => simp [intOf]; omega
              · have hnl : ¬ (k : Int) < (ys.length : Int) := by omega
                have hT1 : T = 1 := by
                  rw [← HTT.out, show k = ys.length by omega, List.take_length]
                  first | exact HONE.out rfl | exact HONE.out trivial
                subst hT1
                clear HTT
                go_wp2_with fail
                go_roundw
                case rel =>
                  refine ⟨j + 1, by omega, by go_num, ?_, HKA.out⟩
                  rw [HFIL.out]
                  go_num
                case measure => simp [intOf]; omega
        · have hnl : ¬ (j : Int) < (dl.length : Int) := by omega
          have hNy : N = ys.length := by
            have h1 := HALL.out.len
            rw [List.filter_map, List.length_map, List.length_map] at h1
            rw [← h1, ← HN.out, show j = dl.length by omega, List.take_length]
            rfl
          subst hNy
          clear HN
          go_wp2_with fail
          go_loopw [11] (fun v11 wr => ∃ j : Nat, 1 ≤ j ∧ j ≤ 41 ∧ v11 = .int .i64 j ∧ Ka w ⟨⟨x0, x1, x2, x3, x4⟩, srt, [], 0, 0⟩ ⟨F3, f3, F4, f4, So, so, none, 0⟩ r ys wr) (fun v11 _ => ys.length - (intOf v11).toNat)
          case atStart => exact ⟨1, Nat.le_refl _, by omega, rfl, HKA.out⟩
          case round =>
            obtain ⟨j, hj1, hj2, rfl, hka⟩ := hrel
            clear HKA
            have HKA := Lib.hid hka; clear hka
            by_cases hlt : j < ys.length
            · have hji : (j : Int) < (ys.length : Int) := by omega
              obtain ⟨k, hk1⟩ : ∃ k, k + 1 = j := ⟨j - 1, by omega⟩
              obtain ⟨x, hx⟩ : ∃ x, ys[j]? = some x := ⟨_, List.getElem?_eq_getElem hlt⟩
              obtain ⟨y, hy⟩ : ∃ y, ys[k]? = some y := ⟨_, List.getElem?_eq_getElem (by omega)⟩
              obtain ⟨g, p, rfl, hg, c0, c1, c2, c3, c4, c5, hRy⟩ := HKA.out.l.get k y hy
              obtain ⟨g2, p2, eg, hg2, e0, e1, e2, e3, e4, e5, hRx⟩ := HKA.out.l.get j x hx
              obtain ⟨rfl, rfl⟩ : g = g2 ∧ p = p2 := by simpa using eg
              have hls := HALL.out.less k y.d x.d (by rw [List.getElem?_map, hy]; rfl) (by rw [hk1, List.getElem?_map, hx]; rfl)
              have hwk : IntKind.i64.wrap ((j : Int) - 1) = (k : Int) := by rw [IntKind.wrap_i64]; omega
              have hki : (k : Int) < (ys.length : Int) := by omega
              have hBW := HKA.out.b
              have hbd : BdQ ⟨⟨x0, x1, x2, x3, x4⟩, srt, [], 0, 0⟩ := HBD.out
              have hcw := less_any ⟨⟨x0, x1, x2, x3, x4⟩, srt, [], 0, 0⟩ ⟨F3, f3, F4, f4, So, so, none, 0⟩ y.d x.d y.A3 y.c3 y.A4 y.c4 x.A3 x.c3 x.A4 x.c4 wr.drew ⟨HQ.out.rd.below hBW.drew, Kd.C_below HQ.out.so hBW.drew, Kd.C_nil _ _⟩ hbd (hRy.below (Below.refl _ wr).drew) (hRx.below (Below.refl _ wr).drew) (HT.out.below hBW.drew)
              have hcx := fun W (hb : Below wr.heap.size wr W) => less_any ⟨⟨x0, x1, x2, x3, x4⟩, srt, [], 0, 0⟩ ⟨F3, f3, F4, f4, So, so, none, 0⟩ x.d y.d x.A3 x.c3 x.A4 x.c4 y.A3 y.c3 y.A4 y.c4 W ⟨HQ.out.rd.below (hBW.trans (hb.mono hBW.size)), Kd.C_below HQ.out.so (hBW.trans (hb.mono hBW.size)), Kd.C_nil _ _⟩ hbd (hRx.below hb) (hRy.below hb) (HT.out.below (hBW.trans (hb.mono hBW.size)))
              rw [decide_eq_true hls.1] at hcw
              simp only [decide_eq_false hls.2] at hcx
              obtain ⟨⟨ui, u0, u1, u2, u3, u4⟩, U3, m3, U4, m4⟩ := y
              obtain ⟨⟨vi, v0, v1, v2, v3, v4⟩, V3, n3, V4, n4⟩ := x
              simp only [qv, dv, List.length_nil] at hcw hcx c0 c1 c2 c3 c4 c5 e0 e1 e2 e3 e4 e5
              have HCX := Lib.hid hcx; clear hcx
              have p0 : wr.cell? ⟨w.heap.size, 0, none⟩ = some (.int .i64 x0) := (blk_cell HKA.out.k0 0).trans rfl
              have p1 : wr.cell? ⟨w.heap.size, 1, none⟩ = some (.int .i64 x1) := (blk_cell HKA.out.k0 1).trans rfl
              have p2 : wr.cell? ⟨w.heap.size, 2, none⟩ = some (.string x2) := (blk_cell HKA.out.k0 2).trans rfl
              have p3 : wr.cell? ⟨w.heap.size, 3, none⟩ = some (.slice F3 x3.length f3) := (blk_cell HKA.out.k0 3).trans rfl
              have p4 : wr.cell? ⟨w.heap.size, 4, none⟩ = some (.slice F4 x4.length f4) := (blk_cell HKA.out.k0 4).trans rfl
              have p5 : wr.cell? ⟨w.heap.size, 5, none⟩ = some (.slice So srt.length so) := (blk_cell HKA.out.k0 5).trans rfl
              have p6 : wr.cell? ⟨w.heap.size, 6, none⟩ = some (.slice none 0 0) := (blk_cell HKA.out.k0 6).trans rfl
              have p7 : wr.cell? ⟨w.heap.size, 7, none⟩ = some (.int .i64 0) := (blk_cell HKA.out.k0 7).trans rfl
              have p8 : wr.cell? ⟨w.heap.size, 8, none⟩ = some (.int .i64 0) := (blk_cell HKA.out.k0 8).trans rfl
              clear hls hBW hRx hRy hx hy hg hg2 hk1 hbd eg
              go_upto_region 26 with fail
              refine start_ (n := 25) (S := fun w' => w'.cell? ⟨w.heap.size, 0, none⟩ = some (.int .i64 x0) ∧ w'.cell? ⟨w.heap.size, 1, none⟩ = some (.int .i64 x1) ∧ w'.cell? ⟨w.heap.size, 2, none⟩ = some (.string x2) ∧ w'.cell? ⟨w.heap.size, 3, none⟩ = some (.slice F3 x3.length f3) ∧ w'.cell? ⟨w.heap.size, 4, none⟩ = some (.slice F4 x4.length f4) ∧ w'.cell? ⟨w.heap.size, 5, none⟩ = some (.slice So srt.length so) ∧ w'.cell? ⟨w.heap.size, 6, none⟩ = some (.slice none 0 0) ∧ w'.cell? ⟨w.heap.size, 7, none⟩ = some (.int .i64 0) ∧ w'.cell? ⟨w.heap.size, 8, none⟩ = some (.int .i64 0) ∧ w'.cell? ⟨g, p + k * 6, none⟩ = some (.string ui) ∧ w'.cell? ⟨g, p + k * 6 + 1, none⟩ = some (.int .i64 u0) ∧ w'.cell? ⟨g, p + k * 6 + 2, none⟩ = some (.int .i64 u1) ∧ w'.cell? ⟨g, p + k * 6 + 3, none⟩ = some (.string u2) ∧ w'.cell? ⟨g, p + k * 6 + 4, none⟩ = some (.slice U3 u3.length m3) ∧ w'.cell? ⟨g, p + k * 6 + 5, none⟩ = some (.slice U4 u4.length m4) ∧ w'.cell? ⟨g, p + j * 6, none⟩ = some (.string vi) ∧ w'.cell? ⟨g, p + j * 6 + 1, none⟩ = some (.int .i64 v0) ∧ w'.cell? ⟨g, p + j * 6 + 2, none⟩ = some (.int .i64 v1) ∧ w'.cell? ⟨g, p + j * 6 + 3, none⟩ = some (.string v2) ∧ w'.cell? ⟨g, p + j * 6 + 4, none⟩ = some (.slice V3 v3.length n3) ∧ w'.cell? ⟨g, p + j * 6 + 5, none⟩ = some (.slice V4 v4.length n4)) (ds := []) #[false, false, false, false, false, false, false, false, false, false, false, false, false, false, false, false, false, false, false, false, false, false, false, false, false] (by kernel_rfl) rfl rfl ⟨p0, p1, p2, p3, p4, p5, p6, p7, p8, c0, c1, c2, c3, c4, c5, e0, e1, e2, e3, e4, e5⟩ (fun hHeld => ?_)
              refine pure_ (i := 1) (N := some 93) (v := ?_) (a' := ?_) #[false, true, false, false, false, false, false, false, false, false, false, false, false, false, false, false, false, false, false, false, false, false, false, false, false] rfl rfl (by kernel_rfl) (fun _ _ _ h => h) (Or.inl ⟨by rfl, ?_⟩) ?_ ?_
              rotate_left
              · intro w'
                go_simp
                with_reducible rfl
              rotate_left
              · simp only [Act.put, List.setIfInBounds_toArray, List.set_cons_zero, List.set_cons_succ]
                rfl
              refine pure_ (i := 2) (N := some 94) (v := ?_) (a' := ?_) #[false, true, true, false, false, false, false, false, false, false, false, false, false, false, false, false, false, false, false, false, false, false, false, false, false] rfl rfl (by kernel_rfl) (fun _ _ _ h => h) (Or.inl ⟨by rfl, ?_⟩) ?_ ?_
              rotate_left
              · intro w'
                go_simp
                with_reducible rfl
              rotate_left
              · simp only [Act.put, List.setIfInBounds_toArray, List.set_cons_zero, List.set_cons_succ]
                rfl
              refine pure_ (i := 3) (N := some 95) (v := ?_) (a' := ?_) #[false, true, true, true, false, false, false, false, false, false, false, false, false, false, false, false, false, false, false, false, false, false, false, false, false] rfl rfl (by kernel_rfl) (fun _ _ _ h => h) (Or.inl ⟨by rfl, ?_⟩) ?_ ?_
              rotate_left
              · intro w'
                go_simp
                with_reducible rfl
              rotate_left
              · simp only [Act.put, List.setIfInBounds_toArray, List.set_cons_zero, List.set_cons_succ]
                rfl
              refine pure_ (i := 4) (N := some 96) (v := ?_) (a' := ?_) #[false, true, true, true, true, false, false, false, false, false, false, false, false, false, false, false, false, false, false, false, false, false, false, false, false] rfl rfl (by kernel_rfl) (fun _ _ _ h => h) (Or.inl ⟨by rfl, ?_⟩) ?_ ?_
              rotate_left
              · intro w'
                go_simp
                with_reducible rfl
              rotate_left
              · simp only [Act.put, List.setIfInBounds_toArray, List.set_cons_zero, List.set_cons_succ]
                rfl
              refine pure_ (i := 6) (N := some 98) (v := ?_) (a' := ?_) #[false, true, true, true, true, false, true, false, false, false, false, false, false, false, false, false, false, false, false, false, false, false, false, false, false] rfl rfl (by kernel_rfl) (fun _ _ _ h => h) (Or.inl ⟨by rfl, ?_⟩) ?_ ?_
              rotate_left
              · intro w'
                go_simp
                with_reducible rfl
              rotate_left
              · simp only [Act.put, List.setIfInBounds_toArray, List.set_cons_zero, List.set_cons_succ]
                rfl
              refine pure_ (i := 7) (N := some 99) (v := ?_) (a' := ?_) #[false, true, true, true, true, false, true, true, false, false, false, false, false, false, false, false, false, false, false, false, false, false, false, false, false] rfl rfl (by kernel_rfl) (fun _ _ _ h => h) (Or.inl ⟨by rfl, ?_⟩) ?_ ?_
              rotate_left
              · intro w'
                go_simp
                with_reducible rfl
              rotate_left
              · simp only [Act.put, List.setIfInBounds_toArray, List.set_cons_zero, List.set_cons_succ]
                rfl
              refine pure_ (i := 8) (N := some 100) (v := ?_) (a' := ?_) #[false, true, true, true, true, false, true, true, true, false, false, false, false, false, false, false, false, false, false, false, false, false, false, false, false] rfl rfl (by kernel_rfl) (fun _ _ _ h => h) (Or.inl ⟨by rfl, ?_⟩) ?_ ?_
              rotate_left
              · intro w'
                go_simp
                with_reducible rfl
              rotate_left
              · simp only [Act.put, List.setIfInBounds_toArray, List.set_cons_zero, List.set_cons_succ]
                rfl
              refine take_ (i := 0) (N := some 92) (v := ?_) (a' := ?_) #[true, true, true, true, true, false, true, true, true, false, false, false, false, false, false, false, false, false, false, false, false, false, false, false, false] rfl rfl (by kernel_rfl) (fun _ _ _ h => h) (Or.inl ⟨by rfl, ?_⟩) hHeld ?_ ?_
              rotate_left
              · rintro w' ⟨s0, s1, s2, s3, s4, s5, s6, s7, s8, s9, s10, s11, s12, s13, s14, s15, s16, s17, s18, s19, s20⟩
                go_simp
                with_reducible rfl
              rotate_left
              · simp only [Act.put, List.setIfInBounds_toArray, List.set_cons_zero, List.set_cons_succ]
                rfl
              refine take_ (i := 5) (N := some 97) (v := ?_) (a' := ?_) #[true, true, true, true, true, true, true, true, true, false, false, false, false, false, false, false, false, false, false, false, false, false, false, false, false] rfl rfl (by kernel_rfl) (fun _ _ _ h => h) (Or.inl ⟨by rfl, ?_⟩) hHeld ?_ ?_
              rotate_left
              · rintro w' ⟨s0, s1, s2, s3, s4, s5, s6, s7, s8, s9, s10, s11, s12, s13, s14, s15, s16, s17, s18, s19, s20⟩
                go_simp
                with_reducible rfl
              rotate_left
              · simp only [Act.put, List.setIfInBounds_toArray, List.set_cons_zero, List.set_cons_succ]
                rfl
              refine take_ (i := 9) (N := some 101) (v := ?_) (a' := ?_) #[true, true, true, true, true, true, true, true, true, true, false, false, false, false, false, false, false, false, false, false, false, false, false, false, false] rfl rfl (by kernel_rfl) (fun _ _ _ h => h) (Or.inl ⟨by rfl, ?_⟩) hHeld ?_ ?_
              rotate_left
              · rintro w' ⟨s0, s1, s2, s3, s4, s5, s6, s7, s8, s9, s10, s11, s12, s13, s14, s15, s16, s17, s18, s19, s20⟩
                go_simp
                with_reducible rfl
              rotate_left
              · simp only [Act.put, List.setIfInBounds_toArray, List.set_cons_zero, List.set_cons_succ]
                rfl
              refine one_ (i := 10) (N := some 102) #[true, true, true, true, true, true, true, true, true, true, true, false, false, false, false, false, false, false, false, false, false, false, false, false, false] rfl rfl (by kernel_rfl) (by decide) (fun K hK => ?_)
              refine goes_ Tryd.func28 (by kernel_rfl) rfl #[.agg #[.int .i64 x0, .int .i64 x1, .string x2, .slice F3 x3.length f3, .slice F4 x4.length f4, .slice So srt.length so, .slice none 0 0, .int .i64 0, .int .i64 0], .agg #[.string ui, .int .i64 u0, .int .i64 u1, .string u2, .slice U3 u3.length m3, .slice U4 u4.length m4], .agg #[.string vi, .int .i64 v0, .int .i64 v1, .string v2, .slice V3 v3.length n3, .slice V4 v4.length n4]] (by rfl) rfl rfl (by simp only [List.map_toArray, List.map_cons, List.map_nil]; rfl) ?_
              with_reducible refine (hcw).mono ?_
              rintro e w5 ⟨rfl, hbc⟩
              refine ⟨_, rfl, ?_⟩
              have hbw : Below wr.heap.size wr w5 := (Below.refl _ wr).drew.trans hbc
              have HBC := Lib.hid hbw
              clear hbc hbw
              have hcx := HCX.out w5 HBC.out
              refine hK.out _ _ ⟨((HBC.out.cell (World.block_lt_of_cell? wr _ p0)).trans p0), ((HBC.out.cell (World.block_lt_of_cell? wr _ p1)).trans p1), ((HBC.out.cell (World.block_lt_of_cell? wr _ p2)).trans p2), ((HBC.out.cell (World.block_lt_of_cell? wr _ p3)).trans p3), ((HBC.out.cell (World.block_lt_of_cell? wr _ p4)).trans p4), ((HBC.out.cell (World.block_lt_of_cell? wr _ p5)).trans p5), ((HBC.out.cell (World.block_lt_of_cell? wr _ p6)).trans p6), ((HBC.out.cell (World.block_lt_of_cell? wr _ p7)).trans p7), ((HBC.out.cell (World.block_lt_of_cell? wr _ p8)).trans p8), ((HBC.out.cell (World.block_lt_of_cell? wr _ c0)).trans c0), ((HBC.out.cell (World.block_lt_of_cell? wr _ c1)).trans c1), ((HBC.out.cell (World.block_lt_of_cell? wr _ c2)).trans c2), ((HBC.out.cell (World.block_lt_of_cell? wr _ c3)).trans c3), ((HBC.out.cell (World.block_lt_of_cell? wr _ c4)).trans c4), ((HBC.out.cell (World.block_lt_of_cell? wr _ c5)).trans c5), ((HBC.out.cell (World.block_lt_of_cell? wr _ e0)).trans e0), ((HBC.out.cell (World.block_lt_of_cell? wr _ e1)).trans e1), ((HBC.out.cell (World.block_lt_of_cell? wr _ e2)).trans e2), ((HBC.out.cell (World.block_lt_of_cell? wr _ e3)).trans e3), ((HBC.out.cell (World.block_lt_of_cell? wr _ e4)).trans e4), ((HBC.out.cell (World.block_lt_of_cell? wr _ e5)).trans e5)⟩ (fun hHeld => ?_)
              clear hK K
              refine norm_ (a' := ?_) ?_ ?_
              rotate_left
              · show Act.put _ (some 102) _ = _
                simp only [Act.put, List.setIfInBounds_toArray, List.set_cons_zero, List.set_cons_succ]
                rfl
              refine pure_ (i := 11) (N := some 103) (v := ?_) (a' := ?_) #[true, true, true, true, true, true, true, true, true, true, true, true, false, false, false, false, false, false, false, false, false, false, false, false, false] rfl rfl (by kernel_rfl) (fun _ _ _ h => h) (Or.inl ⟨by rfl, ?_⟩) ?_ ?_
              rotate_left
              · intro w'
                go_simp
                with_reducible rfl
              rotate_left
              · simp only [Act.put, List.setIfInBounds_toArray, List.set_cons_zero, List.set_cons_succ]
                rfl
              refine pure_ (i := 12) (N := some 104) (v := ?_) (a' := ?_) #[true, true, true, true, true, true, true, true, true, true, true, true, true, false, false, false, false, false, false, false, false, false, false, false, false] rfl rfl (by kernel_rfl) (fun _ _ _ h => h) (Or.inl ⟨by rfl, ?_⟩) ?_ ?_
              rotate_left
              · intro w'
                go_simp
                with_reducible rfl
              rotate_left
              · simp only [Act.put, List.setIfInBounds_toArray, List.set_cons_zero, List.set_cons_succ]
                rfl
              refine pure_ (i := 14) (N := some 106) (v := ?_) (a' := ?_) #[true, true, true, true, true, true, true, true, true, true, true, true, true, false, true, false, false, false, false, false, false, false, false, false, false] rfl rfl (by kernel_rfl) (fun _ _ _ h => h) (Or.inl ⟨by rfl, ?_⟩) ?_ ?_
              rotate_left
              · intro w'
                go_simp
                with_reducible rfl
              rotate_left
              · simp only [Act.put, List.setIfInBounds_toArray, List.set_cons_zero, List.set_cons_succ]
                rfl
              refine pure_ (i := 15) (N := some 107) (v := ?_) (a' := ?_) #[true, true, true, true, true, true, true, true, true, true, true, true, true, false, true, true, false, false, false, false, false, false, false, false, false] rfl rfl (by kernel_rfl) (fun _ _ _ h => h) (Or.inl ⟨by rfl, ?_⟩) ?_ ?_
              rotate_left
              · intro w'
                go_simp
                with_reducible rfl
              rotate_left
              · simp only [Act.put, List.setIfInBounds_toArray, List.set_cons_zero, List.set_cons_succ]
                rfl
              refine pure_ (i := 16) (N := some 108) (v := ?_) (a' := ?_) #[true, true, true, true, true, true, true, true, true, true, true, true, true, false, true, true, true, false, false, false, false, false, false, false, false] rfl rfl (by kernel_rfl) (fun _ _ _ h => h) (Or.inl ⟨by rfl, ?_⟩) ?_ ?_
              rotate_left
              · intro w'
                go_simp
                with_reducible rfl
              rotate_left
              · simp only [Act.put, List.setIfInBounds_toArray, List.set_cons_zero, List.set_cons_succ]
                rfl
              refine pure_ (i := 18) (N := some 110) (v := ?_) (a' := ?_) #[true, true, true, true, true, true, true, true, true, true, true, true, true, false, true, true, true, false, true, false, false, false, false, false, false] rfl rfl (by kernel_rfl) (fun _ _ _ h => h) (Or.inl ⟨by rfl, ?_⟩) ?_ ?_
              rotate_left
              · intro w'
                go_simp
                with_reducible rfl
              rotate_left
              · simp only [Act.put, List.setIfInBounds_toArray, List.set_cons_zero, List.set_cons_succ]
                rfl
              refine pure_ (i := 19) (N := some 111) (v := ?_) (a' := ?_) #[true, true, true, true, true, true, true, true, true, true, true, true, true, false, true, true, true, false, true, true, false, false, false, false, false] rfl rfl (by kernel_rfl) (fun _ _ _ h => h) (Or.inl ⟨by rfl, ?_⟩) ?_ ?_
              rotate_left
              · intro w'
                go_simp
                with_reducible rfl
              rotate_left
              · simp only [Act.put, List.setIfInBounds_toArray, List.set_cons_zero, List.set_cons_succ]
                rfl
              refine pure_ (i := 20) (N := some 112) (v := ?_) (a' := ?_) #[true, true, true, true, true, true, true, true, true, true, true, true, true, false, true, true, true, false, true, true, true, false, false, false, false] rfl rfl (by kernel_rfl) (fun _ _ _ h => h) (Or.inl ⟨by rfl, ?_⟩) ?_ ?_
              rotate_left
              · intro w'
                go_simp
                with_reducible rfl
              rotate_left
              · simp only [Act.put, List.setIfInBounds_toArray, List.set_cons_zero, List.set_cons_succ]
                rfl
              refine pure_ (i := 21) (N := some 113) (v := ?_) (a' := ?_) #[true, true, true, true, true, true, true, true, true, true, true, true, true, false, true, true, true, false, true, true, true, true, false, false, false] rfl rfl (by kernel_rfl) (fun _ _ _ h => h) (Or.inl ⟨by rfl, ?_⟩) ?_ ?_
              rotate_left
              · intro w'
                go_simp
                with_reducible rfl
              rotate_left
              · simp only [Act.put, List.setIfInBounds_toArray, List.set_cons_zero, List.set_cons_succ]
                rfl
              refine take_ (i := 13) (N := some 105) (v := ?_) (a' := ?_) #[true, true, true, true, true, true, true, true, true, true, true, true, true, true, true, true, true, false, true, true, true, true, false, false, false] rfl rfl (by kernel_rfl) (fun _ _ _ h => h) (Or.inl ⟨by rfl, ?_⟩) hHeld ?_ ?_
              rotate_left
              · rintro w' ⟨s0, s1, s2, s3, s4, s5, s6, s7, s8, s9, s10, s11, s12, s13, s14, s15, s16, s17, s18, s19, s20⟩
                go_simp
                with_reducible rfl
              rotate_left
              · simp only [Act.put, List.setIfInBounds_toArray, List.set_cons_zero, List.set_cons_succ]
                rfl
              refine take_ (i := 17) (N := some 109) (v := ?_) (a' := ?_) #[true, true, true, true, true, true, true, true, true, true, true, true, true, true, true, true, true, true, true, true, true, true, false, false, false] rfl rfl (by kernel_rfl) (fun _ _ _ h => h) (Or.inl ⟨by rfl, ?_⟩) hHeld ?_ ?_
              rotate_left
              · rintro w' ⟨s0, s1, s2, s3, s4, s5, s6, s7, s8, s9, s10, s11, s12, s13, s14, s15, s16, s17, s18, s19, s20⟩
                go_simp
                with_reducible rfl
              rotate_left
              · simp only [Act.put, List.setIfInBounds_toArray, List.set_cons_zero, List.set_cons_succ]
                rfl
              refine take_ (i := 22) (N := some 114) (v := ?_) (a' := ?_) #[true, true, true, true, true, true, true, true, true, true, true, true, true, true, true, true, true, true, true, true, true, true, true, false, false] rfl rfl (by kernel_rfl) (fun _ _ _ h => h) (Or.inl ⟨by rfl, ?_⟩) hHeld ?_ ?_
              rotate_left
              · rintro w' ⟨s0, s1, s2, s3, s4, s5, s6, s7, s8, s9, s10, s11, s12, s13, s14, s15, s16, s17, s18, s19, s20⟩
                go_simp
                with_reducible rfl
              rotate_left
              · simp only [Act.put, List.setIfInBounds_toArray, List.set_cons_zero, List.set_cons_succ]
                rfl
              refine one_ (i := 23) (N := some 115) #[true, true, true, true, true, true, true, true, true, true, true, true, true, true, true, true, true, true, true, true, true, true, true, true, false] rfl rfl (by kernel_rfl) (by decide) (fun K hK => ?_)
              refine goes_ Tryd.func28 (by kernel_rfl) rfl #[.agg #[.int .i64 x0, .int .i64 x1, .string x2, .slice F3 x3.length f3, .slice F4 x4.length f4, .slice So srt.length so, .slice none 0 0, .int .i64 0, .int .i64 0], .agg #[.string vi, .int .i64 v0, .int .i64 v1, .string v2, .slice V3 v3.length n3, .slice V4 v4.length n4], .agg #[.string ui, .int .i64 u0, .int .i64 u1, .string u2, .slice U3 u3.length m3, .slice U4 u4.length m4]] (by rfl) rfl rfl (by simp only [List.map_toArray, List.map_cons, List.map_nil]; rfl) ?_
              with_reducible refine (hcx).mono ?_
              rintro e w6 ⟨rfl, hbc⟩
              refine ⟨_, rfl, ?_⟩
              have HBC2 := Lib.hid hbc
              clear hbc
              refine hK.out _ _ ⟨((HBC2.out.cell (World.block_lt_of_cell? w5 _ (hHeld.1))).trans (hHeld.1)), ((HBC2.out.cell (World.block_lt_of_cell? w5 _ (hHeld.2.1))).trans (hHeld.2.1)), ((HBC2.out.cell (World.block_lt_of_cell? w5 _ (hHeld.2.2.1))).trans (hHeld.2.2.1)), ((HBC2.out.cell (World.block_lt_of_cell? w5 _ (hHeld.2.2.2.1))).trans (hHeld.2.2.2.1)), ((HBC2.out.cell (World.block_lt_of_cell? w5 _ (hHeld.2.2.2.2.1))).trans (hHeld.2.2.2.2.1)), ((HBC2.out.cell (World.block_lt_of_cell? w5 _ (hHeld.2.2.2.2.2.1))).trans (hHeld.2.2.2.2.2.1)), ((HBC2.out.cell (World.block_lt_of_cell? w5 _ (hHeld.2.2.2.2.2.2.1))).trans (hHeld.2.2.2.2.2.2.1)), ((HBC2.out.cell (World.block_lt_of_cell? w5 _ (hHeld.2.2.2.2.2.2.2.1))).trans (hHeld.2.2.2.2.2.2.2.1)), ((HBC2.out.cell (World.block_lt_of_cell? w5 _ (hHeld.2.2.2.2.2.2.2.2.1))).trans (hHeld.2.2.2.2.2.2.2.2.1)), ((HBC2.out.cell (World.block_lt_of_cell? w5 _ (hHeld.2.2.2.2.2.2.2.2.2.1))).trans (hHeld.2.2.2.2.2.2.2.2.2.1)), ((HBC2.out.cell (World.block_lt_of_cell? w5 _ (hHeld.2.2.2.2.2.2.2.2.2.2.1))).trans (hHeld.2.2.2.2.2.2.2.2.2.2.1)), ((HBC2.out.cell (World.block_lt_of_cell? w5 _ (hHeld.2.2.2.2.2.2.2.2.2.2.2.1))).trans (hHeld.2.2.2.2.2.2.2.2.2.2.2.1)), ((HBC2.out.cell (World.block_lt_of_cell? w5 _ (hHeld.2.2.2.2.2.2.2.2.2.2.2.2.1))).trans (hHeld.2.2.2.2.2.2.2.2.2.2.2.2.1)), ((HBC2.out.cell (World.block_lt_of_cell? w5 _ (hHeld.2.2.2.2.2.2.2.2.2.2.2.2.2.1))).trans (hHeld.2.2.2.2.2.2.2.2.2.2.2.2.2.1)), ((HBC2.out.cell (World.block_lt_of_cell? w5 _ (hHeld.2.2.2.2.2.2.2.2.2.2.2.2.2.2.1))).trans (hHeld.2.2.2.2.2.2.2.2.2.2.2.2.2.2.1)), ((HBC2.out.cell (World.block_lt_of_cell? w5 _ (hHeld.2.2.2.2.2.2.2.2.2.2.2.2.2.2.2.1))).trans (hHeld.2.2.2.2.2.2.2.2.2.2.2.2.2.2.2.1)), ((HBC2.out.cell (World.block_lt_of_cell? w5 _ (hHeld.2.2.2.2.2.2.2.2.2.2.2.2.2.2.2.2.1))).trans (hHeld.2.2.2.2.2.2.2.2.2.2.2.2.2.2.2.2.1)), ((HBC2.out.cell (World.block_lt_of_cell? w5 _ (hHeld.2.2.2.2.2.2.2.2.2.2.2.2.2.2.2.2.2.1))).trans (hHeld.2.2.2.2.2.2.2.2.2.2.2.2.2.2.2.2.2.1)), ((HBC2.out.cell (World.block_lt_of_cell? w5 _ (hHeld.2.2.2.2.2.2.2.2.2.2.2.2.2.2.2.2.2.2.1))).trans (hHeld.2.2.2.2.2.2.2.2.2.2.2.2.2.2.2.2.2.2.1)), ((HBC2.out.cell (World.block_lt_of_cell? w5 _ (hHeld.2.2.2.2.2.2.2.2.2.2.2.2.2.2.2.2.2.2.2.1))).trans (hHeld.2.2.2.2.2.2.2.2.2.2.2.2.2.2.2.2.2.2.2.1)), ((HBC2.out.cell (World.block_lt_of_cell? w5 _ (hHeld.2.2.2.2.2.2.2.2.2.2.2.2.2.2.2.2.2.2.2.2))).trans (hHeld.2.2.2.2.2.2.2.2.2.2.2.2.2.2.2.2.2.2.2.2))⟩ (fun hHeld => ?_)
              clear hK K
              refine norm_ (a' := ?_) ?_ ?_
              rotate_left
              · show Act.put _ (some 115) _ = _
                simp only [Act.put, List.setIfInBounds_toArray, List.set_cons_zero, List.set_cons_succ]
                rfl
              refine pure_ (i := 24) (N := some 116) (v := ?_) (a' := ?_) #[true, true, true, true, true, true, true, true, true, true, true, true, true, true, true, true, true, true, true, true, true, true, true, true, true] rfl rfl (by kernel_rfl) (fun _ _ _ h => h) (Or.inl ⟨by rfl, ?_⟩) ?_ ?_
              rotate_left
              · intro w'
                go_simp
                with_reducible rfl
              rotate_left
              · simp only [Act.put, List.setIfInBounds_toArray, List.set_cons_zero, List.set_cons_succ]
                rfl
              refine done_ (by kernel_rfl) ?_

              have hka5 := HKA.out.below (HBC.out.trans (HBC2.out.mono HBC.out.size))
              clear c0 c1 c2 c3 c4 c5 e0 e1 e2 e3 e4 e5 hcw HKA HBC HBC2 p0 p1 p2 p3 p4 p5 p6 p7 p8 HCX
              have HKA := Lib.hid hka5; clear hka5
              go_wp2_with fail
              go_roundw
              case rel => exact ⟨j + 1, by omega, by omega, by go_num, HKA.out⟩
              case measure => simp [intOf]; omega
            · have hnl : ¬ (j : Int) < (ys.length : Int) := by omega
              go_wp2_with fail
              go_ret
              exact ⟨by simp, HKA.out.b⟩
theorem allL_docs (q : Qy) (z : Qa) (docs : List S42) (A : Option Addr) (c : Nat) (w : World) (hQ : RdQ w q z) (hM : Rm q z) (hD : Kd.C k42 w A docs.length docs) (hcd : docs.length ≤ c) (hT : Tabs w) :
    Calls Tryd.prog 10 #[qv q z, .slice A docs.length c] w fun e w' => e = .returned (.bool true) ∧ Below w.heap.size w w' := by
  obtain ⟨dl, rfl, hRD⟩ := docs_of hD
  rw [List.length_map] at hD hcd ⊢
  exact allL_any q z dl A c w hQ hM hD hRD hcd hT
end Go.Proofs.YtehdnjegipcpfaaDoor
