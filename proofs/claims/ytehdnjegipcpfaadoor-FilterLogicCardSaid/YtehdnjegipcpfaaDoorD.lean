/-
  The contract of json.formed and of json.Formed, under utf8's tables.
-/
import Derived.Test.YtehdnjegipcpfaaDoorC
import Derived.Deep.DeepCutAuto
import Derived.Laws.Cover1
namespace Go.Proofs.YtehdnjegipcpfaaDoor
open Go.RowKit Go.Proofs.YtehdnjegipcpfaaDoorW.PrintWords Go.Proofs.YtehdnjegipcpfaaDoorW.PrintLast Go.Proofs.YtehdnjegipcpfaaDoorW.PrintMore
open PFilterHolds Go.Shelf

/-- What a call of formed at a depth answers. -/
def FormedAt (k : Nat) : Prop := ∀ (x : S25) (A3 : Option Addr) (c3 : Nat) (A4 : Option Addr) (c4 : Nat) (w : World), Rd w A3 c3 A4 c4 x → Tabs w →
    Calls Tryd.prog 34 #[av x A3 c3 A4 c4, .int .i64 k] w fun e w' => e = .returned (.bool (formedJ k x)) ∧ Below w.heap.size w w'

theorem any_not (f : S25 → Bool) : ∀ l : List S25, l.any (fun y => !f y) = !l.all f
  | [] => rfl
  | x :: l => by simp only [List.any_cons, List.all_cons, any_not f l, Bool.not_and]

set_option maxHeartbeats 1000000 in
theorem formed1_any (k : Nat) (hk : k ≤ 100) (ih : FormedAt k) (x : S25) (A3 : Option Addr) (c3 : Nat) (A4 : Option Addr) (c4 : Nat) (g : Nat) (w : World) (h : Rd w A3 c3 A4 c4 x) (hT : Tabs w) (hc : w.cell? ⟨g, 0, none⟩ = some (.int .i64 ((k : Int) + 1))) :
    Calls Tryd.prog 58 #[av x A3 c3 A4 c4, .pointer (some ⟨g, 0, none⟩)] w fun e w' => e = .returned (.bool (!formedJ k x)) ∧ Below w.heap.size w w' := by
  have hb0 : Below w.heap.size w (w.alloc (.cells #[.int .i64 x.f0, .int .i64 x.f1, .string x.f2, .slice A3 x.f3.length c3, .slice A4 x.f4.length c4] 25)) := (Below.refl _ w).alloc (Nat.le_refl _) _
  have hX := ih x A3 c3 A4 c4 _ (h.below hb0) (hT.below hb0)
  have hg := World.block_lt_of_cell? w _ hc
  have hc1 := (hb0.cell hg).trans hc
  obtain ⟨x0, x1, x2, x3, x4⟩ := x
  generalize formedJ k ⟨x0, x1, x2, x3, x4⟩ = r at hX
  have HB0 := Lib.hid hb0; clear hb0
  clear h hT hc ih
  go_enter Tryd.func58, Tryd.ntmps58
  go_wp2_with fail
  refine hX.mono ?_; rintro e w' ⟨rfl, hb⟩
  go_wp2
  go_ret
  exact ⟨rfl, HB0.out.trans (hb.mono HB0.out.size)⟩

set_option maxRecDepth 100000 in
set_option maxHeartbeats 4000000 in
theorem formed_good (k : Nat) (hk : k ≤ 100) (ih : FormedAt k) (x : S25) (A3 : Option Addr) (c3 : Nat) (A4 : Option Addr) (c4 : Nat) (w : World) (h : Rd w A3 c3 A4 c4 x) (hT : Tabs w) (hd : headJ x = true) :
    Calls Tryd.prog 34 #[av x A3 c3 A4 c4, .int .i64 ((k : Int) + 1)] w fun e w' => e = .returned (.bool (formedJ (k + 1) x)) ∧ Below w.heap.size w w' := by
  obtain ⟨x0, x1, x2, x3, x4⟩ := x
  unfold formedJ
  rw [hd, Bool.true_and]
  obtain ⟨ANS, hANS⟩ : ∃ ANS, (if x0 < 5 then x4.length == 0 && x3.length == 0 else decide (x4.length ≤ 24) && x3.length == (if x0 = 6 then x4.length else 0) && namesJ x3 && x4.all (formedJ k)) = ANS := ⟨_, rfl⟩
  rw [hANS]
  have HA := Lib.hid hANS; clear hANS
  unfold headJ at hd
  simp only [Bool.and_eq_true, decide_eq_true_eq] at hd
  obtain ⟨⟨⟨⟨d1, d2⟩, d3⟩, d4⟩, d5⟩ := hd
  have hb0 := two_boxes w (.cells #[.int .i64 x0, .int .i64 x1, .string x2, .slice A3 x3.length c3, .slice A4 x4.length c4] 25) (.cells #[.int .i64 ((k : Int) + 1)] 3)
  have hX := text_any x2 _ (hT.below hb0)
  rw [d5] at hX
  have HB0 := Lib.hid hb0; clear hb0
  have b1 : ((k : Int) + 1 == 0) = false := by simp; omega
  have b2 : decide (x0 < 0) = false := decide_eq_false (by omega)
  have b3 : decide (6 < x0) = false := decide_eq_false (by omega)
  have c4' : (x0 != 3) = false ∨ ((x0 != 3) = true ∧ (x1 != 0) = false) := by
    revert d3; simp only [bne]; cases (x0 == 3) <;> cases (x1 == 0) <;> simp
  have c6' : (x0 != 4) = false ∨ ((x0 != 4) = true ∧ x2.toList.isEmpty = true) := by
    revert d4; simp only [bne]; cases (x0 == 4) <;> cases x2.toList.isEmpty <;> simp
  clear d3 d4 d5
  go_enter Tryd.func34, Tryd.ntmps34
  go_upto_region 1 with fail
  go_cut [45] from 8 to 45 (fun c wx => c = .bool false ∧ Below w.heap.size w wx ∧ wx.heap[w.heap.size]? = some (.cells #[.int .i64 x0, .int .i64 x1, .string x2, .slice A3 x3.length c3, .slice A4 x4.length c4] 25 (0, 0)) ∧ wx.heap[w.heap.size + 1]? = some (.cells #[.int .i64 ((k : Int) + 1)] 3 (0, 0)))
  case first =>
    have fin : ∀ (w' : World), Below ((w.alloc (.cells #[.int .i64 x0, .int .i64 x1, .string x2, .slice A3 x3.length c3, .slice A4 x4.length c4] 25)).alloc (.cells #[.int .i64 ((k : Int) + 1)] 3)).heap.size ((w.alloc (.cells #[.int .i64 x0, .int .i64 x1, .string x2, .slice A3 x3.length c3, .slice A4 x4.length c4] 25)).alloc (.cells #[.int .i64 ((k : Int) + 1)] 3)) w' →
        (Value.bool false = Value.bool false ∧ Below w.heap.size w w' ∧ w'.heap[w.heap.size]? = some (.cells #[.int .i64 x0, .int .i64 x1, .string x2, .slice A3 x3.length c3, .slice A4 x4.length c4] 25 (0, 0)) ∧ w'.heap[w.heap.size + 1]? = some (.cells #[.int .i64 ((k : Int) + 1)] 3 (0, 0))) := fun w' hb =>
      ⟨rfl, HB0.out.trans (hb.mono HB0.out.size), (hb.block _ (by simp; omega)).trans (two_boxes_0 _ _ _), (hb.block _ (by simp)).trans (two_boxes_1 _ _ _)⟩
    have FIN := Lib.hid fin; clear fin
    rcases c4' with b4 | ⟨b4, b5⟩
    · rcases c6' with b6 | ⟨b6, b7⟩
      · go_wp2_with fail
        refine hX.mono ?_; rintro e w' ⟨rfl, hb⟩
        go_wp2
        go_meet
        exact ⟨rfl, (FIN.out _ hb).2⟩
      · go_wp2_with fail
        refine hX.mono ?_; rintro e w' ⟨rfl, hb⟩
        go_wp2
        go_meet
        exact ⟨rfl, (FIN.out _ hb).2⟩
    · rcases c6' with b6 | ⟨b6, b7⟩
      · go_wp2_with fail
        refine hX.mono ?_; rintro e w' ⟨rfl, hb⟩
        go_wp2
        go_meet
        exact ⟨rfl, (FIN.out _ hb).2⟩
      · go_wp2_with fail
        refine hX.mono ?_; rintro e w' ⟨rfl, hb⟩
        go_wp2
        go_meet
        exact ⟨rfl, (FIN.out _ hb).2⟩
  case rest =>
    obtain ⟨rfl, hB, k0, k1⟩ := hcut
    clear hX HB0 c4' c6'
    have f0 : wc.cell? ⟨w.heap.size, 0, none⟩ = some (.int .i64 x0) := (blk_cell k0 0).trans rfl
    have f3 : wc.cell? ⟨w.heap.size, 3, none⟩ = some (.slice A3 x3.length c3) := (blk_cell k0 3).trans rfl
    have f4 : wc.cell? ⟨w.heap.size, 4, none⟩ = some (.slice A4 x4.length c4) := (blk_cell k0 4).trans rfl
    have fl : wc.cell? ⟨w.heap.size + 1, 0, none⟩ = some (.int .i64 ((k : Int) + 1)) := (blk_cell k1 0).trans rfl
    have HK0 := Lib.hid k0; clear k0
    have HK1 := Lib.hid k1; clear k1
    have HB := Lib.hid hB; clear hB
    by_cases h5 : x0 < 5
    · have b5 : decide (x0 < 5) = true := decide_eq_true h5
      have hA := HA.out
      rw [if_pos h5] at hA
      cases e4 : ((x4.length : Int) == 0) with
      | false =>
        have hz : (x4.length == 0) = false := by simpa using e4
        rw [hz, Bool.false_and] at hA
        subst hA
        clear HA hz h5
        go_wp2
        go_ret
        exact ⟨rfl, HB.out⟩
      | true =>
        have hz : (x4.length == 0) = true := by simpa using e4
        rw [hz, Bool.true_and] at hA
        clear HA hz h5
        go_wp2
        go_ret
        exact ⟨by rw [← hA]; cases x3 <;> simp <;> omega, HB.out⟩
    · have b5 : decide (x0 < 5) = false := decide_eq_false h5
      have hA := HA.out
      rw [if_neg h5] at hA
      clear HA
      have HA := Lib.hid hA; clear hA
      go_upto_if 61 with fail
      go_cut [5] from 61 to 64 (fun v wx => v = .int .i64 ((if x0 = 6 then x4.length else 0 : Nat) : Int) ∧ wx = wc)
      case first =>
        cases b6 : (x0 == 6) with
        | false =>
          go_wp2_with fail
          go_meet
          rw [if_neg (by simpa using b6)]
          exact ⟨rfl, rfl⟩
        | true =>
          go_wp2_with fail
          go_meet
          rw [if_pos (by simpa using b6)]
          exact ⟨rfl, rfl⟩
      case rest =>
        obtain ⟨rfl, rfl⟩ := hcut
        generalize hwant : (if x0 = 6 then x4.length else 0) = want at HA
        have HWANT := Lib.hid hwant; clear hwant
        by_cases h8 : 24 < x4.length
        · have b8 : decide (24 < (x4.length : Int)) = true := decide_eq_true (by omega)
          have hA := HA.out
          rw [decide_eq_false (by omega : ¬ x4.length ≤ 24)] at hA
          simp only [Bool.false_and] at hA
          subst hA
          clear HA
          go_wp2
          go_ret
          exact ⟨rfl, HB.out⟩
        · have b8 : decide (24 < (x4.length : Int)) = false := decide_eq_false (by omega)
          by_cases h9 : x3.length = want
          · have b9 : ((x3.length : Int) != (want : Int)) = false := by simp [h9]
            have hA := HA.out
            rw [decide_eq_true (by omega : x4.length ≤ 24), show (x3.length == want) = true by simpa using h9] at hA
            simp only [Bool.true_and] at hA
            clear HA
            have HA := Lib.hid hA; clear hA
            have H := Lib.hid h; clear h
            have HT := Lib.hid hT; clear hT
            have HI := Lib.hid ih; clear ih
            have hw24 : x4.length ≤ 24 := by omega
            have hw3 : x3.length ≤ 24 := by rw [h9, ← HWANT.out]; split <;> omega
            clear h5 b5 b1 b2 b3 d1 d2 h8
            go_wp2_with fail
            go_loopw [6, 7, 79] (fun v6 v7 v79 wr => ∃ j : Nat, j ≤ x3.length ∧ v79 = .int .i64 j ∧ (∀ i, i < j → okAt x3 i = true) ∧ Below wc.heap.size wc wr) (fun _ _ v79 _ => x3.length - (intOf v79).toNat)
            case atStart => exact ⟨0, Nat.zero_le _, rfl, fun i hi => absurd hi (Nat.not_lt_zero _), Below.refl _ _⟩
            case round =>
              obtain ⟨j, hj, rfl, hok, hBr⟩ := hrel
              have HO := Lib.hid hok; clear hok
              have HR := Lib.hid hBr; clear hBr
              have l0 := blk_lt HK0.out
              have f0r := (HR.out.cell (p := ⟨w.heap.size, 0, none⟩) l0).trans f0
              have f3r := (HR.out.cell (p := ⟨w.heap.size, 3, none⟩) l0).trans f3
              have f4r := (HR.out.cell (p := ⟨w.heap.size, 4, none⟩) l0).trans f4
              have flr := (HR.out.cell (p := ⟨w.heap.size + 1, 0, none⟩) (blk_lt HK1.out)).trans fl
              clear l0 f0 f3 f4 fl
              have hBr2 : Below w.heap.size w wr := HB.out.trans (HR.out.mono HB.out.size)
              have HBR := Lib.hid hBr2; clear hBr2
              by_cases hlt : j < x3.length
              · have hji : (j : Int) < (x3.length : Int) := by omega
                obtain ⟨s, hs⟩ : ∃ s, x3[j]? = some s := ⟨_, List.getElem?_eq_getElem hlt⟩
                obtain ⟨b, o, rfl, hb, e0⟩ := name_of (H.out.below HB.out).g3 rfl j s hs
                replace e0 := (HR.out.cell (World.block_lt_of_cell? wc _ e0)).trans e0
                have hX := text_any s wr (HT.out.below HBR.out)
                have hget : x3.getD j ByteArray.empty = s := by rw [List.getD_eq_getElem?_getD, hs]; rfl
                have HS := Lib.hid hs; clear hs
                have HG := Lib.hid hget; clear hget
                have bad : okAt x3 j = false → false = ANS := fun hb => by
                  rw [← HA.out, show namesJ x3 = false from List.all_eq_false.2 ⟨j, by simpa using hlt, by simp [hb]⟩, Bool.false_and]
                have BAD := Lib.hid bad; clear bad
                cases ht : textJ s with
                | false =>
                  have hno := BAD.out (by unfold okAt; rw [HG.out, ht, Bool.false_and])
                  subst hno
                  rw [ht] at hX
                  clear HA BAD
                  go_wp2_with fail
                  refine hX.mono ?_; rintro e w' ⟨rfl, hb'⟩
                  have HB' := Lib.hid hb'; clear hb'
                  go_wp2
                  go_ret
                  exact ⟨rfl, HBR.out.trans (HB'.out.mono HBR.out.size)⟩
                | true =>
                  rw [ht] at hX
                  by_cases hj0 : j = 0
                  · subst hj0
                    have hgood : okAt x3 0 = true := by unfold okAt; rw [HG.out, ht]; rfl
                    have HGD := Lib.hid hgood; clear hgood
                    rw [Nat.add_zero] at e0
                    go_wp2_with fail
                    refine hX.mono ?_; rintro e w' ⟨rfl, hb'⟩
                    have HB' := Lib.hid hb'; clear hb'
                    go_wp2
                    go_roundw
                    case rel =>
                      refine ⟨1, by omega, by go_num, fun i hi => ?_, HR.out.trans (HB'.out.mono HR.out.size)⟩
                      obtain rfl : i = 0 := by omega
                      exact HGD.out
                    case measure => simp [intOf]; omega
                  · obtain ⟨i, rfl⟩ : ∃ i, j = i + 1 := ⟨j - 1, by omega⟩
                    obtain ⟨s', hs'⟩ : ∃ s', x3[i]? = some s' := ⟨_, List.getElem?_eq_getElem (by omega)⟩
                    obtain ⟨b', o', he, hb', e1⟩ := name_of (H.out.below HB.out).g3 rfl i s' hs'
                    obtain ⟨rfl, rfl⟩ : b = b' ∧ o = o' := by simpa using he
                    replace e1 := (HR.out.cell (World.block_lt_of_cell? wc _ e1)).trans e1
                    have hget' : x3.getD i ByteArray.empty = s' := by rw [List.getD_eq_getElem?_getD, hs']; rfl
                    clear he hs'
                    have hokj : okAt x3 (i + 1) = Op.bytesLess s'.toList s.toList := by
                      unfold okAt
                      rw [HG.out, ht, Nat.add_sub_cancel, hget']
                      simp
                    clear hget'
                    have HOK := Lib.hid hokj; clear hokj
                    cases hl : Op.bytesLess s'.toList s.toList with
                    | false =>
                      have hno := BAD.out (by rw [HOK.out, hl])
                      subst hno
                      clear HA BAD
                      go_wp2_with fail
                      refine hX.mono ?_; rintro e w' ⟨rfl, hb'⟩
                      have e1' := (hb'.cell (World.block_lt_of_cell? _ _ e1)).trans e1
                      have f3' := (hb'.cell (World.block_lt_of_cell? _ _ f3r)).trans f3r
                      have HB' := Lib.hid hb'; clear hb'
                      clear hX e1 e0 f0r f3r f4r flr
                      go_wp2
                      go_ret
                      exact ⟨rfl, HBR.out.trans (HB'.out.mono HBR.out.size)⟩
                    | true =>
                      go_wp2_with fail
                      refine hX.mono ?_; rintro e w' ⟨rfl, hb'⟩
                      have e1' := (hb'.cell (World.block_lt_of_cell? _ _ e1)).trans e1
                      have f3' := (hb'.cell (World.block_lt_of_cell? _ _ f3r)).trans f3r
                      have HB' := Lib.hid hb'; clear hb'
                      have HL := Lib.hid hl
                      clear hX e1 e0 f0r f3r f4r flr
                      go_wp2
                      go_roundw
                      case rel =>
                        refine ⟨i + 2, by omega, by go_num, fun i' hi => ?_, HR.out.trans (HB'.out.mono HR.out.size)⟩
                        by_cases hi' : i' < i + 1
                        · exact HO.out i' hi'
                        · obtain rfl : i' = i + 1 := by omega
                          rw [HOK.out, HL.out]
                      case measure => simp [intOf]; omega
              · obtain rfl : j = x3.length := by omega
                have hnm : namesJ x3 = true := List.all_eq_true.2 (fun i hi => HO.out i (by simpa using hi))
                have hA := HA.out
                rw [hnm, Bool.true_and] at hA
                clear HA hnm
                have hH := H.out.below (HB.out.trans (HR.out.mono HB.out.size))
                have hC := contains_any 58 #[.pointer (some ⟨w.heap.size + 1, 0, none⟩)] (fun y => !formedJ k y) (enters_of Tryd.func58 (by kernel_rfl) rfl) A4 c4 x4 wr hH.g4 (fun y hy W B3 d3 B4 d4 hbW hRy => by
                  have hc := (hbW.cell (World.block_lt_of_cell? _ _ flr)).trans flr
                  simpa using formed1_any k hk HI.out y B3 d3 B4 d4 (w.heap.size + 1) W hRy ((HT.out.below HBR.out).below hbW) hc) (by omega)
                have hany : x4.any (fun y => !formedJ k y) = !ANS := by rw [← hA]; exact any_not _ _
                rw [hany] at hC
                have HA := Lib.hid hA; clear hA hany hH
                go_wp2_with fail
                refine hC.mono ?_; rintro e w' ⟨rfl, hb'⟩
                have HB' := Lib.hid hb'; clear hb' hC
                clear f0r f3r f4r flr
                go_wp2
                go_ret
                exact ⟨by simp, HBR.out.trans (HB'.out.mono HBR.out.size)⟩
          · have b9 : ((x3.length : Int) != (want : Int)) = true := by simp; omega
            have hA := HA.out
            rw [show (x3.length == want) = false by simpa using h9] at hA
            simp only [Bool.and_false, Bool.false_and] at hA
            subst hA
            clear HA
            go_wp2
            go_ret
            exact ⟨rfl, HB.out⟩

theorem formed_any : ∀ (k : Nat), k ≤ 100 → FormedAt k
  | 0, _, x, A3, c3, A4, c4, w, h, hT => formed_bad x A3 c3 A4 c4 w 0 (.inl rfl) hT
  | k + 1, hk, x, A3, c3, A4, c4, w, h, hT => by
    cases hd : headJ x with
    | false =>
      have := formed_bad x A3 c3 A4 c4 w (k + 1) (.inr hd) hT
      have e : formedJ (k + 1) x = false := by unfold formedJ; rw [hd, Bool.false_and]
      rw [e]
      exact this
    | true => exact formed_good k (by omega) (formed_any k (by omega)) x A3 c3 A4 c4 w h hT hd

/-- Is a value formed? -/
def fmJ (x : S25) : Bool := formedJ 6 x

theorem Formed_any (x : S25) (A3 : Option Addr) (c3 : Nat) (A4 : Option Addr) (c4 : Nat) (w : World) (h : Rd w A3 c3 A4 c4 x) (hT : Tabs w) :
    Calls Tryd.prog 15 #[av x A3 c3 A4 c4] w fun e w' => e = .returned (.bool (fmJ x)) ∧ Below w.heap.size w w' := by
  have hb0 : Below w.heap.size w (w.alloc (.cells #[.int .i64 x.f0, .int .i64 x.f1, .string x.f2, .slice A3 x.f3.length c3, .slice A4 x.f4.length c4] 25)) := (Below.refl _ w).alloc (Nat.le_refl _) _
  have hX := formed_any 6 (by omega) x A3 c3 A4 c4 _ (h.below hb0) (hT.below hb0)
  obtain ⟨x0, x1, x2, x3, x4⟩ := x
  unfold fmJ
  generalize formedJ 6 ⟨x0, x1, x2, x3, x4⟩ = r at hX
  have HB0 := Lib.hid hb0; clear hb0
  clear h hT
  go_enter Tryd.func15, Tryd.ntmps15
  go_wp2_with fail
  refine hX.mono ?_; rintro e w' ⟨rfl, hb⟩
  go_wp2
  go_ret
  exact ⟨rfl, HB0.out.trans (hb.mono HB0.out.size)⟩

end Go.Proofs.YtehdnjegipcpfaaDoor
