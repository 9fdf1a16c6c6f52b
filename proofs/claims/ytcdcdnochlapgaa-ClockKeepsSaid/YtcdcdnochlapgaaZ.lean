/-
  The law ClockKeeps, its walk.
-/
import Derived.Test.YtcdcdnochlapgaaY
import Derived.Deep.QuietTactic
import Derived.BigQuiet
namespace Go.Proofs.Ytcdcdnochlapgaa
open Go.RowKit Go.Maps Go.Sort Go.Shelf

set_option maxRecDepth 100000 in
set_option maxHeartbeats 1000000 in
theorem keeps_long (r r' : Option Addr) (l l' cap cap' : Nat) (h : 200 < l ∨ 200 < l') (w : World) :
    Calls Try.prog 6 #[.slice r l cap, .slice r' l' cap'] w fun e w' => e = .returned (.bool true) ∧ Below w.heap.size w w' := by
  have hA := awake_any w
  by_cases h1 : 200 < l
  · have hli : 200 < (l : Int) := by omega
    go_enter Try.func6, Try.ntmps6
    go_wp2_with fail
    refine hA.mono ?_; rintro e w1 ⟨rfl, hb1⟩
    have hA2 := awake_any w1
    have HB1 := Lib.hid hb1; clear hb1
    go_wp2_with fail
    refine hA2.mono ?_; rintro e w2 ⟨rfl, hb2⟩
    have HB2 := Lib.hid hb2; clear hb2
    go_wp2
    go_ret
    exact ⟨rfl, HB1.out.trans (HB2.out.mono HB1.out.size)⟩
  · have hli : (l : Int) ≤ 200 := by omega
    have hl2 : 200 < (l' : Int) := by omega
    go_enter Try.func6, Try.ntmps6
    go_wp2_with fail
    refine hA.mono ?_; rintro e w1 ⟨rfl, hb1⟩
    have hA2 := awake_any w1
    have HB1 := Lib.hid hb1; clear hb1
    go_wp2_with fail
    refine hA2.mono ?_; rintro e w2 ⟨rfl, hb2⟩
    have HB2 := Lib.hid hb2; clear hb2
    go_wp2
    go_ret
    exact ⟨rfl, HB1.out.trans (HB2.out.mono HB1.out.size)⟩

set_option maxRecDepth 100000 in
set_option maxHeartbeats 8000000 in
theorem keeps_walk (r r' : Option Addr) (cap cap' : Nat) (ops ops' : List (Int × Int)) (hl : ops.length ≤ 200) (hl' : ops'.length ≤ 200) (hwf : ∀ p ∈ ops, (id64 p.2).wf = true) (hwf' : ∀ p ∈ ops', (id64 p.2).wf = true) (w : World) (hs : Script w r ops) (hs' : Script w r' ops') :
    Calls Try.prog 6 #[.slice r ops.length cap, .slice r' ops'.length cap'] w fun e w' => e = .returned (.bool true) ∧ Below w.heap.size w w' := by
  have hli : ((ops.length : Int)) ≤ 200 := by omega
  have hli' : ((ops'.length : Int)) ≤ 200 := by omega
  have hA := awake_any w
  have HS := Lib.hid hs; clear hs
  have HW := Lib.hid hwf; clear hwf
  have HS' := Lib.hid hs'; clear hs'
  have HW' := Lib.hid hwf'; clear hwf'
  go_enter Try.func6, Try.ntmps6
  go_wp2_with fail
  refine hA.mono ?_; rintro e w1 ⟨rfl, hb1⟩
  have hN := new_any 7 w1
  have HB1 := Lib.hid hb1; clear hb1
  go_wp2_with fail
  refine hN.mono ?_; rintro e w2 ⟨rfl, hc2, hb2⟩
  have h2 := Two.start (base := w.heap.size) (by decide) HB1.out.size hb2 hc2
  have HB2 := Lib.hid hb2; clear hb2
  have HC2 := Lib.hid hc2; clear hc2
  have H2 := Lib.hid h2; clear h2
  go_wp2
  go_loopw [7] (fun v7 wr => ∃ (k : Nat) (s : St), k ≤ ops.length ∧ v7 = .int .i64 k ∧ Two wr w.heap.size (w1.heap.size + 1) w1.heap.size w2.heap.size k s ∧ Below w.heap.size w wr)
    (fun v7 _ => ops.length - (intOf v7).toNat)
  case atStart =>
    refine ⟨0, ⟨7, [], []⟩, Nat.zero_le _, rfl, H2.out, ?_⟩
    exact (HB1.out.trans (HB2.out.mono HB1.out.size)).alloc (Nat.le_trans HB1.out.size HB2.out.size) _
  case round =>
    obtain ⟨k, s, hk, rfl, h2, hB⟩ := hrel
    have HB := Lib.hid hB; clear hB
    by_cases hlt : k < ops.length
    · have hki : (k : Int) < (ops.length : Int) := by omega
      obtain ⟨sb, off, rfl, hcell⟩ := HS.out (by omega)
      obtain ⟨p, hp⟩ : ∃ p, ops[k]? = some p := ⟨_, List.getElem?_eq_getElem hlt⟩
      obtain ⟨e1, e2⟩ := hcell k p hp
      have b1 := (HB.out.cell (World.block_lt_of_cell? w _ e1)).trans e1
      have b2 := (HB.out.cell (World.block_lt_of_cell? w _ e2)).trans e2
      have hid : (id64 p.2).wf = true := HW.out p (List.mem_of_getElem? hp)
      obtain ⟨kd, id⟩ := p
      have hAct := act_any wr h2 (by omega) kd id hid
      have HP := Lib.hid hp; clear hp
      have H2' := Lib.hid h2; clear h2
      clear hcell e1 e2
      go_wp2_with fail
      refine hAct.mono ?_; rintro e wa ⟨rfl, h3, hb3⟩
      have H3 := Lib.hid h3; clear h3
      have HB3 := Lib.hid hb3; clear hb3
      go_wp2
      go_roundw
      case rel => exact ⟨k + 1, _, by omega, by go_num, H3.out, HB.out.trans HB3.out⟩
      case measure => simp [intOf]; omega
    · have hkl : k = ops.length := by omega
      have hki : ¬ (k : Int) < (ops.length : Int) := by omega
      have hk2 : k ≤ 200 := by omega
      have hL := live_two _ h2 (by omega)
      have H2' := Lib.hid h2; clear h2
      clear hkl hlt hk
      go_wp2_with fail
      refine hL.mono ?_; rintro e w3 ⟨lv, rfl, hrow, hb3⟩
      have h3 := H2'.out.below hb3
      have hb03 := HB.out.trans (hb3.mono HB.out.size)
      have hT := take_c _ h3 (by omega) hrow
      obtain ⟨id, hid⟩ : ∃ id : Int, id = (free s.ls : Int) + 1 := ⟨_, rfl⟩
      have hfr := free_le s.ls
      have hfew := h3.1.few
      have hlen := h3.1.len
      have hLL : (liveS s.ls).length ≤ 200 := Nat.le_trans (liveS_length s.ls) (by omega)
      have i1 : 1 ≤ id := by omega
      have i2 : id ≤ 1000 := by omega
      rw [← hid] at hT
      have HI := Lib.hid hid; clear hid
      have HB03 := Lib.hid hb03; clear hb03
      clear hb3 h3 hfr hfew hrow
      go_wp2_with fail
      refine hT.mono ?_; rintro e w4 ⟨rfl, hh4, hrow, hb4⟩
      have hX := now_half _ hh4
      have hW := wtake_half _ hh4 (by omega) hrow
      rw [← HI.out] at hW
      have HB4 := Lib.hid hb4; clear hb4
      clear hrow hh4
      go_wp2_with fail
      refine hX.mono ?_; rintro e w5 ⟨rfl, rfl⟩
      go_wp2_with fail
      refine hW.mono ?_; rintro e w5 ⟨rfl, h5, hrow, hb5⟩
      obtain ⟨rv, cv, rfl, hcell⟩ := row_slice hrow
      have hb05 : Below w.heap.size w w5 := HB03.out.trans (HB4.out.trans hb5)
      have hta := take_alive hlen
      rw [← HI.out] at hta
      have H5 := Lib.hid h5; clear h5
      have HB5 := Lib.hid hb05; clear hb05 hb5
      have HC := Lib.hid hcell; clear hcell
      have HTA := Lib.hid hta; clear hta
      clear hrow hlen
      go_wp2
      go_loop [11] (fun v => ∃ j : Nat, j ≤ (liveS s.ls).length ∧ v = .int .i64 j) (fun v => (liveS s.ls).length - (intOf v).toNat)
      case atStart => exact ⟨0, Nat.zero_le _, rfl⟩
      case round =>
        obtain ⟨j, hj, rfl⟩ := hrel
        by_cases hjl : j < (liveS s.ls).length
        · have hji : (j : Int) < ((liveS s.ls).length : Int) := by omega
          obtain ⟨g, rfl, hg, hcg⟩ := HC.out j hjl
          obtain ⟨x, hx⟩ : ∃ x, (liveS s.ls)[j]? = some x := ⟨_, List.getElem?_eq_getElem hjl⟩
          rw [List.getElem?_map, hx] at hcg
          have hne : (x == id) = false := by
            have h1 := (mem_liveS s.ls x).1 (List.mem_of_getElem? hx)
            have h2 := free_dead s.ls
            rw [← HI.out] at h2
            simp only [beq_eq_false_iff_ne, ne_eq]
            rintro rfl
            rw [h1] at h2
            cases h2
          clear hx
          have hcg' : w5.cell? ⟨g, j, none⟩ = some (.int .i64 x) := hcg
          clear hcg
          go_wp2
          go_round
          case rel => exact ⟨j + 1, by omega, by go_num⟩
          case measure => simp [intOf]; omega
        · have hji : ¬ (j : Int) < ((liveS s.ls).length : Int) := by omega
          go_wp2
          go_loopw [12] (fun v12 wr => ∃ (i : Nat) (s' : St), i ≤ ops'.length ∧ v12 = .int .i64 i ∧ Two wr w.heap.size (w1.heap.size + 1) w1.heap.size w2.heap.size (k + 1 + i) s' ∧ (alive s'.ls id = true ∧ timeOf s'.ts s'.ls id = s.now) ∧ Below w.heap.size w wr)
            (fun v12 _ => ops'.length - (intOf v12).toNat)
          case atStart => exact ⟨0, _, Nat.zero_le _, rfl, H5.out, HTA.out, HB5.out⟩
          case round =>
            obtain ⟨i, s', hi, rfl, h6, hal, hB⟩ := hrel
            have HB6 := Lib.hid hB; clear hB
            by_cases hlt : i < ops'.length
            · have hki2 : (i : Int) < (ops'.length : Int) := by omega
              obtain ⟨sb, off, rfl, hcell⟩ := HS'.out (by omega)
              obtain ⟨p, hp⟩ : ∃ p, ops'[i]? = some p := ⟨_, List.getElem?_eq_getElem hlt⟩
              obtain ⟨e1, e2⟩ := hcell i p hp
              have b1 := (HB6.out.cell (World.block_lt_of_cell? w _ e1)).trans e1
              have b2 := (HB6.out.cell (World.block_lt_of_cell? w _ e2)).trans e2
              have hidw : (id64 p.2).wf = true := HW'.out p (List.mem_of_getElem? hp)
              have hlen := h6.1.len
              obtain ⟨kd, id2⟩ := p
              have hAct := act_any wr h6 (by omega) kd id2 hidw
              have HP := Lib.hid hp; clear hp
              have H6 := Lib.hid h6; clear h6
              have HL := Lib.hid hal; clear hal
              have hkeep := fun hno => act_keeps hlen HL.out.1 kd id2 hno
              have HK := Lib.hid hkeep; clear hkeep
              clear hcell e1 e2
              by_cases k3 : kd = 3
              · have t3 : (kd == 3) = true := by simp [k3]
                by_cases hid2 : id2 = id
                · have t4 : (id2 == id) = true := by simp [hid2]
                  go_wp2
                  go_roundw
                  case rel =>
                    have hn : Two wr w.heap.size (w1.heap.size + 1) w1.heap.size w2.heap.size (k + 1 + (i + 1)) s' := H6.out.mono (by omega)
                    exact ⟨i + 1, s', by omega, by go_num, hn, HL.out, HB6.out⟩
                  case measure => simp [intOf]; omega
                · have t4 : (id2 == id) = false := by simp [hid2]
                  have HN := Lib.hid hid2; clear hid2
                  have HK3 := Lib.hid k3; clear k3
                  clear hX hT hW hA hL hN hlt hki hji hjl hj
                  go_wp2_with fail
                  refine hAct.mono ?_; rintro e wa ⟨rfl, h7, hb7⟩
                  have H7 := Lib.hid h7; clear h7
                  have HB7 := Lib.hid hb7; clear hb7 hAct
                  go_wp2
                  go_roundw
                  case rel =>
                    have hn : Two wa w.heap.size (w1.heap.size + 1) w1.heap.size w2.heap.size (k + 1 + (i + 1)) (s'.act kd id2) := H7.out.mono (by omega)
                    have hq := HK.out (fun e => HN.out e.2)
                    have hq2 : timeOf (s'.act kd id2).ts (s'.act kd id2).ls id = s.now := hq.2.trans HL.out.2
                    exact ⟨i + 1, s'.act kd id2, by omega, by go_num, hn, ⟨hq.1, hq2⟩, HB6.out.trans HB7.out⟩
                  case measure => simp [intOf]; omega
              · have t3 : (kd == 3) = false := by simp [k3]
                have HK3 := Lib.hid k3; clear k3
                clear hX hT hW hA hL hN hlt hki hji hjl hj
                go_wp2_with fail
                refine hAct.mono ?_; rintro e wa ⟨rfl, h7, hb7⟩
                have H7 := Lib.hid h7; clear h7
                have HB7 := Lib.hid hb7; clear hb7 hAct
                go_wp2
                go_roundw
                case rel =>
                    have hn : Two wa w.heap.size (w1.heap.size + 1) w1.heap.size w2.heap.size (k + 1 + (i + 1)) (s'.act kd id2) := H7.out.mono (by omega)
                    have hq := HK.out (fun e => HK3.out e.1)
                    have hq2 : timeOf (s'.act kd id2).ts (s'.act kd id2).ls id = s.now := hq.2.trans HL.out.2
                    exact ⟨i + 1, s'.act kd id2, by omega, by go_num, hn, ⟨hq.1, hq2⟩, HB6.out.trans HB7.out⟩
                case measure => simp [intOf]; omega
            · have hki2 : ¬ (i : Int) < (ops'.length : Int) := by omega
              have hwid : (id64 id).wf = true := WalkArith.wf_i64 (by omega)
              have h1 := h6.one
              have hXT := one_time wr h1 id hwid
              rw [hal.1, hal.2] at hXT
              have hXO := one_oldest wr h1
              have hLe : ∀ t, LeastS s' t → t ≤ s.now := fun t ht => by have := ht.2.1 id hal.1; rw [hal.2] at this; exact this
              have hdd := drop_dead hal.1
              have HAL := Lib.hid hal.1; clear hal
              have HLE := Lib.hid hLe; clear hLe
              have HDD := Lib.hid hdd; clear hdd
              have H1 := Lib.hid h1; clear h1
              have hbb := h6.2.2.1
              have hbm := h6.2.2.2.1
              clear h6
              go_wp2_with fail
              refine hXT.mono ?_; rintro e w6 ⟨rfl, rfl⟩
              go_wp2_with fail
              refine hXO.mono ?_; rintro e w6 ⟨t, rfl, ht, hb6⟩
              have hle : decide (t ≤ s.now) = true := by have := HLE.out t ht; simp; exact this
              have hD := one_drop w6 (H1.out.below hb6) id hwid
              rw [HAL.out] at hD
              have HB7 := Lib.hid hb6; clear hb6 ht
              go_wp2_with fail
              refine hD.mono ?_; rintro e w7 ⟨rfl, h7, ht7⟩
              have hD := one_drop w7 h7 id hwid
              rw [HDD.out] at hD
              have HT7 := Lib.hid ht7; clear ht7 h7
              go_wp2_with fail
              refine hD.mono ?_; rintro e w8 ⟨rfl, h8, ht8⟩
              have HT8 := Lib.hid ht8; clear ht8 h8
              go_wp2
              go_ret
              have g1 := HB6.out.trans (HB7.out.mono HB6.out.size)
              have g2 := g1.trans (HT7.out.below (fun j hj e => by omega) g1.size)
              have g3 := g2.trans (HT8.out.below (fun j hj e => by omega) g2.size)
              exact ⟨rfl, g3⟩

end Go.Proofs.Ytcdcdnochlapgaa
