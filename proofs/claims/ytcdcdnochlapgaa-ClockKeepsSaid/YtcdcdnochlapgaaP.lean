/-
  The law ClockPlays, its walk.
-/
import Derived.Test.YtcdcdnochlapgaaO
import Derived.Deep.QuietTactic
import Derived.BigQuiet
import Derived.Deep.RegionHeld3
namespace Go.Proofs.Ytcdcdnochlapgaa
open Go.RowKit Go.Maps Go.Sort Go.Shelf

theorem row_slice {w : World} {base : Nat} {e : TypeId} {n : Nat} {v : Value} {xs : List Value} (h : w.ownsRow base e 1 v n xs) :
    ∃ r c, v = .slice r n c ∧ (∀ j, j < n → ∃ g, r = some ⟨g, 0, none⟩ ∧ g < w.heap.size ∧ w.cell? ⟨g, j, none⟩ = xs[j]?) := by
  have h' := h
  rcases h.2 with ⟨e, h0⟩ | ⟨g, cap, cur, rfl, _, hg, hc, hm, _⟩
  · exact ⟨none, 0, by rw [h0]; exact e, fun j hj => by omega⟩
  · exact ⟨_, _, rfl, fun j hj => ⟨g, rfl, blk_lt hg, h'.cellAt j (by omega)⟩⟩

set_option maxHeartbeats 1000000 in
theorem ints_same {b1 b2 : Nat} {v1 v2 : Value} {xs : List Int} (w : World) (h1 : w.ownsRow b1 3 1 v1 xs.length (xs.map (Value.int .i64))) (h2 : w.ownsRow b2 3 1 v2 xs.length (xs.map (Value.int .i64))) (hsz : xs.length ≤ 1000000) :
    Calls Try.prog 19 #[v1, v2] w fun e w' => e = .returned (.bool true) ∧ Below w.heap.size w w' := by
  obtain ⟨r1, k1, rfl, hc1⟩ := row_slice h1
  obtain ⟨r2, k2, rfl, hc2⟩ := row_slice h2
  have H1 := Lib.hid hc1; clear hc1
  have H2 := Lib.hid hc2; clear hc2
  clear h1 h2
  go_enter Try.func19, Try.ntmps19
  go_wp2
  go_loopw [5] (fun v wr => ∃ k : Nat, k ≤ xs.length ∧ v = .int .i64 k ∧ Below w.heap.size w wr) (fun v _ => xs.length - (intOf v).toNat)
  case atStart => exact ⟨0, Nat.zero_le _, rfl, Below.refl _ _⟩
  case round =>
    obtain ⟨k, hk, rfl, hB⟩ := hrel
    by_cases hlt : k < xs.length
    · have hki : (k : Int) < (xs.length : Int) := by omega
      obtain ⟨x, ex⟩ : ∃ x, xs[k]? = some x := ⟨_, List.getElem?_eq_getElem hlt⟩
      obtain ⟨g1, rfl, l1, e1⟩ := H1.out k hlt
      obtain ⟨g2, rfl, l2, e2⟩ := H2.out k hlt
      rw [List.getElem?_map, ex] at e1 e2
      have q1 : wr.cell? ⟨g1, k, none⟩ = some (.int .i64 x) := (hB.cell (p := ⟨g1, k, none⟩) l1).trans e1
      have q2 : wr.cell? ⟨g2, k, none⟩ = some (.int .i64 x) := (hB.cell (p := ⟨g2, k, none⟩) l2).trans e2
      clear ex e1 e2
      go_wp2
      go_quiet (fail)
      go_wp2
      go_roundw
      case rel => exact ⟨k + 1, by omega, by go_num, by exact ⟨hB.os, hB.tape, hB.output, hB.size, hB.block⟩⟩
      case measure => simp [intOf]; omega
    · obtain rfl : k = xs.length := by omega
      go_wp2
      go_ret
      exact ⟨rfl, hB⟩

theorem woldest_two {base c m b N : Nat} {s : St} (w : World) (h : Two w base c m b N s) (hN : N ≤ 100000) :
    Calls Try.prog 18 #[.pointer (some ⟨b, 0, none⟩)] w fun e w' => ∃ t : Int, e = .returned (.int .u64 t) ∧ LeastS s t ∧ Below w.heap.size w w' := by
  obtain ⟨h1, h2, h3, h4, h5, n, D, tv, lv, h6, hc, hw, h9⟩ := h
  exact woldest_any w hw (by have := h1.few; omega)

theorem wlive_two {base c m b N : Nat} {s : St} (w : World) (h : Two w base c m b N s) (hN : N ≤ 100000) : Calls Try.prog 20 #[.pointer (some ⟨b, 0, none⟩)] w (Holds1 w.heap.size (liveS s.ls) w) := by
  obtain ⟨h1, h2, h3, h4, h5, n, D, tv, lv, h6, hc, hw, h9⟩ := h
  exact wlive_any w hw (by have := h1.few; omega)

theorem wnow_two {base c m b N : Nat} {s : St} {w : World} (h : Two w base c m b N s) : w.cell? ⟨b, 0, none⟩ = some (.int .u64 s.now) := by
  obtain ⟨h1, h2, h3, h4, h5, n, D, tv, lv, h6, hc, hw, h9⟩ := h
  exact hw.cells.1

theorem few_two {base c m b N : Nat} {s : St} {w : World} (h : Two w base c m b N s) : (liveS s.ls).length ≤ N := Nat.le_trans (liveS_length _) h.1.few

theorem row_below {w w' : World} {base : Nat} {e : TypeId} {size n : Nat} {v : Value} {xs : List Value} (h : w.ownsRow base e size v n xs) (hb : Below w.heap.size w w') : w'.ownsRow base e size v n xs :=
  row_turn (S := fun _ => False) h (Turn.of_below hb) (fun _ _ e => e)

set_option maxHeartbeats 2000000 in
theorem plays_walk (now : Int) (hnow : (Lit.int .u64 now).wf = true) (r : Option Addr) (cap : Nat) (ops : List (Int × Int)) (hwf : ∀ p ∈ ops, (id64 p.2).wf = true) (w : World) (hs : Script w r ops) :
    Calls Try.prog 5 #[.int .u64 now, .slice r ops.length cap] w fun e w' => e = .returned (.bool true) ∧ Below w.heap.size w w' := by
  by_cases hlen : ops.length ≤ 200
  · have hli : ((ops.length : Int)) ≤ 200 := by omega
    have hA := awake_any w
    have HS := Lib.hid hs; clear hs
    have HW := Lib.hid hwf; clear hwf
    go_enter Try.func5, Try.ntmps5
    go_wp2_with fail
    refine hA.mono ?_; rintro e w1 ⟨rfl, hb1⟩
    have hN := new_any now w1
    have HB1 := Lib.hid hb1; clear hb1
    go_wp2_with fail
    refine hN.mono ?_; rintro e w2 ⟨rfl, hc2, hb2⟩
    have h2 := Two.start (base := w.heap.size) hnow HB1.out.size hb2 hc2
    have HB2 := Lib.hid hb2; clear hb2
    have HC2 := Lib.hid hc2; clear hc2
    have H2 := Lib.hid h2; clear h2
    go_wp2
    go_loopw [7] (fun v7 wr => ∃ (k : Nat) (s : St), k ≤ ops.length ∧ v7 = .int .i64 k ∧ Two wr w.heap.size (w1.heap.size + 1) w1.heap.size w2.heap.size k s ∧ Below w.heap.size w wr)
      (fun v7 _ => ops.length - (intOf v7).toNat)
    case atStart =>
      refine ⟨0, ⟨now, [], []⟩, Nat.zero_le _, rfl, H2.out, ?_⟩
      exact (HB1.out.trans (HB2.out.mono HB1.out.size)).alloc (Nat.le_trans HB1.out.size HB2.out.size) _
    case round =>
      obtain ⟨k, s, hk, rfl, h2, hB⟩ := hrel
      have HB := Lib.hid hB; clear hB
      by_cases hlt : k < ops.length
      · have hki : (k : Int) < (ops.length : Int) := by omega
        obtain ⟨sb, off, rfl, hcell⟩ := HS.out (by omega)
        obtain ⟨p, hp⟩ : ∃ p, ops[k]? = some p := ⟨_, List.getElem?_eq_getElem hlt⟩
        obtain ⟨e1, e2⟩ := hcell k p hp
        have b1 := (HB.out.cell (World.block_lt_of_cell? w _ e1)).trans e1
        have b2 := (HB.out.cell (World.block_lt_of_cell? w _ e2)).trans e2
        have hid : (id64 p.2).wf = true := HW.out p (List.mem_of_getElem? hp)
        obtain ⟨kd, id⟩ := p
        have hk2 : k + 1 ≤ 100000 := by omega
        have hAct := act_any (w := wr.drew) (s := s) (N := k) (by exact h2.turn (S := fun _ => False) ((Turn.refl _ wr).drew) (fun _ e => e.elim)) (by omega) kd id hid
        have HP := Lib.hid hp; clear hp
        have H2' := Lib.hid h2; clear h2
        clear hcell e1 e2
        go_wp2
        go_region_with (first
          | (go_at_call 12; refine hAct.mono ?_; rintro e wa ⟨rfl, h3, hb3⟩; have n0 := wnow_two h3; have hX := now_two _ h3; have hY := oldest_two _ h3; have H3 := Lib.hid h3; have HB3 := Lib.hid hb3; clear h3 hb3)
          | (go_at_call 10; refine hX.mono ?_; rintro e wb ⟨rfl, rfl⟩)
          | (go_at_call 11; refine hY.mono ?_; rintro e wc ⟨t1, rfl, ht1, hb4⟩; have h5 := H3.out.below hb4; have hY2 := woldest_two _ h5 hk2; have H5 := Lib.hid h5; have HB4 := Lib.hid hb4; have HT1 := Lib.hid ht1; clear h5 hb4 ht1)
          | (go_at_call 18; refine hY2.mono ?_; rintro e wd ⟨t2, rfl, ht2, hb5⟩; obtain rfl := ht2.unique HT1.out; have h6 := H5.out.below hb5; have hL := live_two _ h6 hk2; have H6 := Lib.hid h6; have HB5 := Lib.hid hb5; clear h6 hb5 ht2)
          | (go_at_call 17; refine hL.mono ?_; rintro e we ⟨lv1, rfl, hr1, hb6⟩; have h7 := H6.out.below hb6; have hL2 := wlive_two _ h7 hk2; have H7 := Lib.hid h7; have HB6 := Lib.hid hb6; have HR1 := Lib.hid hr1; clear h7 hb6 hr1)
          | (go_at_call 20; refine hL2.mono ?_; rintro e wf ⟨lv2, rfl, hr2, hb7⟩; have hI := ints_same wf (row_below HR1.out hb7) hr2 (by have := few_two H7.out; omega); have H8 := Lib.hid (H7.out.below hb7); have HB7 := Lib.hid hb7; clear hb7 hr2)
          | (go_at_call 19; refine hI.mono ?_; rintro e wg ⟨rfl, hb8⟩; have H9 := Lib.hid (H8.out.below hb8); have HB8 := Lib.hid hb8; clear hb8))
        all_goals
          go_wp2
          have g3 : Below w.heap.size w wa := HB.out.drew.trans HB3.out
          have g4 := g3.trans (HB4.out.mono g3.size)
          have g5 := g4.trans (HB5.out.mono g4.size)
          have g6 := g5.trans (HB6.out.mono g5.size)
          have g7 := g6.trans (HB7.out.mono g6.size)
          have g8 := g7.trans (HB8.out.mono g7.size)
          exact ⟨⟨k + 1, _, by omega, by go_num, H9.out, g8⟩, by simp [intOf]; omega⟩
      · obtain rfl : k = ops.length := by omega
        go_wp2
        go_ret
        exact ⟨rfl, HB.out⟩
  · have hli : 200 < (ops.length : Int) := by omega
    have hA := awake_any w
    go_enter Try.func5, Try.ntmps5
    go_wp2_with fail
    refine hA.mono ?_; rintro e w1 ⟨rfl, hb1⟩
    have hA2 := awake_any w1
    have HB1 := Lib.hid hb1; clear hb1
    go_wp2_with fail
    refine hA2.mono ?_; rintro e w2 ⟨rfl, hb2⟩
    have HB2 := Lib.hid hb2; clear hb2
    go_wp2
    go_ret
    exact ⟨rfl, HB1.out.trans (HB2.out.mono HB1.out.size)⟩

end Go.Proofs.Ytcdcdnochlapgaa
