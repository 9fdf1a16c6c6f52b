/-
  The walk of ClockRises.
-/
import Derived.Test.YtcdcdnochlapgaaJ
namespace Go.Proofs.Ytcdcdnochlapgaa
open Go.RowKit Go.Maps

theorem now_two {base c m b N : Nat} {s : St} (w : World) (h : Two w base c m b N s) :
    Calls Try.prog 10 #[.pointer (some ⟨c, 0, none⟩)] w fun e w' => e = .returned (.int .u64 s.now) ∧ w = w' := by
  obtain ⟨h1, h2, h3, h4, h5, n, D, tv, lv, h6, hc, hw, h9⟩ := h
  exact now_any w hc

theorem oldest_two {base c m b N : Nat} {s : St} (w : World) (h : Two w base c m b N s) :
    Calls Try.prog 11 #[.pointer (some ⟨c, 0, none⟩)] w fun e w' => ∃ t : Int, e = .returned (.int .u64 t) ∧ LeastS s t ∧ Below w.heap.size w w' := by
  obtain ⟨h1, h2, h3, h4, h5, n, D, tv, lv, h6, hc, hw, h9⟩ := h
  exact (oldest_any w hc).mono fun e w' ⟨t, he, ht, hb⟩ => ⟨t, he, ht.toS h9 h1.len, hb⟩

theorem St.now_le (s : St) (k id : Int) : s.now ≤ (s.act k id).now := by
  unfold St.act St.tick St.take St.drop
  repeat' split
  all_goals first | exact Int.le_refl _ | (show s.now ≤ s.now + 1; omega)

theorem St.Ok.start {now : Int} (h : (Lit.int .u64 now).wf = true) : St.Ok ⟨now, [], []⟩ 0 := by
  have := Go.bounds_u64 h
  exact ⟨this.1, this.2, rfl, Nat.le_refl _, fun t ht => by cases ht⟩

/-- What the two are when they have been made. -/
theorem Two.start {w w1 : World} {base : Nat} {now : Int} (h : (Lit.int .u64 now).wf = true) (hb : base ≤ w.heap.size) (hw : Below w.heap.size w w1) (hc : CS w1 (w.heap.size + 1) w.heap.size now 0 (.map [])) :
    Two (w1.alloc (.cells #[.int .u64 now, .slice none 0 0, .slice none 0 0] 31)) base (w.heap.size + 1) w.heap.size w1.heap.size 0 ⟨now, [], []⟩ := by
  have hT : Turn (fun _ => False) w1 (w1.alloc (.cells #[.int .u64 now, .slice none 0 0, .slice none 0 0] 31)) := (Turn.refl _ w1).alloc _
  have hs := hw.size
  refine ⟨St.Ok.start h, by simp; omega, by omega, hb, by omega, 0, .map [], .slice none 0 0, .slice none 0 0, Nat.le_refl _, hc.turn hT (fun e => e) (fun e => e), ⟨(MapKept.heap_alloc w1 _).1, World.ownsRow_nil _ _ _ _, World.ownsRow_nil _ _ _ _, rfl⟩, Rel.start⟩

set_option maxHeartbeats 1000000 in
theorem rises_walk (now : Int) (hnow : (Lit.int .u64 now).wf = true) (r : Option Addr) (cap : Nat) (ops : List (Int × Int)) (hwf : ∀ p ∈ ops, (id64 p.2).wf = true) (w : World) (hs : Script w r ops) :
    Calls Try.prog 3 #[.int .u64 now, .slice r ops.length cap] w fun e w' => e = .returned (.bool true) ∧ Below w.heap.size w w' := by
  by_cases hlen : ops.length ≤ 200
  · have hli : ((ops.length : Int)) ≤ 200 := by omega
    have hA := awake_any w
    have HS := Lib.hid hs; clear hs
    have HW := Lib.hid hwf; clear hwf
    go_enter Try.func3, Try.ntmps3
    go_wp2_with fail
    refine hA.mono ?_; rintro e w1 ⟨rfl, hb1⟩
    have hN := new_any now w1
    have HB1 := Lib.hid hb1; clear hb1
    go_wp2_with fail
    refine hN.mono ?_; rintro e w2 ⟨rfl, hc2, hb2⟩
    have h2 := Two.start (base := w.heap.size) hnow HB1.out.size hb2 hc2
    have HB2 := Lib.hid hb2; clear hb2
    have HC2 := Lib.hid hc2; clear hc2
    have hX := now_two _ h2
    have hY := oldest_two _ h2
    have H2 := Lib.hid h2; clear h2
    go_wp2_with fail
    refine hX.mono ?_; rintro e w3 ⟨rfl, rfl⟩
    go_wp2_with fail
    refine hY.mono ?_; rintro e w4 ⟨t, rfl, ht, hb4⟩
    have HT := Lib.hid ht; clear ht
    have HB4 := Lib.hid hb4; clear hb4
    go_wp2
    go_loopw [7, 8, 9] (fun v7 v8 v9 wr => ∃ (k : Nat) (s : St) (t : Int), k ≤ ops.length ∧ v9 = .int .i64 k ∧ v7 = .int .u64 s.now ∧ v8 = .int .u64 t ∧ Two wr w.heap.size (w1.heap.size + 1) w1.heap.size w2.heap.size k s ∧ LeastS s t ∧ Below w.heap.size w wr)
      (fun _ _ v9 _ => ops.length - (intOf v9).toNat)
    case atStart =>
      refine ⟨0, ⟨now, [], []⟩, t, Nat.zero_le _, rfl, rfl, rfl, H2.out.below HB4.out, HT.out, ?_⟩
      exact ((HB1.out.trans (HB2.out.mono HB1.out.size)).alloc (Nat.le_trans HB1.out.size HB2.out.size) _).trans (HB4.out.mono (by simp; exact Nat.le_trans HB1.out.size (Nat.le_trans HB2.out.size (Nat.le_succ _))))
    case round =>
      obtain ⟨k, s, t, hk, rfl, rfl, rfl, h2, hL, hB⟩ := hrel
      have HL := Lib.hid hL; clear hL
      have HB := Lib.hid hB; clear hB
      by_cases hlt : k < ops.length
      · have hki : (k : Int) < (ops.length : Int) := by omega
        obtain ⟨sb, off, rfl, hcell⟩ := HS.out (by omega)
        obtain ⟨p, hp⟩ : ∃ p, ops[k]? = some p := ⟨_, List.getElem?_eq_getElem hlt⟩
        obtain ⟨e1, e2⟩ := hcell k p hp
        have b1 := (HB.out.cell (World.block_lt_of_cell? w _ e1)).trans e1
        have b2 := (HB.out.cell (World.block_lt_of_cell? w _ e2)).trans e2
        have hid : (id64 p.2).wf = true := HW.out p (List.mem_of_getElem? hp)
        obtain ⟨kd, id⟩ := p
        have hAct := act_any wr h2 (by omega) kd id hid
        have HP := Lib.hid hp; clear hp
        have H2' := Lib.hid h2; clear h2
        clear hcell e1 e2
        have hok := H2'.out.1
        have hstep : ∀ u, LeastS (s.act kd id) u → t ≤ u := fun u hu => (HL.out.act hok kd id hu).1
        have hnw := s.now_le kd id
        have HST := Lib.hid hstep; clear hstep hok
        go_wp2_with fail
        refine hAct.mono ?_; rintro e wa ⟨rfl, h3, hb3⟩
        generalize hs' : s.act kd id = s' at h3 HST hnw
        clear hs'
        have d1 : decide (s'.now < s.now) = false := by simp; omega
        have hX := now_two _ h3
        have hY := oldest_two _ h3
        have H3 := Lib.hid h3; clear h3
        have HB3 := Lib.hid hb3; clear hb3
        go_wp2_with fail
        refine hX.mono ?_; rintro e wb ⟨rfl, rfl⟩
        go_wp2_with fail
        refine hY.mono ?_; rintro e wc ⟨t1, rfl, ht1, hb4⟩
        have d2 : decide (t1 < t) = false := by have := HST.out t1 ht1; simp; omega
        have HT1 := Lib.hid ht1; clear ht1
        have h5 := H3.out.below hb4
        have hX2 := now_two _ h5
        have hY2 := oldest_two _ h5
        have H5 := Lib.hid h5; clear h5
        have HB4' := Lib.hid hb4; clear hb4
        go_wp2_with fail
        refine hY2.mono ?_; rintro e wd ⟨t2, rfl, ht2, hb5⟩
        obtain rfl := ht2.unique HT1.out
        have d3 : decide (s'.now < t2) = false := by have := ht2.1; simp; omega
        clear ht2
        have h6 := H5.out.below hb5
        have hX3 := now_two _ h6
        have hY3 := oldest_two _ h6
        have H6 := Lib.hid h6; clear h6
        have HB5 := Lib.hid hb5; clear hb5
        go_wp2_with fail
        refine hX3.mono ?_; rintro e we ⟨rfl, rfl⟩
        go_wp2_with fail
        refine hX3.mono ?_; rintro e we ⟨rfl, rfl⟩
        go_wp2_with fail
        refine hY3.mono ?_; rintro e wf ⟨t3, rfl, ht3, hb6⟩
        obtain rfl := ht3.unique HT1.out
        clear ht3
        have h7 := H6.out.below hb6
        have H7 := Lib.hid h7; clear h7
        have HB6 := Lib.hid hb6; clear hb6
        go_wp2
        go_roundw
        case rel =>
          refine ⟨k + 1, s', t3, by omega, by go_num, rfl, rfl, H7.out, HT1.out, ?_⟩
          have g1 := HB.out.size
          have hb34 := HB.out.trans HB3.out
          have g2 := hb34.size
          have hb35 := hb34.trans (HB4'.out.mono g2)
          have g3 := hb35.size
          have hb36 := hb35.trans (HB5.out.mono g3)
          exact hb36.trans (HB6.out.mono hb36.size)
        case measure => simp [intOf]; omega
      · obtain rfl : k = ops.length := by omega
        go_wp2
        go_ret
        exact ⟨rfl, HB.out⟩
  · have hli : 200 < (ops.length : Int) := by omega
    have hA := awake_any w
    go_enter Try.func3, Try.ntmps3
    go_wp2_with fail
    refine hA.mono ?_; rintro e w1 ⟨rfl, hb1⟩
    have hA2 := awake_any w1
    have HB1 := Lib.hid hb1; clear hb1
    go_wp2_with fail
    refine hA2.mono ?_; rintro e w2 ⟨rfl, hb2⟩
    have HB2 := Lib.hid hb2; clear hb2
    go_wp2
    go_ret
    exact ⟨rfl, HB1.out.trans (HB2.out.mono HB1.out.size)⟩

end Go.Proofs.Ytcdcdnochlapgaa
