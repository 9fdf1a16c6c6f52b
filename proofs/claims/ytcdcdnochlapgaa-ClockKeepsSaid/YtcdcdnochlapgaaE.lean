/-
  The contracts of the methods Drop and Take of the reference clock.
-/
import Derived.Test.YtcdcdnochlapgaaD
import Derived.Deep.AppendLies
import Derived.Deep.RegionLaw
namespace Go.Proofs.Ytcdcdnochlapgaa
open Go.RowKit Go.Maps

theorem wdrop_not {base b : Nat} {now : Int} {tv lv : Value} {ts : List Int} {ls : List Bool} (w : World) (h : WS w base b now tv lv ts ls) (id : Int) (hid : (id64 id).wf = true) (hno : alive ls id = false) :
    Calls Try.prog 23 #[.pointer (some ⟨b, 0, none⟩), .int .i64 id] w fun e w' => e = .returned (.bool false) ∧ w = w' := by
  have hC := wtime_any w h id hid
  rw [hno] at hC
  have hH := Lib.hid hno; clear hno
  go_enter Try.func23, Try.ntmps23
  go_wp2_with (go_at_call 24; refine hC.mono ?_; rintro e w' ⟨rfl, rfl⟩)
  go_ret
  exact ⟨rfl, rfl⟩

theorem row_set {w : World} {base : Nat} {e : TypeId} {n g cap : Nat} {xs : List Value} (h : w.ownsRow base e 1 (.slice (some ⟨g, 0, none⟩) n cap) n xs) (j : Nat) (u : Value) :
    (w.setCell ⟨g, j, none⟩ u).ownsRow base e 1 (.slice (some ⟨g, 0, none⟩) n cap) n (xs.set j u) ∧ Turn (· = g) w (w.setCell ⟨g, j, none⟩ u) :=
  ⟨(h.stored j u).1, (Turn.refl (· = g) w).setCell (p := ⟨g, j, none⟩) rfl _⟩

theorem wdrop_yes {base b : Nat} {now : Int} {tv lv : Value} {ts : List Int} {ls : List Bool} (w : World) (h : WS w base b now tv lv ts ls) (id : Int) (hid : (id64 id).wf = true) (hno : alive ls id = true) :
    Calls Try.prog 23 #[.pointer (some ⟨b, 0, none⟩), .int .i64 id] w fun e w' => e = .returned (.bool true) ∧ WS w' base b now tv lv ts (ls.set (id - 1).toNat false) ∧ Turn (fun k => lv.ownBlock = some k) w w' := by
  have hC := wtime_any w h id hid
  rw [hno] at hC
  obtain ⟨h1, h2⟩ := alive_iff.1 hno
  have hkl := (List.getElem?_eq_some_iff.1 h2).1
  obtain ⟨c0, c1, c2, f0, f1, f2⟩ := h.cells
  have hb := Go.bounds_i64 hid
  obtain ⟨gl, cl, rfl, hgl, hcl, hfl, hll, hml⟩ := row_form h.hl (by omega)
  have hx : w.cell? ⟨gl, (id - 1).toNat, none⟩ = some (.bool true) := by rw [hcl _ hkl]; unfold bls; rw [List.getElem?_map, h2]; rfl
  have hf : w.frozen? ⟨gl, (id - 1).toNat, none⟩ = false := hfl _
  rw [show (id - 1).toNat = id.toNat - 1 by omega] at hx hf
  have b2 : 0 ≤ id - 1 := by omega
  have b3 : id - 1 < (ls.length : Int) := by omega
  have HN := Lib.hid hno; clear hno
  have H2 := Lib.hid h2; clear h2
  have hh := Lib.hid h; clear h
  clear hcl hfl hkl
  go_enter Try.func23, Try.ntmps23
  go_wp2_with (go_at_call 24; refine hC.mono ?_; rintro e w' ⟨rfl, rfl⟩)
  go_ret
  obtain ⟨r1, r2⟩ := row_set hh.out.hl (id.toNat - 1) (.bool false)
  have hT : Turn (fun k => (Value.slice (some ⟨gl, 0, none⟩) ls.length cl).ownBlock = some k) w (w.setCell ⟨gl, id.toNat - 1, none⟩ (.bool false)) := r2.mono (fun k hk => by subst hk; rfl)
  refine ⟨rfl, ⟨(hT.block b (blk_lt hh.out.cell) ?_).trans hh.out.cell, row_turn hh.out.ht hT (fun k hk => ?_), ?_, by rw [List.length_set]; exact hh.out.len⟩, hT⟩
  · exact fun e => row_ne hh.out.hl hh.out.cell (by decide) b e rfl
  · exact rows_ne hh.out.ht hh.out.hl (by decide) k hk
  · rw [List.length_set, show (id - 1).toNat = id.toNat - 1 by omega]
    have : bls (ls.set (id.toNat - 1) false) = (bls ls).set (id.toNat - 1) (.bool false) := by unfold bls; rw [List.map_set]
    rw [this]
    exact r1

/-- The first number that is free: its place. -/
def free : List Bool → Nat
  | [] => 0
  | false :: _ => 0
  | true :: r => free r + 1

theorem free_le : ∀ ls : List Bool, free ls ≤ ls.length
  | [] => Nat.le_refl _
  | false :: _ => Nat.zero_le _
  | true :: r => Nat.succ_le_succ (free_le r)

theorem free_before : ∀ (ls : List Bool) (i : Nat), i < free ls → ls[i]? = some true
  | [], i, h => by simp [free] at h
  | false :: _, i, h => by simp [free] at h
  | true :: r, 0, _ => rfl
  | true :: r, i + 1, h => by simpa using free_before r i (by simp [free] at h; omega)

theorem free_at : ∀ (ls : List Bool), free ls < ls.length → ls[free ls]? = some false
  | [], h => by simp at h
  | false :: _, _ => rfl
  | true :: r, h => by simpa [free] using free_at r (by simp [free] at h; omega)

theorem info4 : (Try.prog.info? 4).map (fun i => (i.zero, i.size, i.bytes)) = some (some (.bool false), 1, 1) := by kernel_rfl
theorem info22 : (Try.prog.info? 22).map (fun i => (i.zero, i.size, i.bytes)) = some (some (.int .u64 0), 1, 8) := by kernel_rfl

set_option maxHeartbeats 1000000 in
/-- A number that has been dropped is taken again. -/
theorem wtake_old {base b : Nat} {now : Int} {tv lv : Value} {ts : List Int} {ls : List Bool} (w : World) (h : WS w base b now tv lv ts ls) (hf : free ls < ls.length) (hsz : ls.length ≤ 1000000) :
    Calls Try.prog 21 #[.pointer (some ⟨b, 0, none⟩)] w fun e w' => e = .returned (.int .i64 ((free ls : Int) + 1)) ∧ WS w' base b now tv lv (ts.set (free ls) now) (ls.set (free ls) true) ∧ Turn (fun k => tv.ownBlock = some k ∨ lv.ownBlock = some k) w w' := by
  obtain ⟨c0, c1, c2, f0, f1, f2⟩ := h.cells
  have hlen := h.len
  obtain ⟨gl, cl, rfl, hgl, hcl, hfl, hll, hml⟩ := row_form h.hl (by omega)
  obtain ⟨gt, ct, rfl, hgt, hct, hft, htl, hmt⟩ := row_form h.ht (by omega)
  have ngl : gl ≠ b := row_ne h.hl h.cell (by decide) gl rfl
  have ngt : gt ≠ b := row_ne h.ht h.cell (by decide) gt rfl
  have ntl : gt ≠ gl := fun e => rows_ne h.ht h.hl (by decide) gt rfl (by rw [e]; rfl)
  have hcells := Lib.hid hcl; clear hcl
  have hfr := Lib.hid hfl; clear hfl
  have hctl := Lib.hid hct; clear hct
  have hftl := Lib.hid hft; clear hft
  have HL := Lib.hid hlen; clear hlen
  have hh := Lib.hid h; clear h
  have hfree := Lib.hid hf; clear hf
  clear hml hmt
  go_enter Try.func21, Try.ntmps21
  go_wp2
  go_loop [3] (fun v => ∃ k : Nat, k ≤ free ls ∧ v = .int .i64 k) (fun v => free ls - (intOf v).toNat)
  case atStart => exact ⟨0, Nat.zero_le _, rfl⟩
  case round =>
    obtain ⟨k, hk, rfl⟩ := hrel
    have hkl : k < ls.length := Nat.lt_of_le_of_lt hk hfree.out
    have hki : (k : Int) < (ls.length : Int) := by omega
    by_cases hlt : k < free ls
    · have hx : w.cell? ⟨gl, k, none⟩ = some (.bool true) := by rw [hcells.out k hkl]; unfold bls; rw [List.getElem?_map, free_before ls k hlt]; rfl
      go_wp2
      go_round
      case rel => exact ⟨k + 1, by omega, by go_num⟩
      case measure => simp [intOf]; omega
    · obtain rfl : k = free ls := by omega
      have hx : w.cell? ⟨gl, free ls, none⟩ = some (.bool false) := by rw [hcells.out _ hkl]; unfold bls; rw [List.getElem?_map, free_at ls hfree.out]; rfl
      have fx : w.frozen? ⟨gl, free ls, none⟩ = false := hfr.out _
      obtain ⟨y, ey⟩ : ∃ y, ts[free ls]? = some y := ⟨_, List.getElem?_eq_getElem (by rw [HL.out]; exact hkl)⟩
      have hkt : free ls < ts.length := by rw [HL.out]; exact hkl
      have hkti : (free ls : Int) < (ts.length : Int) := by omega
      have hy : w.cell? ⟨gt, free ls, none⟩ = some (.int .u64 y) := by rw [hctl.out _ hkt]; unfold u64s; rw [List.getElem?_map, ey]; rfl
      have fy : w.frozen? ⟨gt, free ls, none⟩ = false := hftl.out _
      clear ey
      have o1 : ∀ i u, (w.setCell ⟨gl, free ls, none⟩ u).cell? ⟨b, i, none⟩ = w.cell? ⟨b, i, none⟩ := fun i u => World.cell?_setCell_other _ _ _ _ (fun e => ngl (congrArg Addr.block e))
      have o2 : ∀ i u, (w.setCell ⟨gl, free ls, none⟩ u).cell? ⟨gt, i, none⟩ = w.cell? ⟨gt, i, none⟩ := fun i u => World.cell?_setCell_other _ _ _ _ (fun e => ntl (congrArg Addr.block e).symm)
      go_wp2
      go_region
      all_goals
        go_wp2
        go_ret
        refine ⟨rfl, ?_⟩
        have hW := hh.out
        obtain ⟨r1, r2⟩ := row_set hW.hl (free ls) (.bool true)
        have hW1 : WS (w.setCell ⟨gl, free ls, none⟩ (.bool true)) base b now (.slice (some ⟨gt, 0, none⟩) ts.length ct) (.slice (some ⟨gl, 0, none⟩) ls.length cl) ts (ls.set (free ls) true) :=
          ⟨(r2.block b (blk_lt hW.cell) (fun e => ngl e.symm)).trans hW.cell, row_turn hW.ht r2 (fun k hk e => ntl (by simp only [Value.ownBlock, Option.some.injEq] at hk; rw [hk, e])),
            by rw [List.length_set, show bls (ls.set (free ls) true) = (bls ls).set (free ls) (.bool true) by unfold bls; rw [List.map_set]]; exact r1, by rw [List.length_set]; exact hW.len⟩
        obtain ⟨r3, r4⟩ := row_set hW1.ht (free ls) (.int .u64 now)
        have hW2 : WS ((w.setCell ⟨gl, free ls, none⟩ (.bool true)).setCell ⟨gt, free ls, none⟩ (.int .u64 now)) base b now (.slice (some ⟨gt, 0, none⟩) ts.length ct) (.slice (some ⟨gl, 0, none⟩) ls.length cl) (ts.set (free ls) now) (ls.set (free ls) true) :=
          ⟨(r4.block b (blk_lt hW1.cell) (fun e => ngt e.symm)).trans hW1.cell, by rw [List.length_set, show u64s (ts.set (free ls) now) = (u64s ts).set (free ls) (.int .u64 now) by unfold u64s; rw [List.map_set]]; exact r3,
            row_turn hW1.hl r4 (fun k hk e => ntl (by simp only [Value.ownBlock, Option.some.injEq] at hk; rw [hk, e])), by rw [List.length_set]; exact hW1.len⟩
        have hT : Turn (fun k => (Value.slice (some ⟨gt, 0, none⟩) ts.length ct).ownBlock = some k ∨ (Value.slice (some ⟨gl, 0, none⟩) ls.length cl).ownBlock = some k) w ((w.setCell ⟨gl, free ls, none⟩ (.bool true)).setCell ⟨gt, free ls, none⟩ (.int .u64 now)) :=
          (r2.mono (fun k hk => .inr (by rw [hk]; rfl))).trans (r4.mono (fun k hk => .inl (by rw [hk]; rfl)))
        exact ⟨⟨hW2.cell, hW2.ht, hW2.hl, hW2.len⟩, hT.drew⟩

theorem free_full {ls : List Bool} (h : ¬ free ls < ls.length) : free ls = ls.length := Nat.le_antisymm (free_le ls) (Nat.not_lt.1 h)

set_option maxHeartbeats 1000000 in
/-- All live: one number more. -/
theorem wtake_new {base b : Nat} {now : Int} {tv lv : Value} {ts : List Int} {ls : List Bool} (w : World) (h : WS w base b now tv lv ts ls) (hbase : base ≤ w.heap.size) (hf : free ls = ls.length) (hsz : ls.length ≤ 1000000) :
    Calls Try.prog 21 #[.pointer (some ⟨b, 0, none⟩)] w fun e w' => e = .returned (.int .i64 ((ls.length : Int) + 1)) ∧ ∃ tv' lv', WS w' base b now tv' lv' (ts ++ [now]) (ls ++ [true]) ∧ Turn (fun k => k = b ∨ tv.ownBlock = some k ∨ lv.ownBlock = some k) w w' := by
  obtain ⟨c0, c1, c2, f0, f1, f2⟩ := h.cells
  have hlen := h.len
  have hlv : ∃ r c, lv = .slice r ls.length c := by
    rcases h.hl.2 with ⟨e, h0⟩ | ⟨g, cap, cur, e, _⟩
    · exact ⟨none, 0, by rw [h0]; exact e⟩
    · exact ⟨_, _, e⟩
  obtain ⟨rl, cl, rfl⟩ := hlv
  have HL := Lib.hid hlen; clear hlen
  have hh := Lib.hid h; clear h
  have hfree := Lib.hid hf; clear hf
  obtain ⟨i0, hi, hz0, hz1, hz2⟩ := info_parts info4
  obtain ⟨j0, ji, jz0, jz1, jz2⟩ := info_parts info22
  go_enter Try.func21, Try.ntmps21
  go_wp2
  go_loop [3] (fun v => ∃ k : Nat, k ≤ ls.length ∧ v = .int .i64 k) (fun v => ls.length - (intOf v).toNat)
  case atStart => exact ⟨0, Nat.zero_le _, rfl⟩
  case round =>
    obtain ⟨k, hk, rfl⟩ := hrel
    by_cases hlt : k < ls.length
    · have hki : (k : Int) < (ls.length : Int) := by omega
      have hx : ∃ g, rl = some ⟨g, 0, none⟩ ∧ w.cell? ⟨g, k, none⟩ = some (.bool true) := by
        obtain ⟨g, cap, e, hg, hc, _⟩ := row_form hh.out.hl (by omega)
        simp only [Value.slice.injEq] at e
        exact ⟨g, e.1, by rw [hc k hlt]; unfold bls; rw [List.getElem?_map, free_before ls k (by rw [hfree.out]; exact hlt)]; rfl⟩
      obtain ⟨g, rfl, hx⟩ := hx
      go_wp2
      go_round
      case rel => exact ⟨k + 1, by omega, by go_num⟩
      case measure => simp [intOf]; omega
    · obtain rfl : k = ls.length := by omega
      go_wp2_with (first
        | (at_builtin; refine wpList_append_lies _ rfl _ _ 29 rfl base 4 i0 (.bool false) 1 1 Try.underlying29 hi hz0 hz1 hz2 rfl (by decide) _ _ _ rfl (hh.out.hl.alloc _) ⟨w.heap.size, 0, none⟩ 1 1 [.bool true] rfl rfl (cell_one_new _ _ _) ?c2 (by decide) ?c3 ?c4 ?c5 _ rfl ?_)
        | go_in)
      case c2 => rfl
      case c3 => unfold maxLen; omega
      case c4 => omega
      case c5 => omega
      intro gl cl' w1 hown1 hg1 hat1 hlt1
      have hW := hh.out
      have hT1 : Turn (fun k => (Value.slice rl ls.length cl).ownBlock = some k) w w1 := ((Turn.refl _ w).alloc _).trans (Turn.of_grown hg1 (fun k hk => hk))
      have nb : ∀ k, (Value.slice rl ls.length cl).ownBlock = some k → k ≠ b := row_ne hW.hl hW.cell (by decide)
      have hb1 : w1.heap[b]? = some (.cells #[.int .u64 now, tv, .slice rl ls.length cl] 31 (0, 0)) := (hT1.block b (blk_lt hW.cell) (fun e => nb b e rfl)).trans hW.cell
      have ht1 : w1.ownsRow base 22 1 tv ts.length (u64s ts) := row_turn hW.ht hT1 (fun k hk e => rows_ne hW.ht hW.hl (by decide) k hk e)
      have d0 : w1.cell? ⟨b, 0, none⟩ = some (.int .u64 now) := by simp [World.cell?, hb1]
      have d1 : w1.cell? ⟨b, 1, none⟩ = some tv := by simp [World.cell?, hb1]
      have d2 : w1.cell? ⟨b, 2, none⟩ = some (.slice rl ls.length cl) := by simp [World.cell?, hb1]
      have g1 : w1.frozen? ⟨b, 1, none⟩ = false := by simp [World.frozen?, hb1]
      have g2 : w1.frozen? ⟨b, 2, none⟩ = false := by simp [World.frozen?, hb1]
      have hs1 : w.heap.size ≤ w1.heap.size := hT1.size
      have hown1' := Lib.hid hown1; clear hown1
      have hT1' := Lib.hid hT1; clear hT1
      have hb1' := Lib.hid hb1; clear hb1
      have ht1' := Lib.hid ht1; clear ht1
      clear hg1 nb hW hat1 hlt1
      go_wp2
      -- the store of the lives; the times
      obtain ⟨w2, hw2⟩ : ∃ w2, w2 = w1.setCell ⟨b, 2, none⟩ (.slice (some ⟨gl, 0, none⟩) (ls.length + 1) cl') := ⟨_, rfl⟩
      have hT2 : Turn (· = b) w1 w2 := by rw [hw2]; exact (Turn.refl (· = b) w1).setCell (p := ⟨b, 2, none⟩) rfl _
      have hb2 : w2.heap[b]? = some (.cells #[.int .u64 now, tv, .slice (some ⟨gl, 0, none⟩) (ls.length + 1) cl'] 31 (0, 0)) := by rw [hw2]; exact Joins.block_setCell hb1'.out _
      rw [← hw2]
      have ht2 : w2.ownsRow base 22 1 tv ts.length (u64s ts) := row_turn ht1'.out hT2 (row_ne ht1'.out hb1'.out (by decide))
      have hl2 : w2.ownsRow base 4 1 (.slice (some ⟨gl, 0, none⟩) (ls.length + 1) cl') (ls.length + 1) (bls ls ++ [.bool true]) := row_turn hown1'.out hT2 (row_ne hown1'.out hb1'.out (by decide))
      have e0 : w2.cell? ⟨b, 0, none⟩ = some (.int .u64 now) := by simp [World.cell?, hb2]
      have e1 : w2.cell? ⟨b, 1, none⟩ = some tv := by simp [World.cell?, hb2]
      have e1' : ∀ o, (w2.alloc o).cell? ⟨b, 1, none⟩ = some tv := fun o => (World.cell?_alloc_lt w2 o _ (blk_lt hb2)).trans e1
      have e0' : ∀ o, (w2.alloc o).cell? ⟨b, 0, none⟩ = some (.int .u64 now) := fun o => (World.cell?_alloc_lt w2 o _ (blk_lt hb2)).trans e0
      have hs2 : w.heap.size ≤ w2.heap.size := Nat.le_trans hs1 hT2.size
      have hT2' := Lib.hid hT2; clear hT2
      have hb2' := Lib.hid hb2; clear hb2
      have hl2' := Lib.hid hl2; clear hl2
      have ht2' := Lib.hid ht2; clear ht2
      clear hw2 d0 d1 d2 g1 g2 hs1 c0 c1 c2 f0 f1 f2 hi hz0 hz1 hz2
      have tsz : ts.length + 1 ≤ maxLen := by rw [HL.out]; unfold maxLen; omega
      have tsz2 : (ts.length + 1) * 8 ≤ 140737488355328 := by rw [HL.out]; omega
      go_region_law (refine step_append_lies _ rfl (.tmp 52) (.tmp 57) 28 rfl base 22 j0 (.int .u64 0) 1 8 Try.underlying28 ji jz0 jz1 jz2 rfl (by decide) tv ts.length (u64s ts) (by simp [Act.eval, Act.put]) (by exact ht2'.out.alloc _) ⟨w2.heap.size, 0, none⟩ 1 1 [.int .u64 now] (by simp [Act.eval, Act.put]) rfl (by exact cell_one_new _ _ _) (by simp [Value.oneCell']) (by decide) tsz tsz2 (by simp; omega) (w2.heap.size + 1) (by simp) ?_; intro gt ct' w3 hown3 hg3 hat3 hlt3; have hT3 : Turn (fun k => tv.ownBlock = some k) w2 w3 := (((Turn.refl _ w2).alloc (.cells #[.int .u64 now] 22)).drew).trans (Turn.of_grown hg3 (fun k hk => hk)); have hb3 : w3.heap[b]? = some (.cells #[.int .u64 now, tv, .slice (some ⟨gl, 0, none⟩) (ls.length + 1) cl'] 31 (0, 0)) := (hT3.block b (blk_lt hb2'.out) (fun e => row_ne ht2'.out hb2'.out (by decide) b e rfl)).trans hb2'.out; have f3 : w3.frozen? ⟨b, 1, none⟩ = false := (by simp [World.frozen?, hb3]); have f4 : w3.cell? ⟨b, 1, none⟩ = some tv := (by simp [World.cell?, hb3]); have f5 : w3.cell? ⟨b, 2, none⟩ = some (.slice (some ⟨gl, 0, none⟩) (ls.length + 1) cl') := (by simp [World.cell?, hb3]); have hown3' := Lib.hid hown3; have hT3' := Lib.hid hT3; have hb3' := Lib.hid hb3; clear hown3 hg3 hat3 hlt3 hT3 hb3)
      all_goals
        go_wp2
        go_ret
        have hT4 : Turn (· = b) w3 (w3.setCell ⟨b, 1, none⟩ (.slice (some ⟨gt, 0, none⟩) (ts.length + 1) ct')) := (Turn.refl (· = b) w3).setCell (p := ⟨b, 1, none⟩) rfl _
        have hl3 : w3.ownsRow base 4 1 (.slice (some ⟨gl, 0, none⟩) (ls.length + 1) cl') (ls.length + 1) (bls ls ++ [.bool true]) := row_turn hl2'.out hT3'.out (fun k hk e => rows_ne hl2'.out ht2'.out (by decide) k hk e)
        refine ⟨rfl, .slice (some ⟨gt, 0, none⟩) (ts.length + 1) ct', .slice (some ⟨gl, 0, none⟩) (ls.length + 1) cl', ⟨Joins.block_setCell hb3'.out _, ?_, ?_, by simp; exact HL.out⟩, ?_⟩
        · have := row_turn hown3'.out hT4 (row_ne hown3'.out hb3'.out (by decide))
          simpa [u64s] using this
        · have := row_turn hl3 hT4 (row_ne hl3 hb3'.out (by decide))
          simpa [bls] using this
        · exact ((hT1'.out.mono (fun k hk => .inr (.inr hk))).trans (hT2'.out.mono (fun k hk => .inl hk))).trans ((hT3'.out.mono (fun k hk => .inr (.inl hk))).trans (hT4.mono (fun k hk => .inl hk)))

end Go.Proofs.Ytcdcdnochlapgaa
