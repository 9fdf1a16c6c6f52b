/-
  The contract of act at the kind 3.
-/
import Derived.Test.YtcdcdnochlapgaaG
import Derived.Deep.RegionWith
import Derived.Deep.RegionHeld3
namespace Go.Proofs.Ytcdcdnochlapgaa
open Go.RowKit Go.Maps

theorem act_drop {base c m b N : Nat} {s : St} (w : World) (h : Two w base c m b N s) (id : Int) (hid : (id64 id).wf = true) :
    Calls Try.prog 12 #[.pointer (some ⟨c, 0, none⟩), .pointer (some ⟨b, 0, none⟩), .agg #[.int .i64 3, .int .i64 id]] w fun e w' => e = .returned (.bool true) ∧ Two w' base c m b N (s.drop id) ∧ Below base w w' := by
  obtain ⟨h1, h2, h3, h4, h5, n, D, tv, lv, h6, hc0, hw0, h9⟩ := show Two w base c m b N s from h
  have hA : Turn (fun _ => False) w (w.alloc (.cells #[.int .i64 3, .int .i64 id] 35)).drew := ((Turn.refl _ w).alloc _).drew
  have hc := hc0.turn hA (fun e => e) (fun e => e)
  have hw := hw0.turn hA (fun e => e) (fun _ _ e => e) (fun _ _ e => e)
  have hlm : w.heap.size ≠ m := fun e => by have := hc0.own.lt; omega
  have hll : lv.ownBlock ≠ some w.heap.size := fun e => by have := (hw0.hl.lt _ e).2; omega
  clear hc0 hw0
  obtain ⟨q1, q2, q3, q4⟩ := sep hc hw
  cases ha : alive s.ls id with
  | false =>
    have hst : s.drop id = s := by unfold St.drop; rw [ha]; rfl
    have hX := drop_not _ hc id hid (by rw [h9.has, ha])
    have hY := wdrop_not _ hw id hid ha
    have HM := Lib.hid ha; clear ha
    have hT := Lib.hid h; clear h
    have HS := Lib.hid hst; clear hst
    clear q3 q4 hc hw hA
    go_enter Try.func12, Try.ntmps12
    go_wp2
    go_region_held3 (fun w' => w'.cell? ⟨w.heap.size, 1, none⟩ = some (.int .i64 id)) (first | assumption | go_keep) (first | (go_at_call 16; refine hX.mono ?_; rintro e w1 ⟨rfl, rfl⟩) | (go_at_call 23; refine hY.mono ?_; rintro e w1 ⟨rfl, rfl⟩))
    all_goals
      go_wp2
      go_ret
      rw [HS.out]
      exact ⟨rfl, hT.out.turn (S := fun _ => False) (((Turn.refl _ w).alloc _).drew) (fun _ hk => hk.elim), ((Below.refl _ _).alloc hT.out.2.1 _).drew⟩
  | true =>
    have hst : s.drop id = ⟨s.now, s.ts, s.ls.set (id - 1).toNat false⟩ := by unfold St.drop; rw [ha]; rfl
    have hX := drop_yes _ hc id hid (by rw [h9.has, ha])
    have hY := fun (w : World) (h : WS w base b s.now tv lv s.ts s.ls) => wdrop_yes w h id hid ha
    have hrel := h9.drop id ha
    have hok := h1.drop id
    have HM := Lib.hid ha; clear ha
    have hT := Lib.hid h; clear h
    have HS := Lib.hid hst; clear hst
    clear hA
    have HC := Lib.hid hc; clear hc
    have HW := Lib.hid hw; clear hw
    have HQ := Lib.hid q3; clear q3
    have HQ4 := Lib.hid q4; clear q4
    have HR := Lib.hid hrel; clear hrel
    have HO := Lib.hid hok; clear hok
    go_enter Try.func12, Try.ntmps12
    go_wp2
    go_region_held3 (fun w' => w'.cell? ⟨w.heap.size, 1, none⟩ = some (.int .i64 id)) (first | assumption | go_keep) (first | (go_at_call 16; refine hX.mono ?_; rintro e w1 ⟨rfl, hc1, ht1⟩; have q : w1.cell? ⟨w.heap.size, 1, none⟩ = some (.int .i64 id) := (World.cell?_of_block (ht1.block w.heap.size (by simp) hlm)).trans (World.cell?_alloc_new _ _ _ _); have hY1 := hY w1 (HW.out.turn ht1 q2 (fun k hk e => (HQ.out k hk).2 e) (fun k hk e => (HQ4.out k hk).2 e)); have HC1 := Lib.hid hc1; have HT1 := Lib.hid ht1; clear hc1 ht1) | (go_at_call 23; refine hY1.mono ?_; rintro e w2 ⟨rfl, hw2, ht2⟩; have q2 : w2.cell? ⟨w.heap.size, 1, none⟩ = some (.int .i64 id) := (World.cell?_of_block (ht2.block w.heap.size (Nat.lt_of_lt_of_le (by simp) HT1.out.size) hll)).trans q; have HW2 := Lib.hid hw2; have HT2 := Lib.hid ht2; clear hw2 ht2))
    all_goals
      go_wp2
      go_ret
      have hT12 : Turn (fun k => base ≤ k) w w2 := ((((Turn.refl _ w).alloc _).drew).trans (HT1.out.mono (fun k e => e ▸ h4))).trans (HT2.out.mono (fun k e => (HW.out.hl.lt k e).1))
      have hc2 := HC1.out.turn HT2.out (fun e => (HQ4.out _ e).1 rfl) (fun e => (HQ4.out _ e).2 rfl)
      refine ⟨rfl, ?_, hT12.below (fun k hk hs => by omega) h2⟩
      rw [HS.out] at HR HO ⊢
      exact ⟨HO.out, Nat.le_trans h2 hT12.size, h3, h4, h5, n, _, tv, lv, h6, hc2, HW2.out, HR.out⟩

end Go.Proofs.Ytcdcdnochlapgaa
