/-
  The contracts of the clock methods Take and Oldest.
-/
import Derived.Test.YtcdcdnochlapgaaB
import Derived.RegionTactic
import Derived.ChangeAlike
namespace Go.Proofs.Ytcdcdnochlapgaa
open Go.RowKit Go.Maps

theorem id_wf {k : Nat} (h : k ≤ 1000000) : (id64 (k : Int)).wf = true := WalkArith.wf_i64 (by omega)

set_option maxHeartbeats 400000 in
theorem take_any {c m : Nat} {now : Int} {n : Nat} {D : Dt} (w : World) (h : CS w c m now n D) (hnow : (Lit.int .u64 now).wf = true) (hn : n < maxLen)
    (j : Nat) (h1 : 1 ≤ j) (hj : j ≤ 1000000) (hall : ∀ i : Nat, 1 ≤ i → i < j → Maps.has D (id64 i) = true) (hno : Maps.has D (id64 j) = false) :
    Calls Try.prog 13 #[.pointer (some ⟨c, 0, none⟩)] w fun e w' => e = .returned (.int .i64 j) ∧ CS w' c m now (n + 1) (D.put (id64 j) (u64d now)) ∧ Turn (· = m) w w' := by
  obtain ⟨c0, c1, f0, f1⟩ := h.cells
  have hown := h.own
  have hmn := fun (w : World) r => run_eql_map_nil (P := Try.prog) w 49 3 22 r Try.underlying49
  obtain ⟨w1, hrun, hown1, hturn⟩ := World.ownsMap.store (t := 49) (w := w.drew) hown.drew law3 Try.underlying49 hn (keyOf_int_mk Try.underlying3 (id_wf hj)) (plainElem_int (H := Unit) Try.underlying22 hnow)
  have hall' := Lib.hid hall; clear hall
  have hno' := Lib.hid hno; clear hno
  have hh := Lib.hid h; clear h
  go_enter Try.func13, Try.ntmps13
  go_wp2
  go_loop [3] (fun v => ∃ k : Nat, 1 ≤ k ∧ k ≤ j ∧ v = .int .i64 k) (fun v => j - (intOf v).toNat)
  case atStart => exact ⟨1, Nat.le_refl _, h1, rfl⟩
  case round =>
    obtain ⟨k, hk1, hk2, rfl⟩ := hrel
    have hkey := keyOf_int_mk Try.underlying3 (id_wf (Nat.le_trans hk2 hj))
    by_cases hlt : k < j
    · have hs := hall'.out k hk1 hlt
      go_wp2_with (first
        | (at_lookup; refine wpList_lookup_own_ok_int _ rfl _ _ 49 rfl 3 22 .u64 law3 Try.underlying49 Try.underlying22 (zero22 _) m n D rfl hown _ _ rfl hkey ?_; intro t hat hwc)
        | go_in)
      go_round
      case rel => exact ⟨k + 1, by omega, by omega, by go_num⟩
      case measure => simp [intOf]; omega
    · obtain rfl : k = j := by omega
      have hs := hno'.out
      go_wp2_with (first
        | (at_lookup; refine wpList_lookup_own_ok_int _ rfl _ _ 49 rfl 3 22 .u64 law3 Try.underlying49 Try.underlying22 (zero22 _) m n D rfl hown _ _ rfl hkey ?_; intro t hat hwc)
        | go_in)
      go_region
      all_goals
        go_wp2
        go_ret
        have ht : Turn (· = m) w w1 := ((Turn.refl _ w).drew).trans (Turn.of_grown hturn.grown (fun k hk => by cases hk; rfl))
        exact ⟨rfl, ⟨(ht.block c (blk_lt hh.out.cell) (fun e => hh.out.ne e.symm)).trans hh.out.cell, hown1⟩, ht⟩

theorem take_nil (w : World) : Calls Try.prog 13 #[.pointer none] w fun e w' => e = .returned (.int .i64 0) ∧ w = w' := by
  go_enter Try.func13, Try.ntmps13
  go_wp2
  go_ret
  exact ⟨rfl, rfl⟩

/-- t is the least of the time and of what D holds. -/
def Least (D : Dt) (now t : Int) : Prop :=
  t ≤ now ∧ (∀ i x : Int, Maps.has D (id64 i) = true → D.atKey (id64 i) (u64d 0) = u64d x → t ≤ x) ∧ (t = now ∨ ∃ i : Int, Maps.has D (id64 i) = true ∧ D.atKey (id64 i) (u64d 0) = u64d t)

/-- .. of those entries that have come. -/
def LeastTo (D : Dt) (left : Lit → Bool) (now t : Int) : Prop :=
  t ≤ now ∧ (∀ i x : Int, Maps.has D (id64 i) = true → left (id64 i) = false → D.atKey (id64 i) (u64d 0) = u64d x → t ≤ x) ∧ (t = now ∨ ∃ i : Int, Maps.has D (id64 i) = true ∧ D.atKey (id64 i) (u64d 0) = u64d t)

theorem u64d_inj {a b : Int} (h : u64d a = u64d b) : a = b := by
  injection h with h; injection h

theorem least_step {D : Dt} {left : Lit → Bool} {now t x c : Int} (h : LeastTo D left now t) (hat : ∀ zd : Dt, D.atKey (id64 x) zd = u64d c) :
    LeastTo D (fun z => left z && !z.sameKey (id64 x)) now (if c < t then c else t) := by
  obtain ⟨h1, h2, h3⟩ := h
  refine ⟨by split <;> omega, fun i y hi hl hy => ?_, ?_⟩
  · cases hli : left (id64 i) with
    | false =>
      have := h2 i y hi hli hy
      split <;> omega
    | true =>
      dsimp only at hl
      rw [hli] at hl
      have hs : (id64 i).sameKey (id64 x) = true := by simpa using hl
      have he : id64 i = id64 x := WideAt.sameKey_eq hs
      rw [he, hat] at hy
      have := u64d_inj hy
      split <;> omega
  · by_cases hc : c < t
    · rw [if_pos hc]
      exact .inr ⟨x, Maps.has_true_of_atKey hat, hat _⟩
    · rw [if_neg hc]
      exact h3

theorem oldest_any {c m : Nat} {now : Int} {n : Nat} {D : Dt} (w : World) (h : CS w c m now n D) :
    Calls Try.prog 11 #[.pointer (some ⟨c, 0, none⟩)] w fun e w' => ∃ t : Int, e = .returned (.int .u64 t) ∧ Least D now t ∧ Below w.heap.size w w' := by
  obtain ⟨c0, c1, f0, f1⟩ := h.cells
  have hown := h.own
  have hN := now_any w h
  have hh := Lib.hid h; clear h
  go_enter Try.func11, Try.ntmps11
  go_wp2_with (first
    | (go_at_call 10; refine hN.mono ?_; rintro e w' ⟨rfl, rfl⟩)
    | (at_range; refine wpList_range_own _ rfl _ 49 rfl 3 22 law3 Try.underlying49 _ m n _ rfl hown ?_; intro w0 hrg0 hg0 hs0)
    | go_in)
  go_frame
  go_loopw [3, 5] (fun v _ wr => ∃ (left : Lit → Bool) (cnt : Nat) (t : Int), wr.ranges Try.prog 3 (plainElem Try.prog 22) m w.heap.size n D left cnt ∧ v = .int .u64 t ∧ LeastTo D left now t ∧ Below w.heap.size w wr)
    (fun _ _ wr => wr.rangeLeft m w.heap.size)
  case atStart => exact ⟨_, _, now, hrg0, rfl, ⟨Int.le_refl _, (fun i x h1 h2 => by rw [h1] at h2; cases h2), .inl rfl⟩, (Below.refl _ _).grown hg0 (Nat.le_refl _) (fun k hk => by cases hk)⟩
  case round =>
    obtain ⟨left, cnt, t, hrg, rfl, hL, hB⟩ := hrel
    have hL' := Lib.hid hL; clear hL
    go_wp2_with (first
      | (at_next; refine wpList_next_ranges_ii _ rfl _ rfl 3 22 .i64 .u64 law3 Try.underlying3 Try.underlying22 m w.heap.size n _ _ _ rfl hrg ?_ ?_)
      | go_in)
    · intro _ hl0
      have hl0' := Lib.hid hl0; clear hl0
      go_wp2
      go_ret
      exact ⟨t, rfl, ⟨hL'.out.1, fun i x h1 h2 => hL'.out.2.1 i x h1 (hl0'.out _) h2, hL'.out.2.2⟩, hB⟩
    · intro x c w1 cnt1 hwx hwc hlx hat hrg1 hlt hg1 hs1 hen
      have hlx' := Lib.hid hlx; clear hlx
      have hat' := Lib.hid hat; clear hat
      have hlt' := Lib.hid hlt; clear hlt
      clear hs1
      go_wp2
      refine ⟨⟨_, cnt1, _, hrg1, rfl, least_step hL'.out hat'.out, hB.grown hg1 hB.size (fun k hk => by cases hk; exact Nat.le_refl _)⟩, ?_⟩
      rw [hrg1.left_eq, hrg.left_eq]
      exact hlt'.out

end Go.Proofs.Ytcdcdnochlapgaa
