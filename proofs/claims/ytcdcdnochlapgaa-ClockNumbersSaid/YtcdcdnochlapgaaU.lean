/-
  The laws ClockNil and ClockNumbers, their walks.
-/
import Derived.Test.YtcdcdnochlapgaaT
namespace Go.Proofs.Ytcdcdnochlapgaa
open Go.RowKit Go.Maps Go.Sort Go.Shelf

set_option maxRecDepth 100000 in
set_option maxHeartbeats 1000000 in
theorem nil_walk (id : Int) (w : World) :
    Calls Try.prog 7 #[.int .i64 id] w fun e w' => e = .returned (.bool true) ∧ Below w.heap.size w w' := by
  have hA := awake_any w
  go_enter Try.func7, Try.ntmps7
  go_wp2_with fail
  refine hA.mono ?_; rintro e w1 ⟨rfl, hb1⟩
  have HB1 := Lib.hid hb1; clear hb1 hA
  go_wp2_with fail
  refine (tick_nil _).mono ?_; rintro e w2 ⟨rfl, rfl⟩
  go_wp2_with fail
  refine (time_nil _ _).mono ?_; rintro e w2 ⟨rfl, rfl⟩
  go_wp2_with fail
  refine (new_any _ _).mono ?_; rintro e w2 ⟨rfl, hc2, hb2⟩
  have HB2 := Lib.hid hb2; clear hb2
  have hX := now_any w2 hc2
  have hY := tick_full w2 _ rfl hc2
  have HC2 := Lib.hid hc2; clear hc2
  go_wp2_with fail
  refine hY.mono ?_; rintro e w3 ⟨rfl, rfl⟩
  go_wp2_with fail
  refine (drop_nil _ _).mono ?_; rintro e w3 ⟨rfl, rfl⟩
  go_wp2_with fail
  refine (now_nil _).mono ?_; rintro e w3 ⟨rfl, rfl⟩
  go_wp2_with fail
  refine (oldest_nil _).mono ?_; rintro e w3 ⟨rfl, rfl⟩
  go_wp2_with fail
  refine (take_nil _).mono ?_; rintro e w3 ⟨rfl, rfl⟩
  go_wp2_with fail
  refine (live_nil _).mono ?_; rintro e w3 ⟨rfl, rfl⟩
  go_wp2_with fail
  refine hX.mono ?_; rintro e w3 ⟨rfl, rfl⟩
  go_wp2
  go_ret
  exact ⟨rfl, HB1.out.trans (HB2.out.mono HB1.out.size)⟩

/-- n snapshots have been taken, one behind the other. -/
def sN (n : Nat) : St := ⟨n, (List.range n).map (fun i : Nat => (i : Int)), List.replicate n true⟩

theorem free_true : ∀ n, free (List.replicate n true) = n
  | 0 => rfl
  | n + 1 => by simp [List.replicate_succ, free, free_true n]

theorem sN_step (n : Nat) (hn : n ≤ 1000000) : (sN n).take.tick = sN (n + 1) := by
  have h1 : (sN n).take = ⟨n, (List.range n).map (fun i : Nat => (i : Int)) ++ [(n : Int)], List.replicate n true ++ [true]⟩ := by
    unfold St.take sN
    simp only [free_true, List.length_replicate]
    rw [if_neg (by omega)]
  rw [h1]
  unfold St.tick
  rw [if_neg (by simp; omega)]
  unfold sN
  simp [List.range_succ, List.replicate_succ']

theorem sN_alive (n : Nat) (k : Nat) (hk : k < n) : alive (sN n).ls ((k : Int) + 1) = true := by
  rw [alive_iff]
  refine ⟨by omega, ?_⟩
  rw [show ((k : Int) + 1 - 1).toNat = k by omega]
  unfold sN
  simp [hk]

theorem sN_time (n : Nat) (k : Nat) (hk : k < n) : timeOf (sN n).ts (sN n).ls ((k : Int) + 1) = k := by
  unfold timeOf
  rw [sN_alive n k hk, if_pos rfl, show ((k : Int) + 1 - 1).toNat = k by omega]
  unfold sN
  simp [hk]

theorem free_set (n k : Nat) (hk : k < n) : free ((List.replicate n true).set k false) = k := by
  induction k generalizing n with
  | zero =>
    obtain ⟨n, rfl⟩ : ∃ m, n = m + 1 := ⟨n - 1, by omega⟩
    simp [List.replicate_succ, free]
  | succ k ih =>
    obtain ⟨n, rfl⟩ : ∃ m, n = m + 1 := ⟨n - 1, by omega⟩
    simp [List.replicate_succ, free, ih n (by omega)]

theorem sN_drop_take (n k : Nat) (hk : k < n) : free ((sN n).drop ((k : Int) + 1)).ls = k ∧ (((sN n).drop ((k : Int) + 1)).take).ls = List.replicate n true := by
  have h1 : ((sN n).drop ((k : Int) + 1)).ls = (List.replicate n true).set k false := by
    unfold St.drop
    rw [sN_alive n k hk, if_pos rfl, show ((k : Int) + 1 - 1).toNat = k by omega]
    rfl
  have h2 := free_set n k hk
  refine ⟨by rw [h1]; exact h2, ?_⟩
  unfold St.take
  rw [h1, h2, if_pos (by simp; exact hk)]
  show ((List.replicate n true).set k false).set k true = _
  rw [List.set_set]
  apply List.ext_getElem?
  intro i
  by_cases e : k = i
  · subst e
    rw [List.getElem?_set_self (by simp; exact hk)]
    simp [hk]
  · rw [List.getElem?_set_ne e]

theorem liveFrom_true : ∀ n k, (liveFrom (List.replicate n true) k).length = n
  | 0, k => rfl
  | n + 1, k => by simp [List.replicate_succ, liveFrom, liveFrom_true n (k + 1)]

end Go.Proofs.Ytcdcdnochlapgaa
