/-
  The law ClockNumbers, its walk.
-/
import Derived.Test.YtcdcdnochlapgaaU
namespace Go.Proofs.Ytcdcdnochlapgaa
open Go.RowKit Go.Maps Go.Sort Go.Shelf

theorem row_is {w : World} {base : Nat} {e : TypeId} {n : Nat} {v : Value} {xs : List Value} (h : w.ownsRow base e 1 v n xs) : ∃ r c, v = .slice r n c := by
  rcases h.2 with ⟨e, h0⟩ | ⟨g, cap, cur, rfl, _⟩
  · exact ⟨none, 0, by rw [h0]; exact e⟩
  · exact ⟨_, _, rfl⟩

theorem take_true {s : St} {k : Nat} (h : s.ls = List.replicate k true) : (liveS s.take.ls).length = k + 1 := by
  have hf : free s.ls = k := by rw [h, free_true]
  unfold St.take
  rw [if_neg (by rw [hf, h]; simp), h]
  rw [← List.replicate_succ']
  exact liveFrom_true _ _

set_option maxRecDepth 100000 in
set_option maxHeartbeats 2000000 in
theorem numbers_walk (n at_ : Nat) (hn : n ≤ 255) (hat : at_ ≤ 255) (w : World) :
    Calls Try.prog 4 #[.int .u8 n, .int .u8 at_] w fun e w' => e = .returned (.bool true) ∧ Below w.heap.size w w' := by
  have hA := awake_any w
  go_enter Try.func4, Try.ntmps4
  go_wp2_with fail
  refine hA.mono ?_; rintro e w1 ⟨rfl, hb1⟩
  have HB1 := Lib.hid hb1; clear hb1 hA
  go_wp2_with fail
  refine (new_any _ _).mono ?_; rintro e w2 ⟨rfl, hc2, hb2⟩
  have h2 : One w2 (w1.heap.size + 1) w1.heap.size 0 (sN 0) := One.start (by decide) hc2
  have hB2 : Below w.heap.size w w2 := HB1.out.trans (hb2.mono HB1.out.size)
  have hcb : w.heap.size ≤ w1.heap.size := HB1.out.size
  clear hb2 hc2
  have H2 := Lib.hid h2; clear h2
  have HB2 := Lib.hid hB2; clear hB2
  go_wp2
  go_loopw [6] (fun v wr => ∃ k : Nat, k ≤ n ∧ v = .int .i64 ((k : Int) + 1) ∧ One wr (w1.heap.size + 1) w1.heap.size k (sN k) ∧ Below w.heap.size w wr) (fun v _ => n + 1 - (intOf v).toNat)
  case atStart => exact ⟨0, Nat.zero_le _, rfl, H2.out, HB2.out⟩
  case round =>
    obtain ⟨k, hk, rfl, h1, hB⟩ := hrel
    have HB := Lib.hid hB; clear hB
    by_cases hlt : k < n
    · have hki : (k : Int) + 1 ≤ (n : Int) := by omega
      have hX := one_take wr h1 (by omega)
      rw [show free (sN k).ls = k from free_true k] at hX
      have H1 := Lib.hid h1; clear h1
      go_wp2_with fail
      refine hX.mono ?_; rintro e w3 ⟨rfl, h3, ht3⟩
      have hY := one_tick w3 h3 (by rw [take_now]; unfold sN; simp; omega)
      have H3 := Lib.hid h3; clear h3
      have HT3 := Lib.hid ht3; clear ht3
      go_wp2_with fail
      refine hY.mono ?_; rintro e w4 ⟨rfl, h4, ht4⟩
      rw [sN_step k (by omega)] at h4
      have H4 := Lib.hid h4; clear h4
      have HT4 := Lib.hid ht4; clear ht4
      go_wp2
      go_roundw
      case rel => exact ⟨k + 1, by omega, by go_num, H4.out, HB.out.trans ((HT3.out.below (fun j hj e => by omega) HB.out.size).trans (HT4.out.below (fun j hj e => by omega) (Nat.le_trans HB.out.size HT3.out.size)))⟩
      case measure => simp [intOf]; omega
    · obtain rfl : k = n := by omega
      by_cases h0 : k = 0
      · subst h0
        have hX := one_take wr h1 (by omega)
        rw [show free (sN 0).ls = 0 from rfl] at hX
        go_wp2_with fail
        refine hX.mono ?_; rintro e w3 ⟨rfl, h3, ht3⟩
        have HT3 := Lib.hid ht3; clear ht3
        clear h3
        go_wp2
        go_ret
        exact ⟨rfl, HB.out.trans (HT3.out.below (fun j hj e => by omega) HB.out.size)⟩
      · have hne : ((k : Int) == 0) = false := by simp; omega
        obtain ⟨j, hj, hjk⟩ : ∃ j : Nat, (at_ : Int) % (k : Int) = j ∧ j < k := ⟨at_ % k, by omega, Nat.mod_lt _ (by omega)⟩
        obtain ⟨id, hid⟩ : ∃ id : Int, id = (j : Int) + 1 := ⟨_, rfl⟩
        have hwf : (id64 id).wf = true := WalkArith.wf_i64 (by omega)
        have hX := one_time wr h1 id hwf
        have hD := one_drop wr h1 id hwf
        rw [hid, sN_alive k j hjk, sN_time k j hjk, ← hid] at hX
        rw [hid, sN_alive k j hjk, ← hid] at hD
        obtain ⟨e1, e2⟩ := sN_drop_take k j hjk
        rw [← hid] at e1 e2
        have hidw : wrap64 (1 + (at_ : Int) % (k : Int)) = id := by rw [hj, hid]; unfold wrap64; omega
        have i1 : 1 ≤ id := by omega
        have i2 : id ≤ 255 := by omega
        generalize (sN k).drop id = s1 at hD e1 e2
        obtain ⟨t, ht⟩ : ∃ t : Int, t = (j : Int) := ⟨_, rfl⟩
        rw [← ht] at hX
        have hti : (t == id - 1) = true := by simp; omega
        have hidk : (id == id) = true := by simp
        have e1' : (free s1.ls : Int) + 1 = id := by rw [e1, hid]
        have H1 := Lib.hid h1; clear h1
        have E1 := Lib.hid e1; clear e1
        have E2 := Lib.hid e2; clear e2
        have HK := Lib.hid h0; clear h0
        have HI := Lib.hid hid; clear hid
        have HTJ := Lib.hid ht; clear ht
        clear hj hlt hk
        have E1' := Lib.hid e1'; clear e1'
        go_wp2_with fail
        refine hX.mono ?_; rintro e w3 ⟨rfl, rfl⟩
        go_wp2_with fail
        refine hD.mono ?_; rintro e w4 ⟨rfl, h4, ht4⟩
        have hT := one_take w4 h4 (by omega)
        rw [E1'.out] at hT
        have HT4 := Lib.hid ht4; clear ht4 h4
        go_wp2_with fail
        refine hT.mono ?_; rintro e w5 ⟨rfl, h5, ht5⟩
        have hT := one_take w5 h5 (by omega)
        rw [E2.out, free_true] at hT
        have HT5 := Lib.hid ht5; clear ht5 h5
        go_wp2_with fail
        refine hT.mono ?_; rintro e w6 ⟨rfl, h6, ht6⟩
        have hk1 : k + 1 + 1 ≤ 100000 := by omega
        have hk0 : 1 ≤ k := by have := HK.out; omega
        have hlen : (liveS s1.take.take.ls).length = k + 1 := take_true E2.out
        have hL := one_live w6 h6 hk1
        have HT6 := Lib.hid ht6; clear ht6 h6
        go_wp2_with fail
        refine hL.mono ?_; rintro e w7 ⟨lv, rfl, hrow, hb7⟩
        obtain ⟨rv, cv, rfl⟩ := row_is hrow
        have HB7 := Lib.hid hb7; clear hb7 hrow
        rw [hlen]
        clear hL hT hX hD hlen
        go_wp2
        go_ret
        have g1 := HB.out.trans (HT4.out.below (fun j hj e => by omega) HB.out.size)
        have g2 := g1.trans (HT5.out.below (fun j hj e => by omega) g1.size)
        have g3 := g2.trans (HT6.out.below (fun j hj e => by omega) g2.size)
        exact ⟨rfl, g3.trans (HB7.out.mono g3.size)⟩

end Go.Proofs.Ytcdcdnochlapgaa
