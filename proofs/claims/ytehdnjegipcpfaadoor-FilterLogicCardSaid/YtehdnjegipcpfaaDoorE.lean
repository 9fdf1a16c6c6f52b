/-
  The contract of json.Same at a formed value; no other condition.
-/
import Derived.Test.YtehdnjegipcpfaaDoorD
namespace Go.Proofs.YtehdnjegipcpfaaDoor
open Go.RowKit Go.Proofs.YtehdnjegipcpfaaDoorW.PrintWords Go.Proofs.YtehdnjegipcpfaaDoorW.PrintLast Go.Proofs.YtehdnjegipcpfaaDoorW.PrintMore
open PFilterHolds Go.Shelf

def eqAt (l m : List ByteArray) (i : Nat) : Bool := (l.getD i ByteArray.empty).toList == (m.getD i ByteArray.empty).toList
/-- Are two lists of texts alike? -/
def eqS (l m : List ByteArray) : Bool := decide (l.length = m.length) && (List.range' 0 l.length).all (eqAt l m)

theorem eq_tot (l m : List ByteArray) (hm : l.length = m.length) (hb : l.length ≤ 1000000) : ∀ d j, j + d = l.length →
    slices_Equal_string_string.l0 (d + 1) l m (l.length : Int) (j : Int) = some ((List.range' j d).all (eqAt l m))
  | 0, j, h => by
    unfold slices_Equal_string_string.l0
    rw [if_neg (by omega)]
    rfl
  | d + 1, j, h => by
    unfold slices_Equal_string_string.l0
    rw [if_pos (by omega), if_pos (by omega), if_pos (by omega), if_pos (by omega)]
    have e : wrap64 ((j : Int) + 1) = ((j + 1 : Nat) : Int) := by unfold wrap64; omega
    rw [e, eq_tot l m hm hb d (j + 1) (by omega), List.range'_succ, List.all_cons]
    have e2 : eqAt l m j = ((rdOf ByteArray.empty l (j : Int)).toList == (rdOf ByteArray.empty m (j : Int)).toList) := rfl
    rw [e2]
    by_cases h2 : (rdOf ByteArray.empty l (j : Int)).toList = (rdOf ByteArray.empty m (j : Int)).toList
    · rw [if_pos h2, h2]; simp
    · rw [if_neg h2, show ((rdOf ByteArray.empty l (j : Int)).toList == (rdOf ByteArray.empty m (j : Int)).toList) = false by simpa using h2]; simp

theorem names_eq (A0 : Option Addr) (c0 : Nat) (l : List ByteArray) (A1 : Option Addr) (c1 : Nat) (m : List ByteArray) (w : World) (h0 : Kd.string.C w A0 l.length l) (g0 : l.length ≤ c0) (h1 : Kd.string.C w A1 m.length m) (g1 : m.length ≤ c1) (hb : l.length ≤ 1000000) :
    Calls Tryd.prog 36 #[.slice A0 l.length c0, .slice A1 m.length c1] w fun e w' => e = .returned (.bool (eqS l m)) ∧ Below w.heap.size w w' := by
  have hf : slices_Equal_string_string.f (l.length + 1) l m = some (eqS l m) := by
    unfold slices_Equal_string_string.f eqS
    by_cases e : l.length = m.length
    · rw [if_pos (by omega), show (0 : Int) = ((0 : Nat) : Int) from rfl, eq_tot l m e hb l.length 0 (by omega), decide_eq_true e, Bool.true_and]
    · rw [if_neg (by omega), decide_eq_false e, Bool.false_and]
  refine (slices_Equal_string_string.calls (l.length + 1) A0 c0 l A1 c1 m (eqS l m) w h0 g0 h1 g1 hf).mono fun e w' ⟨he, hd⟩ => ⟨he, drawn_below hd⟩

/-- Are two values alike? (the first one of at most so much depth) -/
def sameF : Nat → S25 → S25 → Bool
  | 0, _, _ => false
  | k + 1, x, y => x.f0 == y.f0 && (x.f1 == y.f1 && (x.f2.toList == y.f2.toList && (eqS x.f3 y.f3 && (decide (x.f4.length = y.f4.length) && (List.range' 0 x.f4.length).all (fun i => sameF k (x.f4.getD i z25) (y.f4.getD i z25))))))

def SameAt (k : Nat) (p : S25 → Prop) : Prop := ∀ (x y : S25) (A3 : Option Addr) (c3 : Nat) (A4 : Option Addr) (c4 : Nat) (B3 : Option Addr) (d3 : Nat) (B4 : Option Addr) (d4 : Nat) (w : World), p x → Rd w A3 c3 A4 c4 x → Rd w B3 d3 B4 d4 y →
    Calls Tryd.prog 18 #[av x A3 c3 A4 c4, av y B3 d3 B4 d4] w fun e w' => e = .returned (.bool (sameF k x y)) ∧ Below w.heap.size w w'

set_option maxRecDepth 100000 in
set_option maxHeartbeats 4000000 in
theorem equal_func (k : Nat) (p : S25 → Prop) (ih : SameAt k p) (A c) (xs : List S25) (B d) (ys : List S25) (w : World) (h : Kd.C k25 w A xs.length xs) (h' : Kd.C k25 w B ys.length ys) (hp : ∀ x ∈ xs, p x) (hbig : xs.length ≤ 1000000) :
    Calls Tryd.prog 37 #[.slice A xs.length c, .slice B ys.length d, .func (.func 18) #[] #[]] w fun e w' => e = .returned (.bool (decide (xs.length = ys.length) && (List.range' 0 xs.length).all (fun i => sameF k (xs.getD i z25) (ys.getD i z25)))) ∧ Below w.heap.size w w' := by
  by_cases hl : xs.length = ys.length
  · obtain ⟨ANS, hA⟩ : ∃ ANS, (List.range' 0 xs.length).all (fun i => sameF k (xs.getD i z25) (ys.getD i z25)) = ANS := ⟨_, rfl⟩
    rw [decide_eq_true hl, Bool.true_and, hA]
    have HA := Lib.hid hA; clear hA
    have H := Lib.hid h; clear h
    have H' := Lib.hid h'; clear h'
    have HP := Lib.hid hp; clear hp
    have HI := Lib.hid ih; clear ih
    have hl1 : (xs.length : Int) = ys.length := by omega
    have hbx : ((xs.length : Int) != (ys.length : Int)) = false := by simp [hl]
    go_enter Tryd.func37, Tryd.ntmps37
    go_wp2
    go_loopw [7, 8, 9, 17] (fun v7 v8 v9 v17 wr => ∃ j : Nat, j ≤ xs.length ∧ v17 = .int .i64 j ∧ ANS = (List.range' j (xs.length - j)).all (fun i => sameF k (xs.getD i z25) (ys.getD i z25)) ∧ Below w.heap.size w wr) (fun _ _ _ v17 _ => xs.length - (intOf v17).toNat)
    case atStart => exact ⟨0, Nat.zero_le _, rfl, HA.out.symm, Below.refl _ _⟩
    case round =>
      obtain ⟨j, hj, rfl, hI, hB⟩ := hrel
      have HN := Lib.hid hI; clear hI
      have HB := Lib.hid hB; clear hB
      by_cases hlt : j < xs.length
      · have hji : (j : Int) < (xs.length : Int) := by omega
        have hji' : (j : Int) < (ys.length : Int) := by omega
        obtain ⟨x, hx⟩ : ∃ x, xs[j]? = some x := ⟨_, List.getElem?_eq_getElem hlt⟩
        obtain ⟨y, hy⟩ : ∃ y, ys[j]? = some y := ⟨_, List.getElem?_eq_getElem (by omega)⟩
        obtain ⟨b, o, A3, c3, A4, c4, rfl, hb, e0, e1, e2, e3, e4, hR⟩ := item_of H.out rfl j x hx
        obtain ⟨b', o', B3, d3, B4, d4, rfl, hb', e0', e1', e2', e3', e4', hR'⟩ := item_of H'.out rfl j y hy
        replace e0 := (HB.out.cell (World.block_lt_of_cell? w _ e0)).trans e0
        replace e1 := (HB.out.cell (World.block_lt_of_cell? w _ e1)).trans e1
        replace e2 := (HB.out.cell (World.block_lt_of_cell? w _ e2)).trans e2
        replace e3 := (HB.out.cell (World.block_lt_of_cell? w _ e3)).trans e3
        replace e4 := (HB.out.cell (World.block_lt_of_cell? w _ e4)).trans e4
        replace e0' := (HB.out.cell (World.block_lt_of_cell? w _ e0')).trans e0'
        replace e1' := (HB.out.cell (World.block_lt_of_cell? w _ e1')).trans e1'
        replace e2' := (HB.out.cell (World.block_lt_of_cell? w _ e2')).trans e2'
        replace e3' := (HB.out.cell (World.block_lt_of_cell? w _ e3')).trans e3'
        replace e4' := (HB.out.cell (World.block_lt_of_cell? w _ e4')).trans e4'
        have hcall := fun W (hbW : Below w.heap.size w W) => HI.out x y A3 c3 A4 c4 B3 d3 B4 d4 W (HP.out x (List.mem_of_getElem? hx)) (hR.below hbW) (hR'.below hbW)
        have hw1 : b < wr.heap.size := Nat.lt_of_lt_of_le hb HB.out.size
        have hw2 : b' < wr.heap.size := Nat.lt_of_lt_of_le hb' HB.out.size
        clear hR hR' hl
        obtain ⟨x0, x1, x2, x3, x4⟩ := x
        obtain ⟨y0, y1, y2, y3, y4⟩ := y
        have hd : (List.range' j (xs.length - j)).all (fun i => sameF k (xs.getD i z25) (ys.getD i z25)) = (sameF k ⟨x0, x1, x2, x3, x4⟩ ⟨y0, y1, y2, y3, y4⟩ && (List.range' (j + 1) (xs.length - (j + 1))).all (fun i => sameF k (xs.getD i z25) (ys.getD i z25))) := by
          rw [show xs.length - j = (xs.length - (j + 1)) + 1 by omega, List.range'_succ, List.all_cons, List.getD_eq_getElem?_getD, hx, List.getD_eq_getElem?_getD, hy]
          rfl
        have HD := Lib.hid hd; clear hd hx hy
        generalize sameF k ⟨x0, x1, x2, x3, x4⟩ ⟨y0, y1, y2, y3, y4⟩ = r at hcall HD
        cases r with
        | false =>
          have HF := Lib.hid (hcall); clear hcall
          go_wp2_with fail
          refine (HF.out _ ((HB.out.alloc HB.out.size _).alloc (by simp; have := HB.out.size; omega) _)).mono ?_; rintro e w' ⟨rfl, hb⟩
          have HB' := Lib.hid hb; clear hb
          go_wp2
          go_ret
          refine ⟨by rw [HN.out, HD.out]; rfl, ?_⟩
          have hs := HB.out.size
          exact ((HB.out.alloc hs _).alloc (by simp; omega) _).trans (HB'.out.mono (by simp; omega))
        | true =>
          have HF := Lib.hid (hcall); clear hcall
          go_wp2_with fail
          refine (HF.out _ ((HB.out.alloc HB.out.size _).alloc (by simp; have := HB.out.size; omega) _)).mono ?_; rintro e w' ⟨rfl, hb⟩
          have HB' := Lib.hid hb; clear hb
          go_wp2
          go_roundw
          case rel =>
            refine ⟨j + 1, by omega, by go_num, by rw [HN.out, HD.out]; rfl, ?_⟩
            have hs := HB.out.size
            exact ((HB.out.alloc hs _).alloc (by simp; omega) _).trans (HB'.out.mono (by simp; omega))
          case measure => simp [intOf]; omega
      · obtain rfl : j = xs.length := by omega
        go_wp2
        go_ret
        exact ⟨by rw [HN.out, Nat.sub_self]; rfl, HB.out⟩
  · have hbx : ((xs.length : Int) != (ys.length : Int)) = true := by simp; omega
    go_enter Tryd.func37, Tryd.ntmps37
    go_wp2
    go_ret
    exact ⟨by simp [hl], Below.refl _ _⟩

set_option maxRecDepth 100000 in
set_option maxHeartbeats 4000000 in
theorem same_step (k : Nat) (p : S25 → Prop) (ih : SameAt k p) (x y : S25) (A3 : Option Addr) (c3 : Nat) (A4 : Option Addr) (c4 : Nat) (B3 : Option Addr) (d3 : Nat) (B4 : Option Addr) (d4 : Nat) (w : World) (hp : ∀ z ∈ x.f4, p z) (h3 : x.f3.length ≤ 1000000) (h4 : x.f4.length ≤ 1000000) (h : Rd w A3 c3 A4 c4 x) (h' : Rd w B3 d3 B4 d4 y) :
    Calls Tryd.prog 18 #[av x A3 c3 A4 c4, av y B3 d3 B4 d4] w fun e w' => e = .returned (.bool (sameF (k + 1) x y)) ∧ Below w.heap.size w w' := by
  have hb0 := two_boxes w (.cells #[.int .i64 x.f0, .int .i64 x.f1, .string x.f2, .slice A3 x.f3.length c3, .slice A4 x.f4.length c4] 25) (.cells #[.int .i64 y.f0, .int .i64 y.f1, .string y.f2, .slice B3 y.f3.length d3, .slice B4 y.f4.length d4] 25)
  have hN := names_eq A3 c3 x.f3 B3 d3 y.f3 _ (h.below hb0).g3 h.l3 (h'.below hb0).g3 h'.l3 h3
  have hE := fun W (hb : Below w.heap.size w W) => equal_func k p ih A4 c4 x.f4 B4 d4 y.f4 W (h.below hb).g4 (h'.below hb).g4 hp h4
  obtain ⟨x0, x1, x2, x3, x4⟩ := x
  obtain ⟨y0, y1, y2, y3, y4⟩ := y
  unfold sameF
  simp only at hN hE hb0 ⊢
  generalize (decide (x4.length = y4.length) && (List.range' 0 x4.length).all (fun i => sameF k (x4.getD i z25) (y4.getD i z25))) = r at hE ⊢
  generalize eqS x3 y3 = q at hN ⊢
  have HB0 := Lib.hid hb0; clear hb0
  have HE := Lib.hid hE; clear hE
  clear h h' ih hp
  cases b1 : x0 == y0 with
  | false =>
    go_enter Tryd.func18, Tryd.ntmps18
    go_wp2_with fail
    go_ret
    exact ⟨by simp, HB0.out⟩
  | true =>
  cases b2 : x1 == y1 with
  | false =>
    go_enter Tryd.func18, Tryd.ntmps18
    go_wp2_with fail
    go_ret
    exact ⟨by simp, HB0.out⟩
  | true =>
  cases b3 : x2.toList == y2.toList with
  | false =>
    go_enter Tryd.func18, Tryd.ntmps18
    go_wp2_with fail
    go_ret
    exact ⟨by simp, HB0.out⟩
  | true =>
  cases q with
  | false =>
    go_enter Tryd.func18, Tryd.ntmps18
    go_wp2_with fail
    refine hN.mono ?_; rintro e w' ⟨rfl, hb⟩
    have HB := Lib.hid hb; clear hb
    go_wp2_with fail
    go_ret
    exact ⟨by simp, HB0.out.trans (HB.out.mono HB0.out.size)⟩
  | true =>
    go_enter Tryd.func18, Tryd.ntmps18
    go_wp2_with fail
    refine hN.mono ?_; rintro e w' ⟨rfl, hb⟩
    have f4 := (hb.cell (p := ⟨w.heap.size, 4, none⟩) (by simp; omega)).trans (blk_cell (two_boxes_0 w _ _) 4)
    have g4 := (hb.cell (p := ⟨w.heap.size + 1, 4, none⟩) (by simp)).trans (blk_cell (two_boxes_1 w _ _) 4)
    have HB := Lib.hid hb; clear hb
    have hB2 := HB0.out.trans (HB.out.mono HB0.out.size)
    go_wp2_with fail
    refine (HE.out _ hB2).mono ?_; rintro e w'' ⟨rfl, hb⟩
    have HB' := Lib.hid hb; clear hb
    go_wp2_with fail
    go_ret
    exact ⟨by simp, hB2.trans (HB'.out.mono hB2.size)⟩

theorem formed_parts {k : Nat} {x : S25} (h : formedJ (k + 1) x = true) : x.f3.length ≤ 24 ∧ x.f4.length ≤ 24 ∧ (∀ z ∈ x.f4, formedJ k z = true) ∧ 0 ≤ x.f0 ∧ x.f0 ≤ 6 ∧ (x.f0 = 6 → x.f3.length = x.f4.length) ∧ (x.f0 ≠ 6 → x.f3 = []) ∧ (x.f0 < 5 → x.f4 = []) ∧ namesJ x.f3 = true := by
  unfold formedJ headJ at h
  simp only [Bool.and_eq_true, decide_eq_true_eq] at h
  obtain ⟨⟨⟨⟨⟨a1, a2⟩, _⟩, _⟩, _⟩, hr⟩ := h
  by_cases h5 : x.f0 < 5
  · rw [if_pos h5] at hr
    simp only [Bool.and_eq_true, beq_iff_eq, List.length_eq_zero_iff] at hr
    obtain ⟨r1, r2⟩ := hr
    rw [r1, r2]
    refine ⟨by simp, by simp, fun z hz => (List.not_mem_nil hz).elim, a1, a2, fun e => by omega, fun _ => rfl, fun _ => rfl, rfl⟩
  · rw [if_neg h5] at hr
    simp only [Bool.and_eq_true, beq_iff_eq, decide_eq_true_eq, List.all_eq_true] at hr
    obtain ⟨⟨⟨r1, r2⟩, r3⟩, r4⟩ := hr
    refine ⟨by rw [r2]; split <;> omega, r1, r4, a1, a2, fun e => by rw [r2, if_pos e], fun e => by rw [if_neg e] at r2; exact List.length_eq_zero_iff.1 r2, fun e => absurd e h5, r3⟩

theorem same_any : ∀ k, SameAt k (fun x => formedJ k x = true)
  | 0 => fun x y A3 c3 A4 c4 B3 d3 B4 d4 w hp _ _ => by unfold formedJ at hp; cases hp
  | k + 1 => fun x y A3 c3 A4 c4 B3 d3 B4 d4 w hp h h' => by
    obtain ⟨p1, p2, p3, _⟩ := formed_parts hp
    exact same_step k _ (same_any k) x y A3 c3 A4 c4 B3 d3 B4 d4 w p3 (by omega) (by omega) h h'

end Go.Proofs.YtehdnjegipcpfaaDoor
