/-
  The contract of path.Get at formed values, under utf8's tables.
-/
import Derived.Test.YtehdnjegipcpfaaDoorJ
import Derived.Test.YtehdnjegipcpfaaDoorO
namespace Go.Proofs.YtehdnjegipcpfaaDoor
open Go.RowKit Go.Proofs.YtehdnjegipcpfaaDoorW.PrintWords Go.Proofs.YtehdnjegipcpfaaDoorW.PrintLast Go.Proofs.YtehdnjegipcpfaaDoorW.PrintMore
open PFilterHolds Go.Shelf

/-- What Get hands back. -/
def GetEnd (r : Option S25) (e : Ending) (w' : World) : Prop :=
  match r with
  | none => e = .returned (.tuple #[.agg #[.int .i64 0, .int .i64 0, .string ⟨#[]⟩, .slice none 0 0, .slice none 0 0], .bool false])
  | some y => ∃ A3 c3 A4 c4, e = .returned (.tuple #[av y A3 c3 A4 c4, .bool true]) ∧ Rd w' A3 c3 A4 c4 y

abbrev cs25 (x : S25) (A3 : Option Addr) (c3 : Nat) (A4 : Option Addr) (c4 : Nat) : Array Value := #[.int .i64 x.f0, .int .i64 x.f1, .string x.f2, .slice A3 x.f3.length c3, .slice A4 x.f4.length c4]

theorem blk_set5 {w : World} {g : Nat} {a0 a1 a2 a3 a4 : Value} {t : TypeId} (h : w.heap[g]? = some (.cells #[a0, a1, a2, a3, a4] t (0, 0))) (u0 u1 u2 u3 u4 : Value) :
    (((((w.setCell ⟨g, 0, none⟩ u0).setCell ⟨g, 1, none⟩ u1).setCell ⟨g, 2, none⟩ u2).setCell ⟨g, 3, none⟩ u3).setCell ⟨g, 4, none⟩ u4).heap[g]? = some (.cells #[u0, u1, u2, u3, u4] t (0, 0)) :=
  (blk_set (blk_set (blk_set (blk_set (blk_set h 0 u0) 1 u1) 2 u2) 3 u3) 4 u4).trans rfl

theorem blk_far5 {w : World} {g : Nat} {t : TypeId} {cs : Array Value} {g' : Nat} (h : w.heap[g']? = some (.cells cs t (0, 0))) (hne : g' ≠ g) (u0 u1 u2 u3 u4 : Value) :
    (((((w.setCell ⟨g, 0, none⟩ u0).setCell ⟨g, 1, none⟩ u1).setCell ⟨g, 2, none⟩ u2).setCell ⟨g, 3, none⟩ u3).setCell ⟨g, 4, none⟩ u4).heap[g']? = some (.cells cs t (0, 0)) :=
  blk_far (blk_far (blk_far (blk_far (blk_far h hne u0) hne u1) hne u2) hne u3) hne u4

theorem below_set5 {w W : World} {g : Nat} (h : Below w.heap.size w W) (hg : w.heap.size ≤ g) (u0 u1 u2 u3 u4 : Value) :
    Below w.heap.size w (((((W.setCell ⟨g, 0, none⟩ u0).setCell ⟨g, 1, none⟩ u1).setCell ⟨g, 2, none⟩ u2).setCell ⟨g, 3, none⟩ u3).setCell ⟨g, 4, none⟩ u4) :=
  below_set (below_set (below_set (below_set (below_set h hg) hg) hg) hg) hg

theorem own_row_far {w : World} {base g : Nat} {e : TypeId} {n : Nat} {v : Value} {xs : List Value} (h : w.ownsRow base e 1 v n xs) (hg : g < base) (u : Value) (i : Nat) : (w.setCell ⟨g, i, none⟩ u).ownsRow base e 1 v n xs := by
  have hlt := h.lt
  obtain ⟨h1, h2⟩ := h
  refine ⟨h1, ?_⟩
  rcases h2 with h2 | ⟨g', cap, cur, rfl, hb', hg', r⟩
  · exact .inl h2
  · exact .inr ⟨g', cap, cur, rfl, hb', (Below.heap_setCell w ⟨g, i, none⟩ u g' (by show g' ≠ g; omega)).trans hg', r⟩

theorem stepsL_len (v : ByteArray → Bool) (p : ByteArray) : ∀ (f i g : Nat) (out l : List ByteArray), out.length ≤ 4 → stepsL v p f i g out = some l → l.length ≤ 4
  | 0, i, g, out, l, ho, h => by unfold stepsL at h; injection h with h; rw [← h]; exact ho
  | f + 1, i, g, out, l, ho, h => by
    unfold stepsL at h
    by_cases c : i < p.size ∧ ¬ bt p i = 46
    · rw [if_pos c] at h
      exact stepsL_len v p f _ _ out l ho h
    · rw [if_neg c] at h
      cases hb : stepsBad v p i g out.length with
      | true => rw [hb, if_pos rfl] at h; cases h
      | false =>
        rw [hb, if_neg (by simp)] at h
        refine stepsL_len v p f _ _ _ l ?_ h
        unfold stepsBad at hb
        simp only [Bool.or_eq_false_iff, decide_eq_false_iff_not] at hb
        rw [List.length_append, List.length_singleton]
        omega

set_option maxRecDepth 100000 in
set_option maxHeartbeats 4000000 in
theorem get_any (x : S25) (p : ByteArray) (A3 : Option Addr) (c3 : Nat) (A4 : Option Addr) (c4 : Nat) (w : World) (hf : fmJ x = true) (h : Rd w A3 c3 A4 c4 x) (hT : Tabs w) (hp : p.size ≤ 1000000) :
    Calls Tryd.prog 72 #[av x A3 c3 A4 c4, .string p] w fun e w' => GetEnd (getJ x p) e w' ∧ Below w.heap.size w w' := by
  have hb0 := two_boxes w (.cells (cs25 x A3 c3 A4 c4) 25) (.cells #[.int .i64 0, .int .i64 0, .string ⟨#[]⟩, .slice none 0 0, .slice none 0 0] 25)
  have hS := steps_any p _ (hT.below hb0) hp
  have hsz : ((w.alloc (.cells (cs25 x A3 c3 A4 c4) 25)).alloc (.cells #[.int .i64 0, .int .i64 0, .string ⟨#[]⟩, .slice none 0 0, .slice none 0 0] 25)).heap.size = w.heap.size + 2 := by simp
  rw [hsz] at hS
  have hk0 := two_boxes_0 w (.cells (cs25 x A3 c3 A4 c4) 25) (.cells #[.int .i64 0, .int .i64 0, .string ⟨#[]⟩, .slice none 0 0, .slice none 0 0] 25)
  have hk1 := two_boxes_1 w (.cells (cs25 x A3 c3 A4 c4) 25) (.cells #[.int .i64 0, .int .i64 0, .string ⟨#[]⟩, .slice none 0 0, .slice none 0 0] 25)
  obtain ⟨ANS, hA⟩ : ∃ a, getJ x p = a := ⟨_, rfl⟩
  rw [hA]
  unfold getJ at hA
  simp only [hf, if_true] at hA
  obtain ⟨q, hq⟩ : ∃ q, stepsJ vstr p = q := ⟨_, rfl⟩
  have hl4 : ∀ l, q = some l → l.length ≤ 4 := fun l e => stepsL_len vstr p _ _ _ [] l (by simp) (hq.trans e)
  rw [hq] at hA hS
  clear hq hsz
  have HA := Lib.hid hA; clear hA
  have HB0 := Lib.hid hb0; clear hb0
  have HK0 := Lib.hid hk0; clear hk0
  have HK1 := Lib.hid hk1; clear hk1
  have HT := Lib.hid hT; clear hT
  have HRD := Lib.hid h; clear h
  have HF := Lib.hid hf; clear hf
  obtain ⟨x0, x1, x2, x3, x4⟩ := x
  cases q with
  | none =>
    clear hl4
    go_enter Tryd.func72, Tryd.ntmps72
    go_wp2_with fail
    refine hS.mono ?_
    rintro e w1 ⟨hE, hb⟩
    have hE' : e = .returned (.tuple #[.slice none 0 0, .int .i64 2]) := hE
    subst hE'
    have hb' : Below ((w.alloc (.cells (cs25 ⟨x0, x1, x2, x3, x4⟩ A3 c3 A4 c4) 25)).alloc (.cells #[.int .i64 0, .int .i64 0, .string ⟨#[]⟩, .slice none 0 0, .slice none 0 0] 25)).heap.size ((w.alloc (.cells (cs25 ⟨x0, x1, x2, x3, x4⟩ A3 c3 A4 c4) 25)).alloc (.cells #[.int .i64 0, .int .i64 0, .string ⟨#[]⟩, .slice none 0 0, .slice none 0 0] 25)) w1 := by simpa using hb
    have k1 := blk_below HK1.out hb'
    have hB1 := HB0.out.trans (hb'.mono HB0.out.size)
    have HB1 := Lib.hid hB1; clear hB1 hb hb' hS hE
    have q0 : w1.cell? ⟨w.heap.size + 1, 0, none⟩ = some (.int .i64 0) := (blk_cell k1 0).trans rfl
    have q1 : w1.cell? ⟨w.heap.size + 1, 1, none⟩ = some (.int .i64 0) := (blk_cell k1 1).trans rfl
    have q2 : w1.cell? ⟨w.heap.size + 1, 2, none⟩ = some (.string ⟨#[]⟩) := (blk_cell k1 2).trans rfl
    have q3 : w1.cell? ⟨w.heap.size + 1, 3, none⟩ = some (.slice none 0 0) := (blk_cell k1 3).trans rfl
    have q4 : w1.cell? ⟨w.heap.size + 1, 4, none⟩ = some (.slice none 0 0) := (blk_cell k1 4).trans rfl
    have z0 := blk_frozen k1 0
    have z1 := blk_frozen k1 1
    have z2 := blk_frozen k1 2
    have z3 := blk_frozen k1 3
    have z4 := blk_frozen k1 4
    clear k1
    go_wp2_with fail
    refine bodyPost_ret (v := .tuple #[.agg #[.int .i64 0, .int .i64 0, .string ⟨#[]⟩, .slice none 0 0, .slice none 0 0], .bool false]) ?_ rfl ?_
    · simp [results, Tryd.results72, go_sem, q0, q1, q2, q3, q4]
    refine ⟨?_, below_set5 HB1.out (by omega) _ _ _ _ _⟩
    rw [← HA.out]
    rfl
  | some l =>
    have hl4' := hl4 l rfl
    clear hl4
    go_enter Tryd.func72, Tryd.ntmps72
    go_wp2_with fail
    refine hS.mono ?_
    rintro e w1 ⟨hE, hb⟩
    obtain ⟨vv, rfl, hrow⟩ : ∃ v, e = .returned (.tuple #[v, .int .i64 0]) ∧ w1.ownsRow (w.heap.size + 2) 9 1 v l.length (l.map Value.string) := hE
    obtain ⟨Al, cl, rfl⟩ := row_len hrow
    have hb' : Below ((w.alloc (.cells (cs25 ⟨x0, x1, x2, x3, x4⟩ A3 c3 A4 c4) 25)).alloc (.cells #[.int .i64 0, .int .i64 0, .string ⟨#[]⟩, .slice none 0 0, .slice none 0 0] 25)).heap.size ((w.alloc (.cells (cs25 ⟨x0, x1, x2, x3, x4⟩ A3 c3 A4 c4) 25)).alloc (.cells #[.int .i64 0, .int .i64 0, .string ⟨#[]⟩, .slice none 0 0, .slice none 0 0] 25)) w1 := by simpa using hb
    have k0 := blk_below HK0.out hb'
    have k1 := blk_below HK1.out hb'
    have hB1 := HB0.out.trans (hb'.mono HB0.out.size)
    have hlt2 : w.heap.size + 1 < w1.heap.size := blk_lt k1
    have hX := Formed_any ⟨x0, x1, x2, x3, x4⟩ A3 c3 A4 c4 w1 (HRD.out.below hB1) (HT.out.below hB1)
    rw [HF.out] at hX
    have f0 : w1.cell? ⟨w.heap.size, 0, none⟩ = some (.int .i64 x0) := (blk_cell k0 0).trans rfl
    have f1 : w1.cell? ⟨w.heap.size, 1, none⟩ = some (.int .i64 x1) := (blk_cell k0 1).trans rfl
    have f2 : w1.cell? ⟨w.heap.size, 2, none⟩ = some (.string x2) := (blk_cell k0 2).trans rfl
    have f3 : w1.cell? ⟨w.heap.size, 3, none⟩ = some (.slice A3 x3.length c3) := (blk_cell k0 3).trans rfl
    have f4 : w1.cell? ⟨w.heap.size, 4, none⟩ = some (.slice A4 x4.length c4) := (blk_cell k0 4).trans rfl
    have HK0' := Lib.hid k0
    have HK1' := Lib.hid k1
    have HB1 := Lib.hid hB1
    have HR := Lib.hid hrow
    clear k0 k1 hB1 hb hb' hS hrow HK0 HK1 HB0
    go_wp2_with fail
    refine hX.mono ?_
    rintro e w2 ⟨rfl, hb⟩
    have hB2 := HB1.out.trans (hb.mono HB1.out.size)
    have k0 := blk_below HK0'.out hb
    have k1 := blk_below HK1'.out hb
    have hrow2 := own_below HR.out hb
    have HB2 := Lib.hid hB2
    have HK0 := Lib.hid k0
    have HK1 := Lib.hid k1
    have HR2 := Lib.hid hrow2
    clear hB2 k0 k1 hrow2 hb hX f0 f1 f2 f3 f4 HK0' HK1' HB1 HR hlt2
    go_wp2_with fail
    go_loopw [8, 9] (fun v8 v9 wr => ∃ (j : Nat) (y : S25) (B3 : Option Addr) (d3 : Nat) (B4 : Option Addr) (d4 : Nat), j ≤ l.length ∧ v8 = .int .i64 j ∧ wr.heap[w.heap.size]? = some (.cells (cs25 y B3 d3 B4 d4) 25 (0, 0)) ∧ wr.heap[w.heap.size + 1]? = some (.cells #[.int .i64 0, .int .i64 0, .string ⟨#[]⟩, .slice none 0 0, .slice none 0 0] 25 (0, 0)) ∧ Rd w B3 d3 B4 d4 y ∧ fmJ y = true ∧ ANS = walkJ y (l.drop j) ∧ wr.ownsRow (w.heap.size + 2) 9 1 (.slice Al l.length cl) l.length (l.map Value.string) ∧ Below w.heap.size w wr) (fun v8 _ _ => l.length - (intOf v8).toNat)
    case atStart => exact ⟨0, ⟨x0, x1, x2, x3, x4⟩, A3, c3, A4, c4, Nat.zero_le _, rfl, HK0.out, HK1.out, HRD.out, HF.out, HA.out.symm, HR2.out, HB2.out⟩
    case round =>
      obtain ⟨j, y, B3, d3, B4, d4, hj, rfl, k0, k1, hRy, hfy, hS, hrow, hB⟩ := hrel
      have HS := Lib.hid hS; clear hS
      have HB := Lib.hid hB; clear hB
      have HRY := Lib.hid hRy; clear hRy
      have HFY := Lib.hid hfy; clear hfy
      have hlt2 : w.heap.size + 1 < wr.heap.size := blk_lt k1
      obtain ⟨y0, y1, y2, y3, y4⟩ := y
      have e0 : wr.cell? ⟨w.heap.size, 0, none⟩ = some (.int .i64 y0) := (blk_cell k0 0).trans rfl
      have e1 : wr.cell? ⟨w.heap.size, 1, none⟩ = some (.int .i64 y1) := (blk_cell k0 1).trans rfl
      have e2 : wr.cell? ⟨w.heap.size, 2, none⟩ = some (.string y2) := (blk_cell k0 2).trans rfl
      have e3 : wr.cell? ⟨w.heap.size, 3, none⟩ = some (.slice B3 y3.length d3) := (blk_cell k0 3).trans rfl
      have e4 : wr.cell? ⟨w.heap.size, 4, none⟩ = some (.slice B4 y4.length d4) := (blk_cell k0 4).trans rfl
      clear HK0 HK1 HR2 HB2 HA HRD HF
      by_cases hlt : j < l.length
      · have hji : (j : Int) < (l.length : Int) := by omega
        obtain ⟨g, capg, hform, hgb, hglt⟩ := hrow.form (by omega)
        have hAl : Al = some ⟨g, 0, none⟩ := by injection hform
        subst hAl
        obtain ⟨s, hs⟩ : ∃ s, l[j]? = some s := ⟨_, List.getElem?_eq_getElem hlt⟩
        have e9 : wr.cell? ⟨g, j, none⟩ = some (.string s) := by
          have := hrow.cells (g := g) rfl j (.string s) (by rw [List.getElem?_map, hs]; rfl)
          rw [Addr.add_lit, Nat.zero_add] at this
          exact this
        have hd : l.drop j = s :: l.drop (j + 1) := by
          obtain ⟨hi, rfl⟩ := List.getElem?_eq_some_iff.1 hs
          exact List.drop_eq_getElem_cons hi
        have HD := Lib.hid hd; clear hd hs
        have h24 := few_items HFY.out
        have hcw := place_any ⟨y0, y1, y2, y3, y4⟩ s (by have := h24.1; omega) B3 d3 B4 d4 wr.drew ((HRY.out.below HB.out).below (Below.refl _ wr).drew)
        have hpl := placeJ_lt HFY.out s
        obtain ⟨q, hq⟩ : ∃ q, placeJ ⟨y0, y1, y2, y3, y4⟩ s = q := ⟨_, rfl⟩
        rw [hq] at hcw hpl
        have HQ := Lib.hid hq; clear hq
        have HPL := Lib.hid hpl; clear hpl
        have HK0 := Lib.hid k0; clear k0
        have HK1 := Lib.hid k1; clear k1
        have HR := Lib.hid hrow; clear hrow hform
        have HG := Lib.hid hgb; clear hgb hglt h24
        go_upto_region 7 with fail
        refine start_ (n := 7) (S := fun w' => w'.cell? ⟨w.heap.size, 0, none⟩ = some (.int .i64 y0) ∧ w'.cell? ⟨w.heap.size, 1, none⟩ = some (.int .i64 y1) ∧ w'.cell? ⟨w.heap.size, 2, none⟩ = some (.string y2) ∧ w'.cell? ⟨w.heap.size, 3, none⟩ = some (.slice B3 y3.length d3) ∧ w'.cell? ⟨w.heap.size, 4, none⟩ = some (.slice B4 y4.length d4) ∧ w'.cell? ⟨g, j, none⟩ = some (.string s)) (ds := []) #[false, false, false, false, false, false, false] (by kernel_rfl) rfl rfl ⟨e0, e1, e2, e3, e4, e9⟩ (fun hHeld => ?_)
        refine pure_ (i := 1) (N := some 30) (v := ?_) (a' := ?_) #[false, true, false, false, false, false, false] rfl rfl (by kernel_rfl) (fun _ _ _ h => h) (Or.inl ⟨by rfl, ?_⟩) ?_ ?_
        rotate_left
        · intro w'
          go_simp
          with_reducible rfl
        rotate_left
        · simp only [Act.put, List.setIfInBounds_toArray, List.set_cons_zero, List.set_cons_succ]
          rfl
        refine pure_ (i := 2) (N := some 31) (v := ?_) (a' := ?_) #[false, true, true, false, false, false, false] rfl rfl (by kernel_rfl) (fun _ _ _ h => h) (Or.inl ⟨by rfl, ?_⟩) ?_ ?_
        rotate_left
        · intro w'
          go_simp
          with_reducible rfl
        rotate_left
        · simp only [Act.put, List.setIfInBounds_toArray, List.set_cons_zero, List.set_cons_succ]
          rfl
        refine pure_ (i := 3) (N := some 32) (v := ?_) (a' := ?_) #[false, true, true, true, false, false, false] rfl rfl (by kernel_rfl) (fun _ _ _ h => h) (Or.inl ⟨by rfl, ?_⟩) ?_ ?_
        rotate_left
        · intro w'
          go_simp
          with_reducible rfl
        rotate_left
        · simp only [Act.put, List.setIfInBounds_toArray, List.set_cons_zero, List.set_cons_succ]
          rfl
        refine take_ (i := 0) (N := some 29) (v := ?_) (a' := ?_) #[true, true, true, true, false, false, false] rfl rfl (by kernel_rfl) (fun _ _ _ h => h) (Or.inl ⟨by rfl, ?_⟩) hHeld ?_ ?_
        rotate_left
        · rintro w' ⟨s0, s1, s2, s3, s4, s5⟩
          go_simp
          with_reducible rfl
        rotate_left
        · simp only [Act.put, List.setIfInBounds_toArray, List.set_cons_zero, List.set_cons_succ]
          rfl
        refine take_ (i := 4) (N := some 33) (v := ?_) (a' := ?_) #[true, true, true, true, true, false, false] rfl rfl (by kernel_rfl) (fun _ _ _ h => h) (Or.inl ⟨by rfl, ?_⟩) hHeld ?_ ?_
        rotate_left
        · rintro w' ⟨s0, s1, s2, s3, s4, s5⟩
          go_simp
          with_reducible rfl
        rotate_left
        · simp only [Act.put, List.setIfInBounds_toArray, List.set_cons_zero, List.set_cons_succ]
          rfl
        refine one_ (i := 5) (N := some 34) #[true, true, true, true, true, true, false] rfl rfl (by kernel_rfl) (by decide) (fun K hK => ?_)
        refine goes_ Tryd.func116 (by kernel_rfl) rfl #[.agg #[.int .i64 y0, .int .i64 y1, .string y2, .slice B3 y3.length d3, .slice B4 y4.length d4], .string s] (by rfl) rfl rfl (by simp only [List.map_toArray, List.map_cons, List.map_nil]; rfl) ?_
        with_reducible refine (hcw).mono ?_
        rintro e w2 ⟨rfl, hbc⟩
        refine ⟨_, rfl, ?_⟩
        have hbw : Below wr.heap.size wr w2 := (Below.refl _ wr).drew.trans hbc
        have HBC := Lib.hid hbw
        clear hbc hbw
        refine hK.out _ _ ⟨((HBC.out.cell (World.block_lt_of_cell? wr _ e0)).trans e0), ((HBC.out.cell (World.block_lt_of_cell? wr _ e1)).trans e1), ((HBC.out.cell (World.block_lt_of_cell? wr _ e2)).trans e2), ((HBC.out.cell (World.block_lt_of_cell? wr _ e3)).trans e3), ((HBC.out.cell (World.block_lt_of_cell? wr _ e4)).trans e4), ((HBC.out.cell (World.block_lt_of_cell? wr _ e9)).trans e9)⟩ (fun hHeld => ?_)
        clear hK K
        refine norm_ (a' := ?_) ?_ ?_
        rotate_left
        · show Act.put _ (some 34) _ = _
          simp only [Act.put, List.setIfInBounds_toArray, List.set_cons_zero, List.set_cons_succ]
          rfl
        refine pure_ (i := 6) (N := some 9) (v := ?_) (a' := ?_) #[true, true, true, true, true, true, true] rfl rfl (by kernel_rfl) (fun _ _ _ h => h) (Or.inl ⟨by rfl, ?_⟩) ?_ ?_
        rotate_left
        · intro w'
          go_simp
          with_reducible rfl
        rotate_left
        · simp only [Act.put, List.setIfInBounds_toArray, List.set_cons_zero, List.set_cons_succ]
          rfl
        refine done_ (by kernel_rfl) ?_

        have hB2 := HB.out.trans (HBC.out.mono HB.out.size)
        have k0 := blk_below HK0.out HBC.out
        have k1 := blk_below HK1.out HBC.out
        have hrow2 := own_below HR.out HBC.out
        have HR2 := Lib.hid hrow2; clear hrow2
        have HB2 := Lib.hid hB2; clear hB2
        clear hcw e0 e1 e2 e3 e4 e9 HR HB HK0 HBC
        have HK1b := Lib.hid k1
        by_cases hneg : q < 0
        · have t1 : decide (q < 0) = true := decide_eq_true hneg
          have q0 : w2.cell? ⟨w.heap.size + 1, 0, none⟩ = some (.int .i64 0) := (blk_cell k1 0).trans rfl
          have q1 : w2.cell? ⟨w.heap.size + 1, 1, none⟩ = some (.int .i64 0) := (blk_cell k1 1).trans rfl
          have q2 : w2.cell? ⟨w.heap.size + 1, 2, none⟩ = some (.string ⟨#[]⟩) := (blk_cell k1 2).trans rfl
          have q3 : w2.cell? ⟨w.heap.size + 1, 3, none⟩ = some (.slice none 0 0) := (blk_cell k1 3).trans rfl
          have q4 : w2.cell? ⟨w.heap.size + 1, 4, none⟩ = some (.slice none 0 0) := (blk_cell k1 4).trans rfl
          have z0 := blk_frozen k1 0
          have z1 := blk_frozen k1 1
          have z2 := blk_frozen k1 2
          have z3 := blk_frozen k1 3
          have z4 := blk_frozen k1 4
          clear k0 k1
          go_wp2_with fail
          refine bodyPost_ret (v := .tuple #[.agg #[.int .i64 0, .int .i64 0, .string ⟨#[]⟩, .slice none 0 0, .slice none 0 0], .bool false]) ?_ rfl ?_
          · simp [results, Tryd.results72, go_sem, q0, q1, q2, q3, q4]
          refine ⟨?_, below_set5 HB2.out (by omega) _ _ _ _ _⟩
          rw [HS.out, HD.out]
          unfold walkJ
          rw [HQ.out, if_pos hneg]
          rfl
        · have t1 : decide (q < 0) = false := decide_eq_false hneg
          obtain ⟨k, rfl⟩ : ∃ k : Nat, q = k := ⟨q.toNat, by omega⟩
          have hk4 : k < y4.length := by have := HPL.out.2 (by omega); simpa using this
          have hki : (k : Int) < (y4.length : Int) := by omega
          obtain ⟨u, hu⟩ : ∃ u, y4[k]? = some u := ⟨_, List.getElem?_eq_getElem hk4⟩
          obtain ⟨b', o', D3, m3, D4, m4, rfl, hb', i0, i1, i2, i3, i4, hRu⟩ := item_of HRY.out.g4 rfl k u hu
          replace i0 := (HB2.out.cell (World.block_lt_of_cell? w _ i0)).trans i0
          replace i1 := (HB2.out.cell (World.block_lt_of_cell? w _ i1)).trans i1
          replace i2 := (HB2.out.cell (World.block_lt_of_cell? w _ i2)).trans i2
          replace i3 := (HB2.out.cell (World.block_lt_of_cell? w _ i3)).trans i3
          replace i4 := (HB2.out.cell (World.block_lt_of_cell? w _ i4)).trans i4
          have hfu : fmJ u = true := items_formed HFY.out u (List.mem_of_getElem? hu)
          have hgd : y4.getD k z25 = u := by rw [List.getD_eq_getElem?_getD, hu]; rfl
          have HGD := Lib.hid hgd; clear hgd hu
          have HFU := Lib.hid hfu; clear hfu
          have HRU := Lib.hid hRu; clear hRu
          have e0 : w2.cell? ⟨w.heap.size, 0, none⟩ = some (.int .i64 y0) := (blk_cell k0 0).trans rfl
          have e1 : w2.cell? ⟨w.heap.size, 1, none⟩ = some (.int .i64 y1) := (blk_cell k0 1).trans rfl
          have e2 : w2.cell? ⟨w.heap.size, 2, none⟩ = some (.string y2) := (blk_cell k0 2).trans rfl
          have e3 : w2.cell? ⟨w.heap.size, 3, none⟩ = some (.slice B3 y3.length d3) := (blk_cell k0 3).trans rfl
          have e4 : w2.cell? ⟨w.heap.size, 4, none⟩ = some (.slice (some ⟨b', o', none⟩) y4.length d4) := (blk_cell k0 4).trans rfl
          have z0 := blk_frozen k0 0
          have z1 := blk_frozen k0 1
          have z2 := blk_frozen k0 2
          have z3 := blk_frozen k0 3
          have z4 := blk_frozen k0 4
          have HK0 := Lib.hid k0; clear k0 k1
          obtain ⟨u0, u1, u2, u3, u4⟩ := u
          go_wp2_with fail
          go_roundw
          case rel =>
            refine ⟨j + 1, ⟨u0, u1, u2, u3, u4⟩, D3, m3, D4, m4, by omega, by go_num, blk_set5 HK0.out _ _ _ _ _, blk_far5 HK1b.out (by omega) _ _ _ _ _, HRU.out, HFU.out, ?_, ?_, below_set5 HB2.out (Nat.le_refl _) _ _ _ _ _⟩
            · rw [HS.out, HD.out]
              conv => lhs; unfold walkJ
              rw [HQ.out, if_neg hneg, Int.toNat_natCast]
              simp only [HGD.out]
            · exact own_row_far (own_row_far (own_row_far (own_row_far (own_row_far HR2.out (by omega) _ _) (by omega) _ _) (by omega) _ _) (by omega) _ _) (by omega) _ _
          case measure => simp [intOf]; omega
      · obtain rfl : j = l.length := by omega
        have hO := own_any 6 ⟨y0, y1, y2, y3, y4⟩ B3 d3 B4 d4 wr HFY.out (HRY.out.below HB.out)
        have HK1 := Lib.hid k1; clear k1 k0
        have HR := Lib.hid hrow; clear hrow
        go_wp2_with fail
        refine hO.mono ?_
        rintro e w2 ⟨v3, v4, rfl, hM, hb⟩
        have k1 := blk_below HK1.out hb
        have hB2 := HB.out.trans (hb.mono HB.out.size)
        have HB2 := Lib.hid hB2; clear hB2 hb
        obtain ⟨t3, t4, ht, g3, g4⟩ := k25_openM hM
        obtain ⟨rfl, rfl⟩ : v3 = t3 ∧ v4 = t4 := by simpa using ht
        obtain ⟨Bu, du, rfl⟩ := Kd.R_slice g3
        obtain ⟨Cu, eu, rfl⟩ := Kd.R_slice g4
        have HG3 := Lib.hid g3; clear g3
        have HG4 := Lib.hid g4; clear g4 ht hM
        have q0 : w2.cell? ⟨w.heap.size + 1, 0, none⟩ = some (.int .i64 0) := (blk_cell k1 0).trans rfl
        have q1 : w2.cell? ⟨w.heap.size + 1, 1, none⟩ = some (.int .i64 0) := (blk_cell k1 1).trans rfl
        have q2 : w2.cell? ⟨w.heap.size + 1, 2, none⟩ = some (.string ⟨#[]⟩) := (blk_cell k1 2).trans rfl
        have q3 : w2.cell? ⟨w.heap.size + 1, 3, none⟩ = some (.slice none 0 0) := (blk_cell k1 3).trans rfl
        have q4 : w2.cell? ⟨w.heap.size + 1, 4, none⟩ = some (.slice none 0 0) := (blk_cell k1 4).trans rfl
        have z0 := blk_frozen k1 0
        have z1 := blk_frozen k1 1
        have z2 := blk_frozen k1 2
        have z3 := blk_frozen k1 3
        have z4 := blk_frozen k1 4
        have hans : ANS = some ⟨y0, y1, y2, y3, y4⟩ := by rw [HS.out, List.drop_length]; rfl
        subst hans
        clear k1 hO e0 e1 e2 e3 e4 HS
        simp only at HG3 HG4 ⊢
        go_wp2_with fail
        refine bodyPost_ret (v := .tuple #[.agg #[.int .i64 y0, .int .i64 y1, .string y2, .slice Bu y3.length du, .slice Cu y4.length eu], .bool true]) ?_ rfl ?_
        · simp [results, Tryd.results72, go_sem, q0, q1, q2, q3, q4]
        refine ⟨⟨Bu, du, Cu, eu, rfl, ?_⟩, below_set5 HB2.out (by omega) _ _ _ _ _⟩
        have r3 := far5 (g := w.heap.size + 1) HG3.out (fun k hk => by omega) (.int .i64 y0) (.int .i64 y1) (.string y2) (.slice Bu y3.length du) (.slice Cu y4.length eu)
        have r4 := far5 (g := w.heap.size + 1) HG4.out (fun k hk => by omega) (.int .i64 y0) (.int .i64 y1) (.string y2) (.slice Bu y3.length du) (.slice Cu y4.length eu)
        obtain ⟨_, l3, c3'⟩ := Kd.R_reads' r3
        obtain ⟨_, l4, c4'⟩ := Kd.R_reads' r4
        exact ⟨l3, c3', l4, c4'⟩

end Go.Proofs.YtehdnjegipcpfaaDoor
