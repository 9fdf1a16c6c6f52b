/-
  The contract of filter.paths at formed values: it appends a filter's paths to the row it was handed; no condition.
-/
import Derived.Test.YtehdnjegipcpfaaDoorPathp
namespace Go.Proofs.YtehdnjegipcpfaaDoor
open Go.RowKit Go.Proofs.YtehdnjegipcpfaaDoorW.PrintWords Go.Proofs.YtehdnjegipcpfaaDoorW.PrintLast Go.Proofs.YtehdnjegipcpfaaDoorW.PrintMore
open PFilterHolds Go.Shelf

/-- From one world to a later one, but for a row's own block; the row is the old one or lies in new memory. -/
structure Gr (w : World) (v : Value) (w' : World) (v' : Value) : Prop where
  os : w'.os = w.os
  tape : w'.tape = w.tape
  output : w'.output = w.output
  size : w.heap.size ≤ w'.heap.size
  block : ∀ k, k < w.heap.size → v.ownBlock ≠ some k → w'.heap[k]? = w.heap[k]?
  own : ∀ r, v'.ownBlock = some r → v.ownBlock = some r ∨ w.heap.size ≤ r

theorem Gr.refl (w : World) (v : Value) : Gr w v w v := ⟨rfl, rfl, rfl, Nat.le_refl _, fun _ _ _ => rfl, fun _ h => .inl h⟩

theorem Gr.trans {a b c : World} {u v x : Value} (h : Gr a u b v) (k : Gr b v c x) : Gr a u c x :=
  ⟨k.os.trans h.os, k.tape.trans h.tape, k.output.trans h.output, Nat.le_trans h.size k.size, fun i hi hne => by
    refine (k.block i (Nat.lt_of_lt_of_le hi h.size) (fun e => ?_)).trans (h.block i hi hne)
    rcases h.own i e with e | e
    · exact hne e
    · omega, fun r hr => by
    rcases k.own r hr with e | e
    · exact h.own r e
    · exact .inr (Nat.le_trans h.size e)⟩

theorem Gr.alloc (w : World) (v : Value) (o : Obj) : Gr w v (w.alloc o) v :=
  ⟨rfl, rfl, rfl, by simp, fun k hk _ => heap_alloc_old w o hk, fun _ h => .inl h⟩

theorem Gr.of_grown {w w' : World} {v : Value} {g n c : Nat} (hg : w.grownBy w' v.ownBlock) (ha : v.ownBlock = some g ∨ g = w.heap.size) : Gr w v w' (.slice (some ⟨g, 0, none⟩) n c) :=
  ⟨hg.os, hg.tape, hg.output, hg.size, fun k hk hne => hg.block k hk (fun e => hne e.symm), fun r hr => by
    have : g = r := by simpa [Value.ownBlock] using hr
    subst this
    rcases ha with e | e
    · exact .inl e
    · exact .inr (by omega)⟩

theorem Gr.below {B : Nat} {w0 w w' : World} {v v' : Value} (h : Gr w v w' v') (hb : Below B w0 w) (hB : B ≤ w.heap.size) (hr : ∀ k, v.ownBlock = some k → B ≤ k) : Below B w0 w' :=
  hb.trans ⟨h.os, h.tape, h.output, h.size, fun k hk => h.block k (by omega) (fun e => by have := hr k e; omega)⟩

theorem Gr.blk {w w' : World} {v v' : Value} {g : Nat} {o : Obj} (h : Gr w v w' v') (hk : w.heap[g]? = some o) (hne : ∀ k, v.ownBlock = some k → k ≠ g) : w'.heap[g]? = some o := by
  rw [h.block g (Array.getElem?_eq_some_iff.1 hk).1 (fun e => hne g e rfl)]
  exact hk

/-- The row so far, in the walk of a filter's paths. -/
structure St (w0 w : World) (v : Value) (x : S25) (A3 : Option Addr) (c3 : Nat) (A4 : Option Addr) (c4 : Nat) (V : Value) (ys : List ByteArray) (W : World) : Prop where
  row : W.ownsRow w0.heap.size 9 1 V ys.length (ys.map Value.string)
  gr : Gr w v W V
  bl : Below w0.heap.size w0 W
  kx : W.heap[w.heap.size]? = some (.cells (cs25 x A3 c3 A4 c4) 25 (0, 0))
  ne : V.ownBlock ≠ some w.heap.size

theorem St.step {w0 w : World} {v : Value} {x : S25} {A3 : Option Addr} {c3 : Nat} {A4 : Option Addr} {c4 : Nat} {V V' : Value} {ys zs : List ByteArray} {W W' : World} (h : St w0 w v x A3 c3 A4 c4 V ys W) (hg : Gr W V W' V') (ho : W'.ownsRow w0.heap.size 9 1 V' zs.length (zs.map Value.string)) : St w0 w v x A3 c3 A4 c4 V' zs W' :=
  ⟨ho, h.gr.trans hg, hg.below h.bl h.bl.size (fun k hk => (h.row.lt k hk).1), hg.blk h.kx (fun k hk e => h.ne (by rw [hk, e])), fun e => by
    rcases hg.own _ e with e | e
    · exact h.ne e
    · have := blk_lt h.kx; omega⟩

theorem St.alloc {w0 w : World} {v : Value} {x : S25} {A3 : Option Addr} {c3 : Nat} {A4 : Option Addr} {c4 : Nat} {V : Value} {ys : List ByteArray} {W : World} (h : St w0 w v x A3 c3 A4 c4 V ys W) (o : Obj) : St w0 w v x A3 c3 A4 c4 V ys (W.alloc o) :=
  h.step (Gr.alloc W V o) (h.row.alloc o)

def PathsAt (w0 : World) (k : Nat) : Prop := ∀ (x : S25) (A3 : Option Addr) (c3 : Nat) (A4 : Option Addr) (c4 : Nat) (v : Value) (xs : List ByteArray) (w : World),
    formedJ k x = true → Rd w0 A3 c3 A4 c4 x → Below w0.heap.size w0 w → w.ownsRow w0.heap.size 9 1 v xs.length (xs.map Value.string) → xs.length + (pathsJ k x).length ≤ 1000 →
    Calls Tryd.prog 38 #[v, av x A3 c3 A4 c4] w fun e w' => ∃ v', e = .returned v' ∧ w'.ownsRow w0.heap.size 9 1 v' (xs ++ pathsJ k x).length ((xs ++ pathsJ k x).map Value.string) ∧ Gr w v w' v'

set_option maxRecDepth 100000 in
set_option maxHeartbeats 1000000 in
theorem paths_step (w0 : World) (k : Nat) (ih : PathsAt w0 k) : PathsAt w0 (k + 1) := by
  intro x A3 c3 A4 c4 v xs w hf h hB hrow hlen
  obtain ⟨i0, hi, hz0, hz1, hz2⟩ := info_parts info9
  obtain ⟨hl3, hl4⟩ := few_items hf
  have hit := (formed_parts hf).2.2.1
  have hni := names_le hf
  have hlt := hrow.lt
  have hS0 : St w0 w v x A3 c3 A4 c4 v xs (w.alloc (.cells (cs25 x A3 c3 A4 c4) 25)) :=
    ⟨hrow.alloc _, Gr.alloc w v _, hB.alloc hB.size _, new_blk w _, fun e => by have := hlt _ e; omega⟩
  obtain ⟨ANS, hA⟩ : ∃ a, xs ++ pathsJ (k + 1) x = a := ⟨_, rfl⟩
  have hle : ANS.length ≤ 1000 := by rw [← hA, List.length_append]; exact hlen
  rw [hA]
  unfold pathsJ at hA
  obtain ⟨x0, x1, x2, x3, x4⟩ := x
  simp only at hl3 hl4 hA hni
  have hA2 : ANS = xs ++ (List.range' 0 (x3.length - 0)).flatMap (fun i => memberJ (pathsJ k) (x3.getD i ByteArray.empty) (x4.getD i z25)) := by rw [← hA, Nat.sub_zero]
  have HA := Lib.hid hA2; clear hA hA2 hlen
  have HLE := Lib.hid hle; clear hle
  have HS0 := Lib.hid hS0; clear hS0 hrow hB
  have HI := Lib.hid ih; clear ih
  have HIT := Lib.hid hit; clear hit
  have HNI := Lib.hid hni; clear hni
  have HRD := Lib.hid h; clear h
  clear hf hlt
  go_enter Tryd.func38, Tryd.ntmps38
  go_wp2_with fail
  go_loopw [0, 5, 6, 8, 12, 22, 32, 40] (fun V5 v5 v6 v8 v12 v22 v32 v40 wr => ∃ (j : Nat) (ys : List ByteArray), j ≤ x3.length ∧ v12 = .int .i64 j ∧ ANS = ys ++ (List.range' j (x3.length - j)).flatMap (fun i => memberJ (pathsJ k) (x3.getD i ByteArray.empty) (x4.getD i z25)) ∧ St w0 w v ⟨x0, x1, x2, x3, x4⟩ A3 c3 A4 c4 V5 ys wr) (fun _ _ _ _ v12 _ _ _ _ => x3.length - (intOf v12).toNat)
  case atStart => exact ⟨0, xs, Nat.zero_le _, rfl, HA.out, HS0.out⟩
  case round =>
    obtain ⟨j, ys, hj, rfl, hS, hst⟩ := hrel
    have HS := Lib.hid hS; clear hS
    have f3 : wr.cell? ⟨w.heap.size, 3, none⟩ = some (.slice A3 x3.length c3) := (blk_cell hst.kx 3).trans rfl
    have f4 : wr.cell? ⟨w.heap.size, 4, none⟩ = some (.slice A4 x4.length c4) := (blk_cell hst.kx 4).trans rfl
    have HST := Lib.hid hst; clear hst
    clear HA HS0
    by_cases hlt : j < x3.length
    · have hj4 : j < x4.length := by have := HNI.out; omega
      have hji : (j : Int) < (x3.length : Int) := by omega
      have hji' : (j : Int) < (x4.length : Int) := by omega
      obtain ⟨t, ht⟩ : ∃ t, x3[j]? = some t := ⟨_, List.getElem?_eq_getElem hlt⟩
      obtain ⟨y, hy⟩ : ∃ y, x4[j]? = some y := ⟨_, List.getElem?_eq_getElem hj4⟩
      obtain ⟨b', o', rfl, hb', e9⟩ := name_of HRD.out.g3 rfl j t ht
      obtain ⟨b, o, B3, d3, B4, d4, rfl, hb, e0, e1, e2, e3, e4, hR⟩ := item_of HRD.out.g4 rfl j y hy
      have hBW := HST.out.bl
      replace e9 := (hBW.cell (World.block_lt_of_cell? w0 _ e9)).trans e9
      replace e0 := (hBW.cell (World.block_lt_of_cell? w0 _ e0)).trans e0
      replace e1 := (hBW.cell (World.block_lt_of_cell? w0 _ e1)).trans e1
      replace e2 := (hBW.cell (World.block_lt_of_cell? w0 _ e2)).trans e2
      replace e3 := (hBW.cell (World.block_lt_of_cell? w0 _ e3)).trans e3
      replace e4 := (hBW.cell (World.block_lt_of_cell? w0 _ e4)).trans e4
      have hfy : formedJ k y = true := HIT.out y (List.mem_of_getElem? hy)
      have hd : ANS = ys ++ (memberJ (pathsJ k) t y ++ (List.range' (j + 1) (x3.length - (j + 1))).flatMap (fun i => memberJ (pathsJ k) (x3.getD i ByteArray.empty) (x4.getD i z25))) := by
        rw [HS.out, show x3.length - j = (x3.length - (j + 1)) + 1 by omega, List.range'_succ, List.flatMap_cons, List.getD_eq_getElem?_getD, ht, List.getD_eq_getElem?_getD, hy]
        rfl
      obtain ⟨RS, hRS⟩ : ∃ r, (List.range' (j + 1) (x3.length - (j + 1))).flatMap (fun i => memberJ (pathsJ k) (x3.getD i ByteArray.empty) (x4.getD i z25)) = r := ⟨_, rfl⟩
      rw [hRS] at hd
      have HRS := Lib.hid hRS; clear hRS
      have HRY := Lib.hid hR; clear hR
      have HFY := Lib.hid hfy; clear hfy
      clear hy ht HS hBW
      obtain ⟨AO, hAO⟩ : ∃ b, (isAnd t || isOr t) = b := ⟨_, rfl⟩
      unfold memberJ at hd
      rw [hAO] at hd
      have HD := Lib.hid hd; clear hd
      have HAO := Lib.hid hAO; clear hAO
      have hy24 : y.f4.length ≤ 24 := (few_items HFY.out).2
      obtain ⟨y0, y1, y2, y3, y4⟩ := y
      simp only at hy24
      cases t1 : t.toList == [36, 97, 110, 100] with
      | true =>
        have hAO := HAO.out
        unfold isAnd isOr at hAO
        rw [t1, Bool.true_or] at hAO
        subst hAO
        clear HAO
        have hd := HD.out
        rw [if_pos rfl] at hd
        clear HD
        have hd2 : ANS = ys ++ ((y4.drop 0).flatMap (pathsJ k) ++ RS) := hd
        have HD := Lib.hid hd2; clear hd hd2
        go_wp2_with fail
        go_loopw [0, 8, 32] (fun V5 v8 v32 wi => ∃ (i : Nat) (zs : List ByteArray), i ≤ y4.length ∧ v32 = .int .i64 i ∧ ANS = zs ++ ((y4.drop i).flatMap (pathsJ k) ++ RS) ∧ St w0 w v ⟨x0, x1, x2, x3, x4⟩ (some ⟨b', o', none⟩) c3 (some ⟨b, o, none⟩) c4 V5 zs wi) (fun _ _ v32 _ => y4.length - (intOf v32).toNat)
        case atStart => exact ⟨0, ys, Nat.zero_le _, rfl, HD.out, HST.out⟩
        case round =>
          obtain ⟨i, zs, hi', rfl, hS, hst⟩ := hrel
          have HS := Lib.hid hS; clear hS
          have HSI := Lib.hid hst; clear hst
          clear HD HST f3 f4 e0 e1 e2 e3 e4 e9
          by_cases hlt2 : i < y4.length
          · have hii : (i : Int) < (y4.length : Int) := by omega
            obtain ⟨u, hu⟩ : ∃ u, y4[i]? = some u := ⟨_, List.getElem?_eq_getElem hlt2⟩
            obtain ⟨p, q, E3, m3, E4, m4, rfl, hp, g0, g1, g2, g3, g4, hRu⟩ := item_of HRY.out.g4 rfl i u hu
            have hBW := HSI.out.bl
            replace g0 := (hBW.cell (World.block_lt_of_cell? w0 _ g0)).trans g0
            replace g1 := (hBW.cell (World.block_lt_of_cell? w0 _ g1)).trans g1
            replace g2 := (hBW.cell (World.block_lt_of_cell? w0 _ g2)).trans g2
            replace g3 := (hBW.cell (World.block_lt_of_cell? w0 _ g3)).trans g3
            replace g4 := (hBW.cell (World.block_lt_of_cell? w0 _ g4)).trans g4
            have hfu : formedJ k u = true := items_formed HFY.out u (List.mem_of_getElem? hu)
            have hd : ANS = (zs ++ pathsJ k u) ++ ((y4.drop (i + 1)).flatMap (pathsJ k) ++ RS) := by
              obtain ⟨hi2, rfl⟩ := List.getElem?_eq_some_iff.1 hu
              rw [HS.out, List.drop_eq_getElem_cons hi2, List.flatMap_cons, List.append_assoc, List.append_assoc]
            have hlen : zs.length + (pathsJ k u).length ≤ 1000 := by
              have h1 := HLE.out
              rw [hd, List.length_append, List.length_append] at h1
              omega
            have hSA := HSI.out.alloc (.cells (cs25 u E3 m3 E4 m4) 25)
            have hcw := HI.out u E3 m3 E4 m4 _ zs _ hfu hRu hSA.bl hSA.row hlen
            have HD := Lib.hid hd; clear hd
            have HSA := Lib.hid hSA; clear hSA
            clear HS hBW hfu hlen hRu hu HSI
            obtain ⟨pu, hpu⟩ : ∃ l, pathsJ k u = l := ⟨_, rfl⟩
            rw [hpu] at hcw
            have HPU := Lib.hid hpu; clear hpu
            obtain ⟨u0, u1, u2, u3, u4⟩ := u
            go_wp2_with fail
            refine hcw.mono ?_
            rintro e w2 ⟨V', rfl, hrow, hg⟩
            have hst := HSA.out.step hg hrow
            have HST2 := Lib.hid hst
            clear hcw hrow hg hst g0 g1 g2 g3 g4
            go_wp2_with fail
            go_roundw
            case rel =>
              exact ⟨i + 1, zs ++ pu, by omega, by go_num, by rw [← HPU.out]; exact HD.out, HST2.out⟩
            case measure => simp [intOf]; omega
          · have hnl : ¬ (i : Int) < (y4.length : Int) := by omega
            have hS : ANS = zs ++ RS := by rw [HS.out, List.drop_eq_nil_of_le (by omega)]; rfl
            have HSS := Lib.hid hS; clear hS HS
            go_wp2_with fail
            go_roundw
            case rel =>
              exact ⟨j + 1, zs, by omega, by go_num, by rw [HSS.out, ← HRS.out], HSI.out⟩
            case measure => simp [intOf]; omega
      | false =>
      cases t2 : t.toList == [36, 111, 114] with
      | true =>
        have hAO := HAO.out
        unfold isAnd isOr at hAO
        rw [t1, t2, Bool.false_or] at hAO
        subst hAO
        clear HAO
        have hd := HD.out
        rw [if_pos rfl] at hd
        clear HD
        have hd2 : ANS = ys ++ ((y4.drop 0).flatMap (pathsJ k) ++ RS) := hd
        have HD := Lib.hid hd2; clear hd hd2
        go_wp2_with fail
        go_loopw [0, 8, 32] (fun V5 v8 v32 wi => ∃ (i : Nat) (zs : List ByteArray), i ≤ y4.length ∧ v32 = .int .i64 i ∧ ANS = zs ++ ((y4.drop i).flatMap (pathsJ k) ++ RS) ∧ St w0 w v ⟨x0, x1, x2, x3, x4⟩ (some ⟨b', o', none⟩) c3 (some ⟨b, o, none⟩) c4 V5 zs wi) (fun _ _ v32 _ => y4.length - (intOf v32).toNat)
        case atStart => exact ⟨0, ys, Nat.zero_le _, rfl, HD.out, HST.out⟩
        case round =>
          obtain ⟨i, zs, hi', rfl, hS, hst⟩ := hrel
          have HS := Lib.hid hS; clear hS
          have HSI := Lib.hid hst; clear hst
          clear HD HST f3 f4 e0 e1 e2 e3 e4 e9
          by_cases hlt2 : i < y4.length
          · have hii : (i : Int) < (y4.length : Int) := by omega
            obtain ⟨u, hu⟩ : ∃ u, y4[i]? = some u := ⟨_, List.getElem?_eq_getElem hlt2⟩
            obtain ⟨p, q, E3, m3, E4, m4, rfl, hp, g0, g1, g2, g3, g4, hRu⟩ := item_of HRY.out.g4 rfl i u hu
            have hBW := HSI.out.bl
            replace g0 := (hBW.cell (World.block_lt_of_cell? w0 _ g0)).trans g0
            replace g1 := (hBW.cell (World.block_lt_of_cell? w0 _ g1)).trans g1
            replace g2 := (hBW.cell (World.block_lt_of_cell? w0 _ g2)).trans g2
            replace g3 := (hBW.cell (World.block_lt_of_cell? w0 _ g3)).trans g3
            replace g4 := (hBW.cell (World.block_lt_of_cell? w0 _ g4)).trans g4
            have hfu : formedJ k u = true := items_formed HFY.out u (List.mem_of_getElem? hu)
            have hd : ANS = (zs ++ pathsJ k u) ++ ((y4.drop (i + 1)).flatMap (pathsJ k) ++ RS) := by
              obtain ⟨hi2, rfl⟩ := List.getElem?_eq_some_iff.1 hu
              rw [HS.out, List.drop_eq_getElem_cons hi2, List.flatMap_cons, List.append_assoc, List.append_assoc]
            have hlen : zs.length + (pathsJ k u).length ≤ 1000 := by
              have h1 := HLE.out
              rw [hd, List.length_append, List.length_append] at h1
              omega
            have hSA := HSI.out.alloc (.cells (cs25 u E3 m3 E4 m4) 25)
            have hcw := HI.out u E3 m3 E4 m4 _ zs _ hfu hRu hSA.bl hSA.row hlen
            have HD := Lib.hid hd; clear hd
            have HSA := Lib.hid hSA; clear hSA
            clear HS hBW hfu hlen hRu hu HSI
            obtain ⟨pu, hpu⟩ : ∃ l, pathsJ k u = l := ⟨_, rfl⟩
            rw [hpu] at hcw
            have HPU := Lib.hid hpu; clear hpu
            obtain ⟨u0, u1, u2, u3, u4⟩ := u
            go_wp2_with fail
            refine hcw.mono ?_
            rintro e w2 ⟨V', rfl, hrow, hg⟩
            have hst := HSA.out.step hg hrow
            have HST2 := Lib.hid hst
            clear hcw hrow hg hst g0 g1 g2 g3 g4
            go_wp2_with fail
            go_roundw
            case rel =>
              exact ⟨i + 1, zs ++ pu, by omega, by go_num, by rw [← HPU.out]; exact HD.out, HST2.out⟩
            case measure => simp [intOf]; omega
          · have hnl : ¬ (i : Int) < (y4.length : Int) := by omega
            have hS : ANS = zs ++ RS := by rw [HS.out, List.drop_eq_nil_of_le (by omega)]; rfl
            have HSS := Lib.hid hS; clear hS HS
            go_wp2_with fail
            go_roundw
            case rel =>
              exact ⟨j + 1, zs, by omega, by go_num, by rw [HSS.out, ← HRS.out], HSI.out⟩
            case measure => simp [intOf]; omega
      | false =>
      have hAO := HAO.out
      unfold isAnd isOr at hAO
      rw [t1, t2, Bool.false_or] at hAO
      subst hAO
      clear HAO
      have hd := HD.out
      rw [if_neg (by simp)] at hd
      clear HD
      cases t3 : t.toList == [36, 110, 111, 116] with
      | true =>
        rw [show isNot t = true from t3, if_pos rfl] at hd
        have hlen : ys.length + (pathsJ k ⟨y0, y1, y2, y3, y4⟩).length ≤ 1000 := by
          have h1 := HLE.out
          rw [hd, List.length_append, List.length_append] at h1
          omega
        have hcw := HI.out ⟨y0, y1, y2, y3, y4⟩ B3 d3 B4 d4 _ ys _ HFY.out HRY.out HST.out.bl HST.out.row hlen
        have HD := Lib.hid hd; clear hd hlen
        obtain ⟨pu, hpu⟩ : ∃ l, pathsJ k ⟨y0, y1, y2, y3, y4⟩ = l := ⟨_, rfl⟩
        rw [hpu] at hcw
        have HPU := Lib.hid hpu; clear hpu
        go_wp2_with fail
        refine hcw.mono ?_
        rintro e w2 ⟨V', rfl, hrow, hg⟩
        have hst := HST.out.step hg hrow
        have HST2 := Lib.hid hst
        clear hcw hrow hg hst e0 e1 e2 e3 e4 e9 f3 f4
        go_wp2_with fail
        go_roundw
        case rel =>
          exact ⟨j + 1, ys ++ pu, by omega, by go_num, by rw [HD.out, ← HPU.out, ← HRS.out, List.append_assoc], HST2.out⟩
        case measure => simp [intOf]; omega
      | false =>
        rw [show isNot t = false from t3, if_neg (by simp)] at hd
        have hlen : ys.length + 1 ≤ 1000 := by
          have h1 := HLE.out
          rw [hd, List.length_append, List.length_append, List.length_singleton] at h1
          omega
        have HD := Lib.hid hd; clear hd
        go_wp2_with (first
          | (at_builtin; refine wpList_append_lies _ rfl _ _ 22 rfl w0.heap.size 9 i0 (.string ⟨#[]⟩) 1 16 Tryd.underlying22 hi hz0 hz1 hz2 rfl (by decide) _ _ _ rfl (HST.out.row.alloc _) ⟨wr.heap.size, 0, none⟩ 1 1 [.string t] rfl rfl (cell_one_new _ _ _) ?c2 (by decide) ?c3 ?c4 ?c5 _ rfl ?_)
          | go_in)
        case c2 => first | rfl | (intro u hu; simp at hu; subst hu; rfl)
        case c3 => first | rfl | (unfold maxLen; omega)
        case c4 => first | omega | (simp; omega)
        case c5 => have := HST.out.bl.size; simp; omega
        intro gl cl' w1 hown1 hg1 hat1 hlt1
        have hst := (HST.out.alloc (.cells #[.string t] 9)).step (zs := ys ++ [t]) (Gr.of_grown hg1 (by simpa using hat1)) (by simpa using hown1)
        have HST2 := Lib.hid hst; clear hst hown1 hg1 hat1 hlt1 e0 e1 e2 e3 e4 e9 f3 f4
        go_wp2_with fail
        go_roundw
        case rel =>
          exact ⟨j + 1, ys ++ [t], by omega, by go_num, by rw [HD.out, ← HRS.out, List.append_assoc], by simpa using HST2.out⟩
        case measure => simp [intOf]; omega
    · have hnl : ¬ (j : Int) < (x3.length : Int) := by omega
      have hS : ANS = ys := by rw [HS.out, show x3.length - j = 0 by omega]; simp
      subst hS
      clear HS
      go_wp2_with fail
      go_ret
      exact ⟨_, rfl, HST.out.row, HST.out.gr⟩

theorem paths_any (w0 : World) : ∀ k, PathsAt w0 k
  | 0 => fun x A3 c3 A4 c4 v xs w hf _ _ _ _ => by unfold formedJ at hf; cases hf
  | k + 1 => paths_step w0 k (paths_any w0 k)

end Go.Proofs.YtehdnjegipcpfaaDoor
