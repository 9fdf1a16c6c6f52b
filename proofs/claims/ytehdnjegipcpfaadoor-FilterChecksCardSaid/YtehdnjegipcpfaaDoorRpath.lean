/-
  The contract of the reference's paths and Paths at formed values and filters; no condition.
-/
import Derived.Test.YtehdnjegipcpfaaDoorPutw
import Derived.Test.YtehdnjegipcpfaaDoorPathq
namespace Go.Proofs.YtehdnjegipcpfaaDoor
open Go.RowKit Go.Proofs.YtehdnjegipcpfaaDoorW.PrintWords Go.Proofs.YtehdnjegipcpfaaDoorW.PrintLast Go.Proofs.YtehdnjegipcpfaaDoorW.PrintMore
open PFilterHolds Go.Shelf

theorem own_base {w : World} {base base' n : Nat} {e : TypeId} {size : Nat} {V : Value} {l : List Value} (h : w.ownsRow base e size V n l) (hb : base' ≤ base) : w.ownsRow base' e size V n l := by
  obtain ⟨h1, h2⟩ := h
  refine ⟨h1, ?_⟩
  rcases h2 with h2 | ⟨g, cap, cur, rfl, hg, r⟩
  · exact .inl h2
  · exact .inr ⟨g, cap, cur, rfl, Nat.le_trans hb hg, r⟩

theorem put_len : ∀ (l : List ByteArray) (s : ByteArray), (putJ l s).length ≤ l.length + 1
  | [], s => by simp [putJ]
  | a :: l, s => by
    unfold putJ
    have := put_len l s
    split
    · simp; omega
    · split <;> simp

theorem fold_len : ∀ (ps l : List ByteArray), (ps.foldl putJ l).length ≤ l.length + ps.length
  | [], l => by simp
  | s :: ps, l => by
    have h1 := fold_len ps (putJ l s)
    have h2 := put_len l s
    rw [List.foldl_cons, List.length_cons]
    omega

/-- The row so far, in the walk of the reference's paths. -/
structure Sr (w0 w : World) (x : S25) (A3 : Option Addr) (c3 : Nat) (A4 : Option Addr) (c4 : Nat) (V : Value) (ys : List ByteArray) (W : World) : Prop where
  row : W.ownsRow w0.heap.size 9 1 V ys.length (ys.map Value.string)
  b0 : Below w0.heap.size w0 W
  bw : Below w.heap.size w W
  kx : W.heap[w.heap.size]? = some (.cells (cs25 x A3 c3 A4 c4) 25 (0, 0))

theorem Sr.step {w0 w : World} {x : S25} {A3 : Option Addr} {c3 : Nat} {A4 : Option Addr} {c4 : Nat} {V V' : Value} {ys zs : List ByteArray} {W W' : World} (h : Sr w0 w x A3 c3 A4 c4 V ys W) (hb : Below W.heap.size W W') (ho : W'.ownsRow w0.heap.size 9 1 V' zs.length (zs.map Value.string)) : Sr w0 w x A3 c3 A4 c4 V' zs W' :=
  ⟨ho, h.b0.trans (hb.mono h.b0.size), h.bw.trans (hb.mono h.bw.size), blk_below h.kx hb⟩

def RPathsAt (w0 : World) (k : Nat) : Prop := ∀ (x : S25) (A3 : Option Addr) (c3 : Nat) (A4 : Option Addr) (c4 : Nat) (v : Value) (xs : List ByteArray) (w : World),
    formedJ k x = true → Rd w0 A3 c3 A4 c4 x → Below w0.heap.size w0 w → w.ownsRow w0.heap.size 9 1 v xs.length (xs.map Value.string) → xs.length + (pathsJ k x).length ≤ 1000 →
    Calls Tryd.prog 41 #[v, av x A3 c3 A4 c4] w fun e w' => ∃ v', e = .returned v' ∧ w'.ownsRow w0.heap.size 9 1 v' ((pathsJ k x).foldl putJ xs).length (((pathsJ k x).foldl putJ xs).map Value.string) ∧ Below w.heap.size w w'

set_option maxRecDepth 100000 in
set_option maxHeartbeats 1000000 in
theorem rpaths_step (w0 : World) (k : Nat) (ih : RPathsAt w0 k) : RPathsAt w0 (k + 1) := by
  intro x A3 c3 A4 c4 v xs w hf h hB hrow hlen
  obtain ⟨hl3, hl4⟩ := few_items hf
  have hit := (formed_parts hf).2.2.1
  have hni := names_le hf
  have hS0 : Sr w0 w x A3 c3 A4 c4 v xs (w.alloc (.cells (cs25 x A3 c3 A4 c4) 25)) :=
    ⟨hrow.alloc _, hB.alloc hB.size _, below_alloc (Below.refl _ _) _, new_blk w _⟩
  obtain ⟨ANS, hA⟩ : ∃ a, (pathsJ (k + 1) x).foldl putJ xs = a := ⟨_, rfl⟩
  rw [hA]
  unfold pathsJ at hA hlen
  obtain ⟨x0, x1, x2, x3, x4⟩ := x
  simp only at hl3 hl4 hA hni hlen
  have hA2 : ANS = ((List.range' 0 (x3.length - 0)).flatMap (fun i => memberJ (pathsJ k) (x3.getD i ByteArray.empty) (x4.getD i z25))).foldl putJ xs := by rw [← hA, Nat.sub_zero]
  have hlen2 : xs.length + ((List.range' 0 (x3.length - 0)).flatMap (fun i => memberJ (pathsJ k) (x3.getD i ByteArray.empty) (x4.getD i z25))).length ≤ 1000 := by rw [Nat.sub_zero]; exact hlen
  have HA := Lib.hid hA2; clear hA hA2 hlen
  have HLEN := Lib.hid hlen2; clear hlen2
  have HS0 := Lib.hid hS0; clear hS0 hrow hB
  have HI := Lib.hid ih; clear ih
  have HIT := Lib.hid hit; clear hit
  have HNI := Lib.hid hni; clear hni
  have HRD := Lib.hid h; clear h
  clear hf
  go_enter Tryd.func41, Tryd.ntmps41
  go_wp2_with fail
  go_loopw [0, 5, 6, 26, 51] (fun V5 v5 v6 v26 v51 wr => ∃ (j : Nat) (ys : List ByteArray), j ≤ x3.length ∧ v5 = .int .i64 j ∧ ANS = ((List.range' j (x3.length - j)).flatMap (fun i => memberJ (pathsJ k) (x3.getD i ByteArray.empty) (x4.getD i z25))).foldl putJ ys ∧ ys.length + ((List.range' j (x3.length - j)).flatMap (fun i => memberJ (pathsJ k) (x3.getD i ByteArray.empty) (x4.getD i z25))).length ≤ 1000 ∧ Sr w0 w ⟨x0, x1, x2, x3, x4⟩ A3 c3 A4 c4 V5 ys wr) (fun _ v5 _ _ _ _ => x3.length - (intOf v5).toNat)
  case atStart => exact ⟨0, xs, Nat.zero_le _, rfl, HA.out, HLEN.out, HS0.out⟩
  case round =>
    obtain ⟨j, ys, hj, rfl, hS, hle, hst⟩ := hrel
    have HS := Lib.hid hS; clear hS
    have HLE0 := Lib.hid hle; clear hle
    have f3 : wr.cell? ⟨w.heap.size, 3, none⟩ = some (.slice A3 x3.length c3) := (blk_cell hst.kx 3).trans rfl
    have f4 : wr.cell? ⟨w.heap.size, 4, none⟩ = some (.slice A4 x4.length c4) := (blk_cell hst.kx 4).trans rfl
    have HST := Lib.hid hst; clear hst
    clear HA HS0 HLEN
    by_cases hlt : j < x3.length
    · have hj4 : j < x4.length := by have := HNI.out; omega
      have hji : (j : Int) < (x3.length : Int) := by omega
      have hji' : (j : Int) < (x4.length : Int) := by omega
      obtain ⟨t, ht⟩ : ∃ t, x3[j]? = some t := ⟨_, List.getElem?_eq_getElem hlt⟩
      obtain ⟨y, hy⟩ : ∃ y, x4[j]? = some y := ⟨_, List.getElem?_eq_getElem hj4⟩
      obtain ⟨b', o', rfl, hb', e9⟩ := name_of HRD.out.g3 rfl j t ht
      obtain ⟨b, o, B3, d3, B4, d4, rfl, hb, e0, e1, e2, e3, e4, hR⟩ := item_of HRD.out.g4 rfl j y hy
      have E4 := Lib.hid (And.intro hb e4)
      have hBW := HST.out.b0
      replace e9 := (hBW.cell (World.block_lt_of_cell? w0 _ e9)).trans e9
      replace e0 := (hBW.cell (World.block_lt_of_cell? w0 _ e0)).trans e0
      replace e1 := (hBW.cell (World.block_lt_of_cell? w0 _ e1)).trans e1
      replace e2 := (hBW.cell (World.block_lt_of_cell? w0 _ e2)).trans e2
      replace e3 := (hBW.cell (World.block_lt_of_cell? w0 _ e3)).trans e3
      replace e4 := (hBW.cell (World.block_lt_of_cell? w0 _ e4)).trans e4
      have hfy : formedJ k y = true := HIT.out y (List.mem_of_getElem? hy)
      have hy24 : y.f4.length ≤ 24 := (few_items hfy).2
      have hsp : (List.range' j (x3.length - j)).flatMap (fun i => memberJ (pathsJ k) (x3.getD i ByteArray.empty) (x4.getD i z25)) = memberJ (pathsJ k) t y ++ (List.range' (j + 1) (x3.length - (j + 1))).flatMap (fun i => memberJ (pathsJ k) (x3.getD i ByteArray.empty) (x4.getD i z25)) := by
        rw [show x3.length - j = (x3.length - (j + 1)) + 1 by omega, List.range'_succ, List.flatMap_cons, List.getD_eq_getElem?_getD, ht, List.getD_eq_getElem?_getD, hy]
        rfl
      obtain ⟨RS, hRS⟩ : ∃ r, (List.range' (j + 1) (x3.length - (j + 1))).flatMap (fun i => memberJ (pathsJ k) (x3.getD i ByteArray.empty) (x4.getD i z25)) = r := ⟨_, rfl⟩
      have hd := HS.out
      have hle := HLE0.out
      rw [hsp, hRS] at hd hle
      have HRS := Lib.hid hRS; clear hRS
      have HRY := Lib.hid hR; clear hR
      have HFY := Lib.hid hfy; clear hfy
      clear hy ht HS hBW hsp HLE0
      obtain ⟨AO, hAO⟩ : ∃ b, (isAnd t || isOr t) = b := ⟨_, rfl⟩
      unfold memberJ at hd hle
      rw [hAO] at hd hle
      have HD := Lib.hid hd; clear hd
      have HLE1 := Lib.hid hle; clear hle
      have HAO := Lib.hid hAO; clear hAO
      obtain ⟨y0, y1, y2, y3, y4⟩ := y
      simp only at hy24
      cases t1 : t.toList == [36, 97, 110, 100] with
      | true =>
        have hAO := HAO.out
        unfold isAnd isOr at hAO
        rw [t1, Bool.true_or] at hAO
        subst hAO
        clear HAO
        have hle := HLE1.out
        rw [if_pos rfl] at hle
        have hle2 : ys.length + (((y4.drop 0).flatMap (pathsJ k)) ++ RS).length ≤ 1000 := hle
        have HLEN := Lib.hid hle2; clear hle hle2 HLE1
        clear e0 e1 e2 e3
        have hd := HD.out
        rw [if_pos rfl] at hd
        clear HD
        have hd2 : ANS = (((y4.drop 0).flatMap (pathsJ k)) ++ RS).foldl putJ ys := hd
        have HD := Lib.hid hd2; clear hd hd2
        go_wp2_with fail
        go_loopw [0, 6] (fun V5 v6 wi => ∃ (i : Nat) (zs : List ByteArray), i ≤ y4.length ∧ v6 = .int .i64 i ∧ ANS = (((y4.drop i).flatMap (pathsJ k)) ++ RS).foldl putJ zs ∧ zs.length + ((y4.drop i).flatMap (pathsJ k) ++ RS).length ≤ 1000 ∧ Sr w0 w ⟨x0, x1, x2, x3, x4⟩ (some ⟨b', o', none⟩) c3 (some ⟨b, o, none⟩) c4 V5 zs wi) (fun _ v6 _ => y4.length - (intOf v6).toNat)
        case atStart => exact ⟨0, ys, Nat.zero_le _, rfl, HD.out, HLEN.out, HST.out⟩
        case round =>
          obtain ⟨i, zs, hi', rfl, hS, hle, hst⟩ := hrel
          have HS := Lib.hid hS; clear hS
          clear f3 f4 e4 e9
          have f4 : wr.cell? ⟨w.heap.size, 4, none⟩ = some (.slice (some ⟨b, o, none⟩) x4.length c4) := (blk_cell hst.kx 4).trans rfl
          have e4 : wr.cell? ⟨b, o + j * 5 + 4, none⟩ = some (.slice B4 y4.length d4) := (hst.b0.cell E4.out.1).trans E4.out.2
          have HSI := Lib.hid hst; clear hst
          have HLE := Lib.hid hle; clear hle
          clear HD HST HLEN
          by_cases hlt2 : i < y4.length
          · have hii : (i : Int) < (y4.length : Int) := by omega
            obtain ⟨u, hu⟩ : ∃ u, y4[i]? = some u := ⟨_, List.getElem?_eq_getElem hlt2⟩
            obtain ⟨p, q, E3, m3, E4', m4, rfl, hp, g0, g1, g2, g3, g4, hRu⟩ := item_of HRY.out.g4 rfl i u hu
            have hBW := HSI.out.b0
            replace g0 := (hBW.cell (World.block_lt_of_cell? w0 _ g0)).trans g0
            replace g1 := (hBW.cell (World.block_lt_of_cell? w0 _ g1)).trans g1
            replace g2 := (hBW.cell (World.block_lt_of_cell? w0 _ g2)).trans g2
            replace g3 := (hBW.cell (World.block_lt_of_cell? w0 _ g3)).trans g3
            replace g4 := (hBW.cell (World.block_lt_of_cell? w0 _ g4)).trans g4
            have hfu : formedJ k u = true := items_formed HFY.out u (List.mem_of_getElem? hu)
            have hdr : (y4.drop i).flatMap (pathsJ k) ++ RS = pathsJ k u ++ ((y4.drop (i + 1)).flatMap (pathsJ k) ++ RS) := by
              obtain ⟨hi2, rfl⟩ := List.getElem?_eq_some_iff.1 hu
              rw [List.drop_eq_getElem_cons hi2, List.flatMap_cons, List.append_assoc]
            have hd : ANS = ((y4.drop (i + 1)).flatMap (pathsJ k) ++ RS).foldl putJ ((pathsJ k u).foldl putJ zs) := by
              rw [HS.out, hdr, List.foldl_append]
            have hl0 := HLE.out
            rw [hdr, List.length_append] at hl0
            have hl1 := fold_len (pathsJ k u) zs
            have hcw := HI.out u E3 m3 E4' m4 _ zs _ hfu hRu HSI.out.b0 HSI.out.row (by omega)
            have hl2 : ((pathsJ k u).foldl putJ zs).length + ((y4.drop (i + 1)).flatMap (pathsJ k) ++ RS).length ≤ 1000 := by omega
            have HD := Lib.hid hd; clear hd
            have HL2 := Lib.hid hl2; clear hl2
            clear HS hBW hfu hl0 hl1 hdr hRu hu
            obtain ⟨pu, hpu⟩ : ∃ l, (pathsJ k u).foldl putJ zs = l := ⟨_, rfl⟩
            rw [hpu] at hcw
            have HPU := Lib.hid hpu; clear hpu
            obtain ⟨u0, u1, u2, u3, u4⟩ := u
            go_wp2_with fail
            refine hcw.mono ?_
            rintro e w2 ⟨V', rfl, hrow, hb2⟩
            have hst := HSI.out.step hb2 hrow
            have HST2 := Lib.hid hst
            clear hcw hrow hb2 hst g0 g1 g2 g3 g4 f4 e4
            go_wp2_with fail
            go_roundw
            case rel =>
              exact ⟨i + 1, pu, by omega, by go_num, by rw [← HPU.out]; exact HD.out, by rw [← HPU.out]; exact HL2.out, HST2.out⟩
            case measure => simp [intOf]; omega
          · have hnl : ¬ (i : Int) < (y4.length : Int) := by omega
            have hnil : (y4.drop i).flatMap (pathsJ k) ++ RS = RS := by rw [List.drop_eq_nil_of_le (by omega)]; rfl
            have hS : ANS = RS.foldl putJ zs := by rw [HS.out, hnil]
            have hle := HLE.out
            rw [hnil] at hle
            have HSS := Lib.hid hS; clear hS HS hnil HLE
            have HLE := Lib.hid hle; clear hle
            go_wp2_with fail
            go_roundw
            case rel =>
              exact ⟨j + 1, zs, by omega, by go_num, by rw [HSS.out, ← HRS.out], by rw [HRS.out]; exact HLE.out, HSI.out⟩
            case measure => simp [intOf]; omega
      | false =>
      cases t2 : t.toList == [36, 111, 114] with
      | true =>
        have hAO := HAO.out
        unfold isAnd isOr at hAO
        rw [t1, t2, Bool.false_or] at hAO
        subst hAO
        clear HAO
        have hle := HLE1.out
        rw [if_pos rfl] at hle
        have hle2 : ys.length + (((y4.drop 0).flatMap (pathsJ k)) ++ RS).length ≤ 1000 := hle
        have HLEN := Lib.hid hle2; clear hle hle2 HLE1
        clear e0 e1 e2 e3
        have hd := HD.out
        rw [if_pos rfl] at hd
        clear HD
        have hd2 : ANS = (((y4.drop 0).flatMap (pathsJ k)) ++ RS).foldl putJ ys := hd
        have HD := Lib.hid hd2; clear hd hd2
        go_wp2_with fail
        go_loopw [0, 6] (fun V5 v6 wi => ∃ (i : Nat) (zs : List ByteArray), i ≤ y4.length ∧ v6 = .int .i64 i ∧ ANS = (((y4.drop i).flatMap (pathsJ k)) ++ RS).foldl putJ zs ∧ zs.length + ((y4.drop i).flatMap (pathsJ k) ++ RS).length ≤ 1000 ∧ Sr w0 w ⟨x0, x1, x2, x3, x4⟩ (some ⟨b', o', none⟩) c3 (some ⟨b, o, none⟩) c4 V5 zs wi) (fun _ v6 _ => y4.length - (intOf v6).toNat)
        case atStart => exact ⟨0, ys, Nat.zero_le _, rfl, HD.out, HLEN.out, HST.out⟩
        case round =>
          obtain ⟨i, zs, hi', rfl, hS, hle, hst⟩ := hrel
          have HS := Lib.hid hS; clear hS
          clear f3 f4 e4 e9
          have f4 : wr.cell? ⟨w.heap.size, 4, none⟩ = some (.slice (some ⟨b, o, none⟩) x4.length c4) := (blk_cell hst.kx 4).trans rfl
          have e4 : wr.cell? ⟨b, o + j * 5 + 4, none⟩ = some (.slice B4 y4.length d4) := (hst.b0.cell E4.out.1).trans E4.out.2
          have HSI := Lib.hid hst; clear hst
          have HLE := Lib.hid hle; clear hle
          clear HD HST HLEN
          by_cases hlt2 : i < y4.length
          · have hii : (i : Int) < (y4.length : Int) := by omega
            obtain ⟨u, hu⟩ : ∃ u, y4[i]? = some u := ⟨_, List.getElem?_eq_getElem hlt2⟩
            obtain ⟨p, q, E3, m3, E4', m4, rfl, hp, g0, g1, g2, g3, g4, hRu⟩ := item_of HRY.out.g4 rfl i u hu
            have hBW := HSI.out.b0
            replace g0 := (hBW.cell (World.block_lt_of_cell? w0 _ g0)).trans g0
            replace g1 := (hBW.cell (World.block_lt_of_cell? w0 _ g1)).trans g1
            replace g2 := (hBW.cell (World.block_lt_of_cell? w0 _ g2)).trans g2
            replace g3 := (hBW.cell (World.block_lt_of_cell? w0 _ g3)).trans g3
            replace g4 := (hBW.cell (World.block_lt_of_cell? w0 _ g4)).trans g4
            have hfu : formedJ k u = true := items_formed HFY.out u (List.mem_of_getElem? hu)
            have hdr : (y4.drop i).flatMap (pathsJ k) ++ RS = pathsJ k u ++ ((y4.drop (i + 1)).flatMap (pathsJ k) ++ RS) := by
              obtain ⟨hi2, rfl⟩ := List.getElem?_eq_some_iff.1 hu
              rw [List.drop_eq_getElem_cons hi2, List.flatMap_cons, List.append_assoc]
            have hd : ANS = ((y4.drop (i + 1)).flatMap (pathsJ k) ++ RS).foldl putJ ((pathsJ k u).foldl putJ zs) := by
              rw [HS.out, hdr, List.foldl_append]
            have hl0 := HLE.out
            rw [hdr, List.length_append] at hl0
            have hl1 := fold_len (pathsJ k u) zs
            have hcw := HI.out u E3 m3 E4' m4 _ zs _ hfu hRu HSI.out.b0 HSI.out.row (by omega)
            have hl2 : ((pathsJ k u).foldl putJ zs).length + ((y4.drop (i + 1)).flatMap (pathsJ k) ++ RS).length ≤ 1000 := by omega
            have HD := Lib.hid hd; clear hd
            have HL2 := Lib.hid hl2; clear hl2
            clear HS hBW hfu hl0 hl1 hdr hRu hu
            obtain ⟨pu, hpu⟩ : ∃ l, (pathsJ k u).foldl putJ zs = l := ⟨_, rfl⟩
            rw [hpu] at hcw
            have HPU := Lib.hid hpu; clear hpu
            obtain ⟨u0, u1, u2, u3, u4⟩ := u
            go_wp2_with fail
            refine hcw.mono ?_
            rintro e w2 ⟨V', rfl, hrow, hb2⟩
            have hst := HSI.out.step hb2 hrow
            have HST2 := Lib.hid hst
            clear hcw hrow hb2 hst g0 g1 g2 g3 g4 f4 e4
            go_wp2_with fail
            go_roundw
            case rel =>
              exact ⟨i + 1, pu, by omega, by go_num, by rw [← HPU.out]; exact HD.out, by rw [← HPU.out]; exact HL2.out, HST2.out⟩
            case measure => simp [intOf]; omega
          · have hnl : ¬ (i : Int) < (y4.length : Int) := by omega
            have hnil : (y4.drop i).flatMap (pathsJ k) ++ RS = RS := by rw [List.drop_eq_nil_of_le (by omega)]; rfl
            have hS : ANS = RS.foldl putJ zs := by rw [HS.out, hnil]
            have hle := HLE.out
            rw [hnil] at hle
            have HSS := Lib.hid hS; clear hS HS hnil HLE
            have HLE := Lib.hid hle; clear hle
            go_wp2_with fail
            go_roundw
            case rel =>
              exact ⟨j + 1, zs, by omega, by go_num, by rw [HSS.out, ← HRS.out], by rw [HRS.out]; exact HLE.out, HSI.out⟩
            case measure => simp [intOf]; omega
      | false =>
      have hAO := HAO.out
      unfold isAnd isOr at hAO
      rw [t1, t2, Bool.false_or] at hAO
      subst hAO
      clear HAO
      have hd := HD.out
      have hle := HLE1.out
      rw [if_neg (by simp)] at hd hle
      clear HD HLE1
      cases t3 : t.toList == [36, 110, 111, 116] with
      | true =>
        rw [show isNot t = true from t3, if_pos rfl] at hd hle
        rw [List.foldl_append] at hd
        rw [List.length_append] at hle
        have hl1 := fold_len (pathsJ k ⟨y0, y1, y2, y3, y4⟩) ys
        have hcw := HI.out ⟨y0, y1, y2, y3, y4⟩ B3 d3 B4 d4 _ ys _ HFY.out HRY.out HST.out.b0 HST.out.row (by omega)
        have hl2 : ((pathsJ k ⟨y0, y1, y2, y3, y4⟩).foldl putJ ys).length + RS.length ≤ 1000 := by omega
        have HD := Lib.hid hd; clear hd hle hl1
        have HL2 := Lib.hid hl2; clear hl2
        obtain ⟨pu, hpu⟩ : ∃ l, (pathsJ k ⟨y0, y1, y2, y3, y4⟩).foldl putJ ys = l := ⟨_, rfl⟩
        rw [hpu] at hcw
        have HPU := Lib.hid hpu; clear hpu
        go_wp2_with fail
        refine hcw.mono ?_
        rintro e w2 ⟨V', rfl, hrow, hb2⟩
        have hst := HST.out.step hb2 hrow
        have HST2 := Lib.hid hst
        clear hcw hrow hb2 hst e0 e1 e2 e3 e4 e9 f3 f4
        go_wp2_with fail
        go_roundw
        case rel =>
          exact ⟨j + 1, pu, by omega, by go_num, by rw [HD.out, ← HPU.out, ← HRS.out], by rw [← HPU.out, HRS.out]; exact HL2.out, HST2.out⟩
        case measure => simp [intOf]; omega
      | false =>
        rw [show isNot t = false from t3, if_neg (by simp)] at hd hle
        rw [List.length_append, List.length_singleton] at hle
        have hl1 := put_len ys t
        have hcw := put_any w0.heap.size _ ys t _ HST.out.row (by omega)
        have hl2 : (putJ ys t).length + RS.length ≤ 1000 := by omega
        have hd2 : ANS = RS.foldl putJ (putJ ys t) := hd
        have HD := Lib.hid hd2; clear hd hd2 hle hl1
        have HL2 := Lib.hid hl2; clear hl2
        obtain ⟨pu, hpu⟩ : ∃ l, putJ ys t = l := ⟨_, rfl⟩
        rw [hpu] at hcw
        have HPU := Lib.hid hpu; clear hpu
        go_wp2_with fail
        refine hcw.mono ?_
        rintro e w2 ⟨V', rfl, hrow, hb2⟩
        have hst := HST.out.step hb2 (own_base hrow HST.out.b0.size)
        have HST2 := Lib.hid hst
        clear hcw hrow hb2 hst e0 e1 e2 e3 e4 e9 f3 f4
        go_wp2_with fail
        go_roundw
        case rel =>
          exact ⟨j + 1, pu, by omega, by go_num, by rw [HD.out, ← HPU.out, ← HRS.out], by rw [← HPU.out, HRS.out]; exact HL2.out, HST2.out⟩
        case measure => simp [intOf]; omega
    · have hnl : ¬ (j : Int) < (x3.length : Int) := by omega
      have hS : ANS = ys := by rw [HS.out, show x3.length - j = 0 by omega]; simp
      subst hS
      clear HS
      go_wp2_with fail
      go_ret
      exact ⟨_, rfl, HST.out.row, HST.out.bw⟩

theorem rpaths_any (w0 : World) : ∀ k, RPathsAt w0 k
  | 0 => fun x A3 c3 A4 c4 v xs w hf _ _ _ _ => by unfold formedJ at hf; cases hf
  | k + 1 => rpaths_step w0 k (rpaths_any w0 k)

set_option maxRecDepth 100000 in
set_option maxHeartbeats 1000000 in
theorem Paths_ref (x : S25) (A3 : Option Addr) (c3 : Nat) (A4 : Option Addr) (c4 : Nat) (w : World) (h : Rd w A3 c3 A4 c4 x) :
    Calls Tryd.prog 20 #[av x A3 c3 A4 c4] w fun e w' => LeftP w (PathsJ x) e w' := by
  have hb0 := below_alloc (Below.refl w.heap.size w) (.cells (cs25 x A3 c3 A4 c4) 25)
  have hblk := new_blk w (.cells (cs25 x A3 c3 A4 c4) 25)
  have hC := check_ref x A3 c3 A4 c4 _ (h.below hb0)
  have hP : ∀ (W : World), Below w.heap.size w W → (checkJ x == 0) = true → Calls Tryd.prog 41 #[.slice none 0 0, av x A3 c3 A4 c4] W fun e w' => ∃ v', e = .returned v' ∧ w'.ownsRow w.heap.size 9 1 v' ((pathsJ 6 x).foldl putJ []).length (((pathsJ 6 x).foldl putJ []).map Value.string) ∧ Below W.heap.size W w' := fun W hb hc => by
    obtain ⟨e1, n, e2, hn⟩ := check_zero.1 (show checkJ x = 0 by simpa using hc)
    have hle := paths_le 6 x n e2
    exact rpaths_any w 6 x A3 c3 A4 c4 (.slice none 0 0) [] W e1 h hb (World.ownsRow_nil _ _ _ _) (by simp; omega)
  unfold PathsJ
  generalize checkJ x = c at hC hP
  generalize (pathsJ 6 x).foldl putJ [] = ps at hP
  have HB0 := Lib.hid hb0; clear hb0
  have HP := Lib.hid hP; clear hP
  clear h
  obtain ⟨x0, x1, x2, x3, x4⟩ := x
  cases b1 : c == 0 with
  | false =>
    clear HP
    rw [if_neg (by simp)]
    have b2 : (c != 0) = true := by unfold bne; rw [b1]; rfl
    go_enter Tryd.func20, Tryd.ntmps20
    go_wp2_with fail
    refine hC.mono ?_; rintro e w1 ⟨rfl, hb⟩
    have HB := Lib.hid hb; clear hb hC
    go_wp2_with fail
    go_ret
    exact ⟨_, rfl, World.ownsRow_nil _ _ _ _, HB0.out.trans (HB.out.mono HB0.out.size)⟩
  | true =>
    rw [if_pos rfl]
    have b2 : (c != 0) = false := by unfold bne; rw [b1]; rfl
    go_enter Tryd.func20, Tryd.ntmps20
    go_wp2_with fail
    refine hC.mono ?_; rintro e w1 ⟨rfl, hb⟩
    have hB1 := HB0.out.trans (hb.mono HB0.out.size)
    have k0 := blk_below hblk hb
    have hcw := HP.out w1 hB1 b1
    have HB1 := Lib.hid hB1; clear hB1 hb hC HB0 HP b1 hblk
    have f0 : w1.cell? ⟨w.heap.size, 0, none⟩ = some (.int .i64 x0) := (blk_cell k0 0).trans rfl
    have f1 : w1.cell? ⟨w.heap.size, 1, none⟩ = some (.int .i64 x1) := (blk_cell k0 1).trans rfl
    have f2 : w1.cell? ⟨w.heap.size, 2, none⟩ = some (.string x2) := (blk_cell k0 2).trans rfl
    have f3 : w1.cell? ⟨w.heap.size, 3, none⟩ = some (.slice A3 x3.length c3) := (blk_cell k0 3).trans rfl
    have f4 : w1.cell? ⟨w.heap.size, 4, none⟩ = some (.slice A4 x4.length c4) := (blk_cell k0 4).trans rfl
    clear k0
    go_wp2_with fail
    refine hcw.mono ?_
    rintro e w2 ⟨V, rfl, hrow, hb2⟩
    have HRW := Lib.hid hrow
    have HB2 := Lib.hid hb2
    clear hrow hb2 hcw f0 f1 f2 f3 f4
    go_wp2_with fail
    go_ret
    exact ⟨_, rfl, HRW.out, HB1.out.trans (HB2.out.mono HB1.out.size)⟩

end Go.Proofs.YtehdnjegipcpfaaDoor
