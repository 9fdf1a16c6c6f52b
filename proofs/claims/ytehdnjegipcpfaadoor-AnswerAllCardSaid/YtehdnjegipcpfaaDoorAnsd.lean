/-
  The contract of answer.Run.
  Run's contract in one word; awake.
  awake: what a program that does nothing does not answer.
-/
import Derived.Test.YtehdnjegipcpfaaDoorAnsb
namespace Go.Proofs.YtehdnjegipcpfaaDoor
open Go.RowKit Go.Proofs.YtehdnjegipcpfaaDoorW.PrintWords Go.Proofs.YtehdnjegipcpfaaDoorW.PrintLast Go.Proofs.YtehdnjegipcpfaaDoorW.PrintMore
open PFilterHolds PAns Go.Shelf Go.Sort
abbrev outJ (q : Qy) (l : List Dc) : List Dc := l.filter fun x => HoldsJ q.flt x.d.f1
structure Rt (w : World) (q : Qy) (z : Qa) (V : Value) (out : List Dc) (W : World) : Prop where
  row : W.ownsRow w.heap.size 42 6 V out.length (flatD out)
  bl : Below w.heap.size w W
  kq : W.heap[w.heap.size]? = some (.cells (cs38 q z) 38 (0, 0))
  ne1 : V.ownBlock ≠ some w.heap.size
def cutJ (q : Qy) (l : List Dc) : List Dc :=
  if 0 < q.lim then (l.drop (min q.skip.toNat l.length)).take (min q.lim.toNat (l.drop (min q.skip.toNat l.length)).length) else l.drop (min q.skip.toNat l.length)
theorem checkQ_zero {q : Qy} (h : checkQ q = 0) : 0 ≤ q.skip ∧ 0 ≤ q.lim := by
  unfold checkQ at h
  split at h
  · rename_i h1
    rw [h] at h1
    cases h1
  split at h
  · cases h
  split at h
  · cases h
  split at h
  · cases h
  · rename_i h1
    simp only [Bool.or_eq_true, decide_eq_true_eq, not_or] at h1
    omega
theorem rowk_len {w : World} {base e k n : Nat} {v : Value} {xs : List Value} (h : w.ownsRow base e k v n xs) : ∃ r kk, v = .slice r n kk := by
  rcases h.2 with ⟨rfl, rfl⟩ | ⟨g, cap, cur, rfl, _⟩
  · exact ⟨none, 0, rfl⟩
  · exact ⟨_, _, rfl⟩
theorem info42 : (Tryd.prog.info? 42).map (fun i => (i.zero, i.size, i.bytes)) = some (some (.agg #[(.string ⟨#[]⟩), (.int .i64 0), (.int .i64 0), (.string ⟨#[]⟩), (.slice none 0 0), (.slice none 0 0)]), 6, 96) := by kernel_rfl
theorem cell_row_new (w : World) (cs : Array Value) (e : TypeId) : ∀ j u, cs.toList[j]? = some u → (w.alloc (.cells cs e)).cell? ((⟨w.heap.size, 0, none⟩ : Addr).add j) = some u := by
  intro j u h
  have hb := new_blk w (.cells cs e)
  have := blk_cell hb j
  rw [Addr.add_lit, Nat.zero_add, this, ← Array.getElem?_toList]
  exact h
set_option maxRecDepth 100000 in
set_option maxHeartbeats 4000000 in
theorem run_walk (q : Qy) (z : Qa) (A : Option Addr) (c : Nat) (docs : List Dc) (w : World) (R : Ending → World → Prop) (h : RdQ w q z) (hbd : BdQ q) (hD : RdD w A docs) (hT : Tabs w) (hn : docs.length ≤ 1000) (hds : ∀ x ∈ docs, x.d.f0.size ≤ maxLen)
    (h1 : checkQ q ≠ 0 → ∀ W, Below w.heap.size w W → R (.returned (.tuple #[.slice none 0 0, .int .i64 (checkQ q)])) W)
    (h2 : checkQ q = 0 → scanJ [] docs = true → ∀ W, Below w.heap.size w W → R (.returned (.tuple #[.slice none 0 0, .int .i64 2])) W)
    (pj : S25 → S25) (hP : Proj w q z pj docs)
    (h3 : checkQ q = 0 → scanJ [] docs = false → ∀ (l' ys : List Dc) (r : Option Addr) (k : Nat) (W : World), l'.Perm (outJ q docs) → l'.Pairwise (fun a b => ¬ compJ q.sort b.d a.d < 0) → ys.map Dc.d = (cutJ q l').map (fun x => (⟨x.d.f0, pj x.d.f1⟩ : S42)) → ys.length ≤ k → Lo w q z r ys W → R (.returned (.tuple #[.slice r ys.length k, .int .i64 0])) W) :
    Calls Tryd.prog 24 #[qv q z, .slice A docs.length c] w R := by
  have hb0 := below_alloc (Below.refl w.heap.size w) (.cells (cs38 q z) 38)
  have hblk := new_blk w (.cells (cs38 q z) 38)
  have hC := checkQ_any q z _ (h.below hb0) hbd (hT.below hb0)
  have HQ := Lib.hid h; clear h
  have HB0 := Lib.hid hb0; clear hb0
  have HBK := Lib.hid hblk; clear hblk
  have HT := Lib.hid hT; clear hT
  have HD := Lib.hid hD; clear hD
  have H1 := Lib.hid h1; clear h1
  have H2 := Lib.hid h2; clear h2
  have H3 := Lib.hid h3; clear h3
  have HDS := Lib.hid hds; clear hds
  have HPJ := Lib.hid hP; clear hP
  have HSK := Lib.hid (fun h => checkQ_zero (q := q) h)
  obtain ⟨CQ, hCQ⟩ : ∃ r, checkQ q = r := ⟨_, rfl⟩
  rw [hCQ] at hC H1 H2 H3 HSK
  clear hCQ
  obtain ⟨⟨x0, x1, x2, x3, x4⟩, srt, fl, sk, lm⟩ := q
  obtain ⟨F3, f3, F4, f4, So, so, Fi, fi⟩ := z
  simp only [qv, cs38] at hC HB0 HBK ⊢
  cases b1 : CQ == 0 with
  | false =>
    have b2 : (CQ != 0) = true := by unfold bne; rw [b1]; rfl
    go_enter Tryd.func24, Tryd.ntmps24
    go_wp2_with fail
    refine hC.mono ?_; rintro e w1 ⟨rfl, hb⟩
    have HB := Lib.hid hb; clear hb hC
    go_wp2_with fail
    exact H1.out (by intro e; rw [e] at b1; cases b1) _ (HB0.out.trans (HB.out.mono HB0.out.size))
  | true =>
    have b2 : (CQ != 0) = false := by unfold bne; rw [b1]; rfl
    go_enter Tryd.func24, Tryd.ntmps24
    go_wp2_with fail
    refine hC.mono ?_; rintro e w1 ⟨rfl, hb⟩
    have hB1 := HB0.out.trans (hb.mono HB0.out.size)
    have k0 := blk_below HBK.out hb
    have HB1 := Lib.hid hB1; clear hB1 hb hC HB0 HBK
    have hmk : (Instr.makeMap 66 none).run Tryd.prog w1 = .ok (.map (some w1.heap.size)) (w1.alloc (.map #[] 0)) := run_makeMap 66 w1
    have hR0 : Rs w ⟨⟨x0, x1, x2, x3, x4⟩, srt, fl, sk, lm⟩ ⟨F3, f3, F4, f4, So, so, Fi, fi⟩ w1.heap.size (.slice none 0 0) [] [] (w1.alloc (.map #[] 0)) :=
      ⟨World.ownsRow_nil _ _ _ _, below_alloc HB1.out _, (heap_alloc_old w1 _ (blk_lt k0)).trans k0, seen_new w1, by simp [Value.ownBlock], by simp [Value.ownBlock], blk_lt k0⟩
    have HR0 := Lib.hid hR0; clear hR0
    obtain ⟨m, hm⟩ : ∃ m, w1.heap.size = m := ⟨_, rfl⟩
    have HM := Lib.hid hm
    rw [hm] at hmk HR0
    clear hm k0
    obtain ⟨OUT, hOUT⟩ : ∃ l, outJ ⟨⟨x0, x1, x2, x3, x4⟩, srt, fl, sk, lm⟩ docs = l := ⟨_, rfl⟩
    obtain ⟨SC, hSC⟩ : ∃ b, scanJ [] docs = b := ⟨_, rfl⟩
    rw [hOUT, hSC] at H3
    rw [hSC] at H2
    have hO2 : OUT = [] ++ outJ ⟨⟨x0, x1, x2, x3, x4⟩, srt, fl, sk, lm⟩ (docs.drop 0) := by rw [← hOUT]; rfl
    have hS2 : SC = scanJ [] (docs.drop 0) := by rw [← hSC]; rfl
    have hgd : ∀ x ∈ OUT, Gd w x := fun x hx => by
      rw [← hOUT] at hx
      obtain ⟨i, hi⟩ := List.mem_iff_getElem?.1 ((List.mem_filter.1 hx).1)
      obtain ⟨_, _, _, _, _, _, _, _, _, _, hR⟩ := HD.out.get i x hi
      exact hR
    have hlo : OUT.length ≤ 1000 := by
      rw [← hOUT]
      exact Nat.le_trans (List.length_filter_le _ _) hn
    have HGD := Lib.hid hgd; clear hgd
    have hod : ∀ x ∈ OUT, x ∈ docs := fun x hx => by
      rw [← hOUT] at hx
      exact (List.mem_filter.1 hx).1
    have HOD := Lib.hid hod; clear hod
    have HLO := Lib.hid hlo; clear hlo
    have HO := Lib.hid hO2; clear hO2 hOUT
    have HS := Lib.hid hS2; clear hS2 hSC
    go_wp2_with fail
    go_loopw [8, 10, 20] (fun v8 v10 v20 wr => ∃ (j : Nat) (out : List Dc) (ids : List ByteArray), j ≤ docs.length ∧ v20 = .int .i64 j ∧ OUT = out ++ outJ ⟨⟨x0, x1, x2, x3, x4⟩, srt, fl, sk, lm⟩ (docs.drop j) ∧ SC = scanJ ids (docs.drop j) ∧ out.length ≤ j ∧ ids.length = j ∧
      Rs w ⟨⟨x0, x1, x2, x3, x4⟩, srt, fl, sk, lm⟩ ⟨F3, f3, F4, f4, So, so, Fi, fi⟩ m v8 out ids wr) (fun _ _ v20 _ => docs.length - (intOf v20).toNat)
    case atStart => exact ⟨0, [], [], Nat.zero_le _, rfl, HO.out, HS.out, Nat.le_refl _, rfl, HR0.out⟩
    case round =>
      obtain ⟨j, out, ids, hj, rfl, hO, hS, hol, hil, hst⟩ := hrel
      clear HO HS HR0
      have HO := Lib.hid hO; clear hO
      have HS := Lib.hid hS; clear hS
      have HOL := Lib.hid hol; clear hol
      have HIL := Lib.hid hil; clear hil
      by_cases hlt : j < docs.length
      · have hji : (j : Int) < (docs.length : Int) := by omega
        obtain ⟨x, hx⟩ : ∃ x, docs[j]? = some x := ⟨_, List.getElem?_eq_getElem hlt⟩
        obtain ⟨b, o, rfl, hb, e0, e1, e2, e3, e4, e5, hR⟩ := HD.out.get j x hx
        have hBW := hst.bl
        replace e0 := (hBW.cell hb).trans e0
        replace e1 := (hBW.cell hb).trans e1
        replace e2 := (hBW.cell hb).trans e2
        replace e3 := (hBW.cell hb).trans e3
        replace e4 := (hBW.cell hb).trans e4
        replace e5 := (hBW.cell hb).trans e5
        have hxs := HDS.out x (List.mem_of_getElem? hx)
        have hdr : docs.drop j = x :: docs.drop (j + 1) := by
          obtain ⟨hi2, rfl⟩ := List.getElem?_eq_some_iff.1 hx
          exact List.drop_eq_getElem_cons hi2
        have hO := HO.out
        have hS := HS.out
        rw [hdr] at hO hS
        clear HO HS hdr hx
        have hb1 := below_alloc (Below.refl wr.heap.size wr) (.cells (cs42 x.d x.A3 x.c3 x.A4 x.c4) 42)
        have hb1' := hBW.trans (hb1.mono hBW.size)
        have hDc := doc_any x.d x.A3 x.c3 x.A4 x.c4 _ (hR.below hb1') (HT.out.below hb1')
        have hk1 := new_blk wr (.cells (cs42 x.d x.A3 x.c3 x.A4 x.c4) 42)
        have hst1 := hst.below hb1
        obtain ⟨⟨xi, v0, v1, v2, v3, v4⟩, X3, y3, X4, y4⟩ := x
        simp only [cs42, dv] at hDc hk1 hst1 e0 e1 e2 e3 e4 e5 hxs
        obtain ⟨DJ, hDJ⟩ : ∃ b, docJ ⟨xi, v0, v1, v2, v3, v4⟩ = b := ⟨_, rfl⟩
        rw [hDJ] at hDc
        have HO := Lib.hid hO; clear hO
        have HS := Lib.hid hS; clear hS
        have HDJ := Lib.hid hDJ; clear hDJ
        have HST := Lib.hid hst; clear hst
        have HST1 := Lib.hid hst1; clear hst1
        have HR := Lib.hid hR; clear hR
        have HK1 := Lib.hid hk1; clear hk1
        have HXS := Lib.hid hxs; clear hxs
        have HBX := Lib.hid hb1'; clear hb1' hb1 hBW
        cases DJ with
        | false =>
          go_wp2_with fail
          refine hDc.mono ?_; rintro e w2 ⟨rfl, hb⟩
          have HB2 := Lib.hid hb; clear hb hDc
          go_wp2_with fail
          refine H2.out (by simpa using b1) ?_ _ (HBX.out.trans (HB2.out.mono HBX.out.size))
          rw [HS.out]
          unfold scanJ
          rw [HDJ.out]
          rfl
        | true =>
          go_wp2_with fail
          refine hDc.mono ?_; rintro e w2 ⟨rfl, hb⟩
          have hst2 := HST1.out.below hb
          have hk2 := blk_below HK1.out hb
          have hB2 := HBX.out.trans (hb.mono HBX.out.size)
          have hlk := seen_look hst2.sn HXS.out
          obtain ⟨MB, hMB⟩ : ∃ b, memB ids xi = b := ⟨_, rfl⟩
          rw [hMB] at hlk
          have f0 : w2.cell? ⟨wr.heap.size, 0, none⟩ = some (.string xi) := (blk_cell hk2 0).trans rfl
          have HMB := Lib.hid hMB; clear hMB
          have HK2 := Lib.hid hk2; clear hk2 HK1
          have HB2 := Lib.hid hB2; clear hB2 hb hDc HST1 HBX
          have HST2 := Lib.hid hst2; clear hst2
          clear e0 e1 e2 e3 e4 e5
          cases MB with
          | true =>
            go_wp2_with fail
            refine H2.out (by simpa using b1) ?_ _ HB2.out
            rw [HS.out]
            unfold scanJ
            rw [HDJ.out, HMB.out]
            rfl
          | false =>
            obtain ⟨w3, hup, hsn, hg⟩ := seen_put HST2.out.sn HXS.out (by have := HIL.out; omega)
            have hst3 := HST2.out.put hsn hg
            have hne : wr.heap.size ≠ m := by have := HST.out.sn.lt; omega
            have hk3 : w3.heap[wr.heap.size]? = _ := (hg.block _ (blk_lt HK2.out) (fun e => hne (by cases e; rfl))).trans HK2.out
            have hcw := Holds_any ⟨x0, x1, x2, x3, x4⟩ ⟨v0, v1, v2, v3, v4⟩ F3 f3 F4 f4 X3 y3 X4 y4 w3 (HQ.out.rd.below hst3.bl) (HR.out.below hst3.bl) (HT.out.below hst3.bl)
            obtain ⟨HJ, hHJ⟩ : ∃ b, HoldsJ ⟨x0, x1, x2, x3, x4⟩ ⟨v0, v1, v2, v3, v4⟩ = b := ⟨_, rfl⟩
            rw [hHJ] at hcw
            have f1 : w3.cell? ⟨wr.heap.size, 1, none⟩ = some (.int .i64 v0) := (blk_cell hk3 1).trans rfl
            have f2 : w3.cell? ⟨wr.heap.size, 2, none⟩ = some (.int .i64 v1) := (blk_cell hk3 2).trans rfl
            have f3' : w3.cell? ⟨wr.heap.size, 3, none⟩ = some (.string v2) := (blk_cell hk3 3).trans rfl
            have f4' : w3.cell? ⟨wr.heap.size, 4, none⟩ = some (.slice X3 v3.length y3) := (blk_cell hk3 4).trans rfl
            have f5 : w3.cell? ⟨wr.heap.size, 5, none⟩ = some (.slice X4 v4.length y4) := (blk_cell hk3 5).trans rfl
            have q0 : w3.cell? ⟨w.heap.size, 0, none⟩ = some (.int .i64 x0) := (blk_cell hst3.kq 0).trans rfl
            have q1 : w3.cell? ⟨w.heap.size, 1, none⟩ = some (.int .i64 x1) := (blk_cell hst3.kq 1).trans rfl
            have q2 : w3.cell? ⟨w.heap.size, 2, none⟩ = some (.string x2) := (blk_cell hst3.kq 2).trans rfl
            have q3 : w3.cell? ⟨w.heap.size, 3, none⟩ = some (.slice F3 x3.length f3) := (blk_cell hst3.kq 3).trans rfl
            have q4 : w3.cell? ⟨w.heap.size, 4, none⟩ = some (.slice F4 x4.length f4) := (blk_cell hst3.kq 4).trans rfl
            have HHJ := Lib.hid hHJ; clear hHJ
            have HK3 := Lib.hid hk3; clear hk3 HK2
            have HST3 := Lib.hid hst3; clear hst3 HST2 hsn hg HB2 HST
            go_wp2_with fail
            refine hcw.mono ?_; rintro e w4 ⟨rfl, hb⟩
            have hst4 := HST3.out.below hb
            have hk4 := blk_below HK3.out hb
            clear hcw f0 f1 f2 f3' f4' f5 q0 q1 q2 q3 q4 hup hlk
            have HST4 := Lib.hid hst4; clear hst4 HST3 hb
            have HK4 := Lib.hid hk4; clear hk4 HK3
            cases HJ with
            | false =>
              go_wp2_with fail
              go_roundw
              case rel =>
                refine ⟨j + 1, out, ids ++ [xi], by omega, by go_num, ?_, ?_, by have := HOL.out; omega, by have := HIL.out; simp; omega, HST4.out⟩
                · rw [HO.out, outJ, List.filter_cons_of_neg (by rw [HHJ.out]; decide)]
                · rw [HS.out, scanJ, HDJ.out, HMB.out]; rfl
              case measure => simp [intOf]; omega
            | true =>
              obtain ⟨i0, hi, hz0, hz1, hz2⟩ := info_parts info42
              have g0 : w4.cell? ⟨wr.heap.size, 0, none⟩ = some (.string xi) := (blk_cell HK4.out 0).trans rfl
              have g1 : w4.cell? ⟨wr.heap.size, 1, none⟩ = some (.int .i64 v0) := (blk_cell HK4.out 1).trans rfl
              have g2 : w4.cell? ⟨wr.heap.size, 2, none⟩ = some (.int .i64 v1) := (blk_cell HK4.out 2).trans rfl
              have g3 : w4.cell? ⟨wr.heap.size, 3, none⟩ = some (.string v2) := (blk_cell HK4.out 3).trans rfl
              have g4 : w4.cell? ⟨wr.heap.size, 4, none⟩ = some (.slice X3 v3.length y3) := (blk_cell HK4.out 4).trans rfl
              have g5 : w4.cell? ⟨wr.heap.size, 5, none⟩ = some (.slice X4 v4.length y4) := (blk_cell HK4.out 5).trans rfl
              have hol := HOL.out
              go_wp2_with (first
                | (at_builtin; refine wpList_append_lies _ rfl _ _ 39 rfl w.heap.size 42 i0 _ 6 96 Tryd.underlying39 hi hz0 hz1 hz2 rfl (by decide) _ _ _ rfl (HST4.out.row.alloc _) ⟨w4.heap.size, 0, none⟩ 1 1 (encD ⟨⟨xi, v0, v1, v2, v3, v4⟩, X3, y3, X4, y4⟩) rfl rfl (cell_row_new _ _ _) ?c2 (by decide) ?c3 ?c4 ?c5 _ rfl ?_)
                | go_in)
              case c2 =>
                intro u hu
                simp only [encD, List.mem_cons, List.not_mem_nil, or_false] at hu
                rcases hu with rfl | rfl | rfl | rfl | rfl | rfl <;> rfl
              case c3 => unfold maxLen; omega
              case c4 => omega
              case c5 => have := HST4.out.bl.size; simp; omega
              intro gl cl' w5 hown1 hg1 hat1 hlt1
              have hst5 := (HST4.out.below (below_alloc (Below.refl w4.heap.size w4) (.cells (encD ⟨⟨xi, v0, v1, v2, v3, v4⟩, X3, y3, X4, y4⟩).toArray 42))).app (x := ⟨⟨xi, v0, v1, v2, v3, v4⟩, X3, y3, X4, y4⟩) hown1 hg1 (by simpa using hat1)
              have HST5 := Lib.hid hst5; clear hst5 hown1 hg1 hat1 hlt1 g0 g1 g2 g3 g4 g5 HST4 HK4
              go_wp2_with fail
              go_roundw
              case rel =>
                refine ⟨j + 1, out ++ [⟨⟨xi, v0, v1, v2, v3, v4⟩, X3, y3, X4, y4⟩], ids ++ [xi], by omega, by go_num, ?_, ?_, by simp; omega, by have := HIL.out; simp; omega, (by have e := HST5.out; rw [List.length_append, List.length_singleton] at e; exact e)⟩
                · rw [HO.out, outJ, List.filter_cons_of_pos (by rw [HHJ.out]), List.append_assoc]; rfl
                · rw [HS.out, scanJ, HDJ.out, HMB.out]; rfl
              case measure => simp [intOf]; omega
      · have hnl : ¬ (j : Int) < (docs.length : Int) := by omega
        have hO : OUT = out := by rw [HO.out, List.drop_eq_nil_of_le (by omega)]; simp [outJ]
        have hS : SC = false := by rw [HS.out, List.drop_eq_nil_of_le (by omega)]; rfl
        subst hO
        have HSF := Lib.hid hS; clear hS HO HS
        have HST := Lib.hid hst; clear hst
        have hs := sort_docs ⟨⟨x0, x1, x2, x3, x4⟩, srt, fl, sk, lm⟩ ⟨F3, f3, F4, f4, So, so, Fi, fi⟩ w wr w.heap.size u8 OUT HQ.out hbd HT.out HST.out.bl HST.out.kq HGD.out HST.out.row HST.out.ne1 HLO.out
        go_wp2_with fail
        refine hs.mono ?_
        rintro e w2 ⟨rfl, l', hp, hpw, hrow, hg⟩
        have hrt : Rt w ⟨⟨x0, x1, x2, x3, x4⟩, srt, fl, sk, lm⟩ ⟨F3, f3, F4, f4, So, so, Fi, fi⟩ u8 l' w2 := ⟨by rw [hp.length_eq]; exact hrow, HST.out.bl.grown hg HST.out.bl.size (fun k hk => (HST.out.row.lt k hk).1), (hg.block _ (blk_lt HST.out.kq) (fun e => HST.out.ne1 e.symm)).trans HST.out.kq, HST.out.ne1⟩
        have HRT := Lib.hid hrt; clear hrt hrow hg hs HST
        have HP := Lib.hid hp; clear hp
        have HPW := Lib.hid hpw; clear hpw
        obtain ⟨r, kk, rfl⟩ := rowk_len HRT.out.row
        obtain ⟨hs0, hl0⟩ := HSK.out (by simpa using b1)
        replace hs0 : 0 ≤ sk := hs0
        replace hl0 : 0 ≤ lm := hl0
        obtain ⟨s, rfl⟩ : ∃ s : Nat, sk = s := ⟨sk.toNat, by omega⟩
        obtain ⟨t, rfl⟩ : ∃ t : Nat, lm = t := ⟨lm.toNat, by omega⟩
        clear hs0 hl0 HSK
        have hle : l'.length ≤ kk := by
          rcases HRT.out.row.2 with ⟨h0, h0'⟩ | ⟨g, cap, cur, hv, _, _, h1, _⟩
          · omega
          · injection hv with _ _ h2
            omega
        have hc1 := cut_low r l'.length kk (min s l'.length) (Nat.min_le_right _ _) w2
        have hlo := lo_of (m := min s l'.length) HRT.out.row HRT.out.bl HRT.out.kq HRT.out.ne1 (fun x hx => HGD.out x (HP.out.mem_iff.1 hx))
        have hms : min (s : Int) (l'.length : Int) = ((min s l'.length : Nat) : Int) := by omega
        have hcj : cutJ ⟨⟨x0, x1, x2, x3, x4⟩, srt, fl, (s : Int), (t : Int)⟩ l' = if 0 < (t : Int) then (l'.drop (min s l'.length)).take (min t (l'.drop (min s l'.length)).length) else l'.drop (min s l'.length) := by
          unfold cutJ
          simp only [Int.toNat_natCast]
        have hl1 : (l'.drop (min s l'.length)).length = l'.length - min s l'.length := List.length_drop
        have hk1 : l'.length - min s l'.length ≤ kk - min s l'.length := by omega
        have hb1 : (l'.drop (min s l'.length)).length ≤ 1000 := by
          have h1 := HP.out.length_eq
          have h2 := HLO.out
          omega
        rw [← hl1] at hk1 hc1
        generalize (if kk = min s l'.length then r else r.map (·.add (min s l'.length * 6))) = r1 at hc1 hlo
        generalize kk - min s l'.length = k1 at hc1 hk1
        have hsub : ∀ x ∈ l'.drop (min s l'.length), x ∈ docs := fun x hx => HOD.out x (HP.out.mem_iff.1 (List.mem_of_mem_drop hx))
        generalize l'.drop (min s l'.length) = l1 at hc1 hlo hcj hk1 hsub hb1
        have q3 : w2.cell? ⟨w.heap.size, 7, none⟩ = some (.int .i64 s) := (blk_cell HRT.out.kq 7).trans rfl
        have q4 : w2.cell? ⟨w.heap.size, 8, none⟩ = some (.int .i64 t) := (blk_cell HRT.out.kq 8).trans rfl
        generalize min s l'.length = mS at hc1 hms
        have HCJ := Lib.hid hcj; clear hcj
        have HLO1 := Lib.hid hlo; clear hlo hl1
        have HSUB := Lib.hid hsub; clear hsub hle
        by_cases ht : 0 < (t : Int)
        · obtain ⟨L, hL⟩ : ∃ L, l1.take (min t l1.length) = L := ⟨_, rfl⟩
          have hLl : L.length = min t l1.length := by rw [← hL, List.length_take]; omega
          have hc2 := cut_high r1 l1.length k1 (min t l1.length) (by omega) w2
          have hmt : min (t : Int) (l1.length : Int) = ((min t l1.length : Nat) : Int) := by omega
          rw [← hLl] at hc2 hmt
          have hlo2 := HLO1.out.take (min t l1.length)
          rw [hL] at hlo2
          have HLO2 := Lib.hid hlo2; clear hlo2
          have hsub2 : ∀ x ∈ L, x ∈ docs := fun x hx => HSUB.out x (by rw [← hL] at hx; exact List.mem_of_mem_take hx)
          have HSUB2 := Lib.hid hsub2; clear hsub2
          have HLL := Lib.hid hL; clear hL
          have hLk : L.length ≤ k1 := by omega
          go_wp2_with fail
          go_loopw [11, 68] (fun v11 v68 wr => ∃ (j : Nat) (ys : List Dc), j ≤ L.length ∧ v68 = .int .i64 j ∧ ys.length = L.length ∧ (∀ i, i < j → (ys[i]?).map Dc.d = (L[i]?).map (fun x => (⟨x.d.f0, pj x.d.f1⟩ : S42))) ∧ (∀ i, j ≤ i → ys[i]? = L[i]?) ∧ Lo w ⟨⟨x0, x1, x2, x3, x4⟩, srt, fl, (s : Int), (t : Int)⟩ ⟨F3, f3, F4, f4, So, so, Fi, fi⟩ r1 ys wr) (fun _ v68 _ => L.length - (intOf v68).toNat)
          case atStart => exact ⟨0, L, Nat.zero_le _, rfl, rfl, (fun i h => absurd h (by omega)), (fun _ _ => rfl), HLO2.out⟩
          case round =>
            obtain ⟨j, ys, hj, rfl, hyl, hya, hyb, hlo⟩ := hrel
            have HYA := Lib.hid hya; clear hya
            have HYB := Lib.hid hyb; clear hyb
            have HYL := Lib.hid hyl; clear hyl
            clear HLO2
            by_cases hlt : j < L.length
            · have hji : (j : Int) < (L.length : Int) := by omega
              obtain ⟨x, hx⟩ : ∃ x, L[j]? = some x := ⟨_, List.getElem?_eq_getElem hlt⟩
              have hxy : ys[j]? = some x := (HYB.out j (Nat.le_refl _)).trans hx
              obtain ⟨b, o, cs, rfl, hbw, hcb, hcs⟩ := hlo.get j x hxy
              have hbl := blk_lt hcb
              have hgx := hlo.gd x (List.mem_of_getElem? hxy)
              have hcw := HPJ.out x wr.drew b ⟨x, HSUB2.out x (List.mem_of_getElem? hx), rfl⟩ hlo.bl.drew hbw hbl (hgx _ ⟨rfl, rfl, rfl, Nat.le_refl _, fun _ _ _ => rfl⟩) (fun W' hg => hgx W' ⟨hg.os, hg.tape, hg.output, hg.size, hg.block⟩)
              have e1 := (blk_cell hcb (o + j * 6 + 1)).trans (hcs 1 _ rfl)
              have e2 := (blk_cell hcb (o + j * 6 + 2)).trans (hcs 2 _ rfl)
              have e3 := (blk_cell hcb (o + j * 6 + 3)).trans (hcs 3 _ rfl)
              have e4 := (blk_cell hcb (o + j * 6 + 4)).trans (hcs 4 _ rfl)
              have e5 := (blk_cell hcb (o + j * 6 + 5)).trans (hcs 5 _ rfl)
              have p0 : wr.cell? ⟨w.heap.size, 0, none⟩ = some (.int .i64 x0) := (blk_cell hlo.kq 0).trans rfl
              have p1 : wr.cell? ⟨w.heap.size, 1, none⟩ = some (.int .i64 x1) := (blk_cell hlo.kq 1).trans rfl
              have p2 : wr.cell? ⟨w.heap.size, 2, none⟩ = some (.string x2) := (blk_cell hlo.kq 2).trans rfl
              have p3 : wr.cell? ⟨w.heap.size, 3, none⟩ = some (.slice F3 x3.length f3) := (blk_cell hlo.kq 3).trans rfl
              have p4 : wr.cell? ⟨w.heap.size, 4, none⟩ = some (.slice F4 x4.length f4) := (blk_cell hlo.kq 4).trans rfl
              have p5 : wr.cell? ⟨w.heap.size, 5, none⟩ = some (.slice So srt.length so) := (blk_cell hlo.kq 5).trans rfl
              have p6 : wr.cell? ⟨w.heap.size, 6, none⟩ = some (.slice Fi fl.length fi) := (blk_cell hlo.kq 6).trans rfl
              have p7 : wr.cell? ⟨w.heap.size, 7, none⟩ = some (.int .i64 (s : Int)) := (blk_cell hlo.kq 7).trans rfl
              have p8 : wr.cell? ⟨w.heap.size, 8, none⟩ = some (.int .i64 (t : Int)) := (blk_cell hlo.kq 8).trans rfl
              have HLO := Lib.hid hlo; clear hlo hgx
              have HCB := Lib.hid hcb; clear hcb hcs
              have HX := Lib.hid hx; clear hx
              have HXY := Lib.hid hxy; clear hxy
              obtain ⟨⟨xi, v0, v1, v2, v3, v4⟩, X3, y3, X4, y4⟩ := x
              simp only [qv] at hcw e1 e2 e3 e4 e5
              go_upto_region 22 with fail
              refine start_ (n := 12) (S := fun w' => w'.cell? ⟨w.heap.size, 0, none⟩ = some (.int .i64 x0) ∧ w'.cell? ⟨w.heap.size, 1, none⟩ = some (.int .i64 x1) ∧ w'.cell? ⟨w.heap.size, 2, none⟩ = some (.string x2) ∧ w'.cell? ⟨w.heap.size, 3, none⟩ = some (.slice F3 x3.length f3) ∧ w'.cell? ⟨w.heap.size, 4, none⟩ = some (.slice F4 x4.length f4) ∧ w'.cell? ⟨w.heap.size, 5, none⟩ = some (.slice So srt.length so) ∧ w'.cell? ⟨w.heap.size, 6, none⟩ = some (.slice Fi fl.length fi) ∧ w'.cell? ⟨w.heap.size, 7, none⟩ = some (.int .i64 (s : Int)) ∧ w'.cell? ⟨w.heap.size, 8, none⟩ = some (.int .i64 (t : Int)) ∧ w'.cell? ⟨b, o + j * 6 + 1, none⟩ = some (.int .i64 v0) ∧ w'.cell? ⟨b, o + j * 6 + 2, none⟩ = some (.int .i64 v1) ∧ w'.cell? ⟨b, o + j * 6 + 3, none⟩ = some (.string v2) ∧ w'.cell? ⟨b, o + j * 6 + 4, none⟩ = some (.slice X3 v3.length y3) ∧ w'.cell? ⟨b, o + j * 6 + 5, none⟩ = some (.slice X4 v4.length y4)) (ds := [11]) #[false, false, false, false, false, false, false, false, false, false, false, false] (by kernel_rfl) rfl rfl ⟨p0, p1, p2, p3, p4, p5, p6, p7, p8, e1, e2, e3, e4, e5⟩ (fun hHeld => ?_)
              refine pure_ (i := 0) (N := some 71) (v := ?_) (a' := ?_) #[true, false, false, false, false, false, false, false, false, false, false, false] rfl rfl (by kernel_rfl) (fun _ _ _ h => h) (Or.inl ⟨by rfl, ?_⟩) ?_ ?_
              rotate_left
              · intro w'
                go_simp
                with_reducible rfl
              rotate_left
              · simp only [Act.put, List.setIfInBounds_toArray, List.set_cons_zero, List.set_cons_succ]
                rfl
              refine pure_ (i := 1) (N := some 72) (v := ?_) (a' := ?_) #[true, true, false, false, false, false, false, false, false, false, false, false] rfl rfl (by kernel_rfl) (fun _ _ _ h => h) (Or.inl ⟨by rfl, ?_⟩) ?_ ?_
              rotate_left
              · intro w'
                go_simp
                with_reducible rfl
              rotate_left
              · simp only [Act.put, List.setIfInBounds_toArray, List.set_cons_zero, List.set_cons_succ]
                rfl
              refine pure_ (i := 3) (N := some 74) (v := ?_) (a' := ?_) #[true, true, false, true, false, false, false, false, false, false, false, false] rfl rfl (by kernel_rfl) (fun _ _ _ h => h) (Or.inl ⟨by rfl, ?_⟩) ?_ ?_
              rotate_left
              · intro w'
                go_simp
                with_reducible rfl
              rotate_left
              · simp only [Act.put, List.setIfInBounds_toArray, List.set_cons_zero, List.set_cons_succ]
                rfl
              refine pure_ (i := 4) (N := some 75) (v := ?_) (a' := ?_) #[true, true, false, true, true, false, false, false, false, false, false, false] rfl rfl (by kernel_rfl) (fun _ _ _ h => h) (Or.inl ⟨by rfl, ?_⟩) ?_ ?_
              rotate_left
              · intro w'
                go_simp
                with_reducible rfl
              rotate_left
              · simp only [Act.put, List.setIfInBounds_toArray, List.set_cons_zero, List.set_cons_succ]
                rfl
              refine pure_ (i := 5) (N := some 76) (v := ?_) (a' := ?_) #[true, true, false, true, true, true, false, false, false, false, false, false] rfl rfl (by kernel_rfl) (fun _ _ _ h => h) (Or.inl ⟨by rfl, ?_⟩) ?_ ?_
              rotate_left
              · intro w'
                go_simp
                with_reducible rfl
              rotate_left
              · simp only [Act.put, List.setIfInBounds_toArray, List.set_cons_zero, List.set_cons_succ]
                rfl
              refine pure_ (i := 6) (N := some 77) (v := ?_) (a' := ?_) #[true, true, false, true, true, true, true, false, false, false, false, false] rfl rfl (by kernel_rfl) (fun _ _ _ h => h) (Or.inl ⟨by rfl, ?_⟩) ?_ ?_
              rotate_left
              · intro w'
                go_simp
                with_reducible rfl
              rotate_left
              · simp only [Act.put, List.setIfInBounds_toArray, List.set_cons_zero, List.set_cons_succ]
                rfl
              refine take_ (i := 2) (N := some 73) (v := ?_) (a' := ?_) #[true, true, true, true, true, true, true, false, false, false, false, false] rfl rfl (by kernel_rfl) (fun _ _ _ h => h) (Or.inl ⟨by rfl, ?_⟩) hHeld ?_ ?_
              rotate_left
              · rintro w' ⟨s0, s1, s2, s3, s4, s5, s6, s7, s8, s9, s10, s11, s12, s13⟩
                go_simp
                with_reducible rfl
              rotate_left
              · simp only [Act.put, List.setIfInBounds_toArray, List.set_cons_zero, List.set_cons_succ]
                rfl
              refine take_ (i := 7) (N := some 78) (v := ?_) (a' := ?_) #[true, true, true, true, true, true, true, true, false, false, false, false] rfl rfl (by kernel_rfl) (fun _ _ _ h => h) (Or.inl ⟨by rfl, ?_⟩) hHeld ?_ ?_
              rotate_left
              · rintro w' ⟨s0, s1, s2, s3, s4, s5, s6, s7, s8, s9, s10, s11, s12, s13⟩
                go_simp
                with_reducible rfl
              rotate_left
              · simp only [Act.put, List.setIfInBounds_toArray, List.set_cons_zero, List.set_cons_succ]
                rfl
              refine one_ (i := 8) (N := some 79) #[true, true, true, true, true, true, true, true, true, false, false, false] rfl rfl (by kernel_rfl) (by decide) (fun K hK => ?_)
              refine goes_ Tryd.func50 (by kernel_rfl) rfl #[.agg #[.int .i64 x0, .int .i64 x1, .string x2, .slice F3 x3.length f3, .slice F4 x4.length f4, .slice So srt.length so, .slice Fi fl.length fi, .int .i64 (s : Int), .int .i64 (t : Int)], .agg #[.int .i64 v0, .int .i64 v1, .string v2, .slice X3 v3.length y3, .slice X4 v4.length y4]] (by rfl) rfl rfl (by simp only [List.map_toArray, List.map_cons, List.map_nil]; rfl) ?_
              with_reducible refine (hcw).mono ?_
              rintro e w5 ⟨⟨⟨yi, u0, u1, u2, u3, u4⟩, Y3, m3, Y4, m4⟩, hy0, hy1, rfl, hbc, hyg⟩
              refine ⟨_, rfl, ?_⟩
              have hbw : Below wr.heap.size wr w5 := (Below.refl _ wr).drew.trans hbc
              have HBC := Lib.hid hbw
              have hlo5 := HLO.out.below hbw
              have hck := blk_below HCB.out hbw
              have z1 := blk_frozen hck (o + j * 6 + 1)
              have z2 := blk_frozen hck (o + j * 6 + 2)
              have z3 := blk_frozen hck (o + j * 6 + 3)
              have z4 := blk_frozen hck (o + j * 6 + 4)
              have z5 := blk_frozen hck (o + j * 6 + 5)
              have HLO5 := Lib.hid hlo5
              have HY0 := Lib.hid hy0
              have HY1 := Lib.hid hy1
              have HYG := Lib.hid hyg
              clear hbc hbw hlo5 hck hy0 hy1 hyg
              have c1 := (HBC.out.cell (World.block_lt_of_cell? wr _ e1)).trans e1
              have c2 := (HBC.out.cell (World.block_lt_of_cell? wr _ e2)).trans e2
              have c3 := (HBC.out.cell (World.block_lt_of_cell? wr _ e3)).trans e3
              have c4 := (HBC.out.cell (World.block_lt_of_cell? wr _ e4)).trans e4
              have c5 := (HBC.out.cell (World.block_lt_of_cell? wr _ e5)).trans e5
              refine hK.out _ _ ⟨((HBC.out.cell (World.block_lt_of_cell? wr _ p0)).trans p0), ((HBC.out.cell (World.block_lt_of_cell? wr _ p1)).trans p1), ((HBC.out.cell (World.block_lt_of_cell? wr _ p2)).trans p2), ((HBC.out.cell (World.block_lt_of_cell? wr _ p3)).trans p3), ((HBC.out.cell (World.block_lt_of_cell? wr _ p4)).trans p4), ((HBC.out.cell (World.block_lt_of_cell? wr _ p5)).trans p5), ((HBC.out.cell (World.block_lt_of_cell? wr _ p6)).trans p6), ((HBC.out.cell (World.block_lt_of_cell? wr _ p7)).trans p7), ((HBC.out.cell (World.block_lt_of_cell? wr _ p8)).trans p8), ((HBC.out.cell (World.block_lt_of_cell? wr _ e1)).trans e1), ((HBC.out.cell (World.block_lt_of_cell? wr _ e2)).trans e2), ((HBC.out.cell (World.block_lt_of_cell? wr _ e3)).trans e3), ((HBC.out.cell (World.block_lt_of_cell? wr _ e4)).trans e4), ((HBC.out.cell (World.block_lt_of_cell? wr _ e5)).trans e5)⟩ (fun hHeld => ?_)
              clear hK K
              refine norm_ (a' := ?_) ?_ ?_
              rotate_left
              · show Act.put _ (some 79) _ = _
                simp only [Act.put, List.setIfInBounds_toArray, List.set_cons_zero, List.set_cons_succ]
                rfl
              refine pure_ (i := 9) (N := some 80) (v := ?_) (a' := ?_) #[true, true, true, true, true, true, true, true, true, true, false, false] rfl rfl (by kernel_rfl) (fun _ _ _ h => h) (Or.inl ⟨by rfl, ?_⟩) ?_ ?_
              rotate_left
              · intro w'
                go_simp
                with_reducible rfl
              rotate_left
              · simp only [Act.put, List.setIfInBounds_toArray, List.set_cons_zero, List.set_cons_succ]
                rfl
              refine pure_ (i := 10) (N := some 81) (v := ?_) (a' := ?_) #[true, true, true, true, true, true, true, true, true, true, true, false] rfl rfl (by kernel_rfl) (fun _ _ _ h => h) (Or.inl ⟨by rfl, ?_⟩) ?_ ?_
              rotate_left
              · intro w'
                go_simp
                with_reducible rfl
              rotate_left
              · simp only [Act.put, List.setIfInBounds_toArray, List.set_cons_zero, List.set_cons_succ]
                rfl
              refine last_ (i := 11) (N := none) #[true, true, true, true, true, true, true, true, true, true, true, true] rfl rfl (by kernel_rfl) (by decide) (fun K hK => ?_)
              refine skip_ (w1 := ?_) (by rfl) rfl ?_ ?_
              rotate_left
              · go_simp
                rfl
              refine hK.out _ _ ?_
              clear hK K
              refine done_ (by kernel_rfl) ?_

              go_wp2_with fail
              go_roundw
              case rel =>
                refine ⟨j + 1, ys.set j ⟨⟨yi, u0, u1, u2, u3, u4⟩, Y3, m3, Y4, m4⟩, by omega, by go_num, by rw [List.length_set]; exact HYL.out, fun i hi => ?_, fun i hi => ?_, HLO5.out.set rfl HXY.out HY0.out HYG.out⟩
                · have hjy : j < ys.length := by have := HYL.out; omega
                  by_cases hij : i = j
                  · rw [hij, List.getElem?_set_self hjy, HX.out]
                    have h0 := HY0.out
                    have h1 := HY1.out
                    simp only [Option.map_some, Option.some.injEq, S42.mk.injEq] at h0 h1 ⊢
                    exact ⟨h0, h1⟩
                  · rw [List.getElem?_set_ne (fun e => hij e.symm)]
                    exact HYA.out i (by omega)
                · rw [List.getElem?_set_ne (show j ≠ i by omega)]
                  exact HYB.out i (by omega)
              case measure => simp [intOf]; omega
            · have hnl : ¬ (j : Int) < (L.length : Int) := by omega
              go_wp2_with fail
              have hfin := H3.out (by simpa using b1) HSF.out l' ys r1 k1 wr HP.out HPW.out (by
                rw [HCJ.out, if_pos ht, HLL.out]
                apply List.ext_getElem?
                intro i
                rw [List.getElem?_map, List.getElem?_map]
                by_cases hi : i < j
                · exact HYA.out i hi
                · rw [List.getElem?_eq_none (by have := HYL.out; omega), List.getElem?_eq_none (by omega)]
                  rfl) (by have := HYL.out; omega) hlo
              rw [HYL.out] at hfin
              rw [hLl] at hfin
              exact hfin
        · have HLO2 := HLO1
          have HSUB2 := HSUB
          go_wp2_with fail
          go_loopw [11, 68] (fun v11 v68 wr => ∃ (j : Nat) (ys : List Dc), j ≤ l1.length ∧ v68 = .int .i64 j ∧ ys.length = l1.length ∧ (∀ i, i < j → (ys[i]?).map Dc.d = (l1[i]?).map (fun x => (⟨x.d.f0, pj x.d.f1⟩ : S42))) ∧ (∀ i, j ≤ i → ys[i]? = l1[i]?) ∧ Lo w ⟨⟨x0, x1, x2, x3, x4⟩, srt, fl, (s : Int), (t : Int)⟩ ⟨F3, f3, F4, f4, So, so, Fi, fi⟩ r1 ys wr) (fun _ v68 _ => l1.length - (intOf v68).toNat)
          case atStart => exact ⟨0, l1, Nat.zero_le _, rfl, rfl, (fun i h => absurd h (by omega)), (fun _ _ => rfl), HLO2.out⟩
          case round =>
            obtain ⟨j, ys, hj, rfl, hyl, hya, hyb, hlo⟩ := hrel
            have HYA := Lib.hid hya; clear hya
            have HYB := Lib.hid hyb; clear hyb
            have HYL := Lib.hid hyl; clear hyl
            clear HLO2
            by_cases hlt : j < l1.length
            · have hji : (j : Int) < (l1.length : Int) := by omega
              obtain ⟨x, hx⟩ : ∃ x, l1[j]? = some x := ⟨_, List.getElem?_eq_getElem hlt⟩
              have hxy : ys[j]? = some x := (HYB.out j (Nat.le_refl _)).trans hx
              obtain ⟨b, o, cs, rfl, hbw, hcb, hcs⟩ := hlo.get j x hxy
              have hbl := blk_lt hcb
              have hgx := hlo.gd x (List.mem_of_getElem? hxy)
              have hcw := HPJ.out x wr.drew b ⟨x, HSUB2.out x (List.mem_of_getElem? hx), rfl⟩ hlo.bl.drew hbw hbl (hgx _ ⟨rfl, rfl, rfl, Nat.le_refl _, fun _ _ _ => rfl⟩) (fun W' hg => hgx W' ⟨hg.os, hg.tape, hg.output, hg.size, hg.block⟩)
              have e1 := (blk_cell hcb (o + j * 6 + 1)).trans (hcs 1 _ rfl)
              have e2 := (blk_cell hcb (o + j * 6 + 2)).trans (hcs 2 _ rfl)
              have e3 := (blk_cell hcb (o + j * 6 + 3)).trans (hcs 3 _ rfl)
              have e4 := (blk_cell hcb (o + j * 6 + 4)).trans (hcs 4 _ rfl)
              have e5 := (blk_cell hcb (o + j * 6 + 5)).trans (hcs 5 _ rfl)
              have p0 : wr.cell? ⟨w.heap.size, 0, none⟩ = some (.int .i64 x0) := (blk_cell hlo.kq 0).trans rfl
              have p1 : wr.cell? ⟨w.heap.size, 1, none⟩ = some (.int .i64 x1) := (blk_cell hlo.kq 1).trans rfl
              have p2 : wr.cell? ⟨w.heap.size, 2, none⟩ = some (.string x2) := (blk_cell hlo.kq 2).trans rfl
              have p3 : wr.cell? ⟨w.heap.size, 3, none⟩ = some (.slice F3 x3.length f3) := (blk_cell hlo.kq 3).trans rfl
              have p4 : wr.cell? ⟨w.heap.size, 4, none⟩ = some (.slice F4 x4.length f4) := (blk_cell hlo.kq 4).trans rfl
              have p5 : wr.cell? ⟨w.heap.size, 5, none⟩ = some (.slice So srt.length so) := (blk_cell hlo.kq 5).trans rfl
              have p6 : wr.cell? ⟨w.heap.size, 6, none⟩ = some (.slice Fi fl.length fi) := (blk_cell hlo.kq 6).trans rfl
              have p7 : wr.cell? ⟨w.heap.size, 7, none⟩ = some (.int .i64 (s : Int)) := (blk_cell hlo.kq 7).trans rfl
              have p8 : wr.cell? ⟨w.heap.size, 8, none⟩ = some (.int .i64 (t : Int)) := (blk_cell hlo.kq 8).trans rfl
              have HLO := Lib.hid hlo; clear hlo hgx
              have HCB := Lib.hid hcb; clear hcb hcs
              have HX := Lib.hid hx; clear hx
              have HXY := Lib.hid hxy; clear hxy
              obtain ⟨⟨xi, v0, v1, v2, v3, v4⟩, X3, y3, X4, y4⟩ := x
              simp only [qv] at hcw e1 e2 e3 e4 e5
              go_upto_region 22 with fail
              refine start_ (n := 12) (S := fun w' => w'.cell? ⟨w.heap.size, 0, none⟩ = some (.int .i64 x0) ∧ w'.cell? ⟨w.heap.size, 1, none⟩ = some (.int .i64 x1) ∧ w'.cell? ⟨w.heap.size, 2, none⟩ = some (.string x2) ∧ w'.cell? ⟨w.heap.size, 3, none⟩ = some (.slice F3 x3.length f3) ∧ w'.cell? ⟨w.heap.size, 4, none⟩ = some (.slice F4 x4.length f4) ∧ w'.cell? ⟨w.heap.size, 5, none⟩ = some (.slice So srt.length so) ∧ w'.cell? ⟨w.heap.size, 6, none⟩ = some (.slice Fi fl.length fi) ∧ w'.cell? ⟨w.heap.size, 7, none⟩ = some (.int .i64 (s : Int)) ∧ w'.cell? ⟨w.heap.size, 8, none⟩ = some (.int .i64 (t : Int)) ∧ w'.cell? ⟨b, o + j * 6 + 1, none⟩ = some (.int .i64 v0) ∧ w'.cell? ⟨b, o + j * 6 + 2, none⟩ = some (.int .i64 v1) ∧ w'.cell? ⟨b, o + j * 6 + 3, none⟩ = some (.string v2) ∧ w'.cell? ⟨b, o + j * 6 + 4, none⟩ = some (.slice X3 v3.length y3) ∧ w'.cell? ⟨b, o + j * 6 + 5, none⟩ = some (.slice X4 v4.length y4)) (ds := [11]) #[false, false, false, false, false, false, false, false, false, false, false, false] (by kernel_rfl) rfl rfl ⟨p0, p1, p2, p3, p4, p5, p6, p7, p8, e1, e2, e3, e4, e5⟩ (fun hHeld => ?_)
              refine pure_ (i := 0) (N := some 71) (v := ?_) (a' := ?_) #[true, false, false, false, false, false, false, false, false, false, false, false] rfl rfl (by kernel_rfl) (fun _ _ _ h => h) (Or.inl ⟨by rfl, ?_⟩) ?_ ?_
              rotate_left
              · intro w'
                go_simp
                with_reducible rfl
              rotate_left
              · simp only [Act.put, List.setIfInBounds_toArray, List.set_cons_zero, List.set_cons_succ]
                rfl
              refine pure_ (i := 1) (N := some 72) (v := ?_) (a' := ?_) #[true, true, false, false, false, false, false, false, false, false, false, false] rfl rfl (by kernel_rfl) (fun _ _ _ h => h) (Or.inl ⟨by rfl, ?_⟩) ?_ ?_
              rotate_left
              · intro w'
                go_simp
                with_reducible rfl
              rotate_left
              · simp only [Act.put, List.setIfInBounds_toArray, List.set_cons_zero, List.set_cons_succ]
                rfl
              refine pure_ (i := 3) (N := some 74) (v := ?_) (a' := ?_) #[true, true, false, true, false, false, false, false, false, false, false, false] rfl rfl (by kernel_rfl) (fun _ _ _ h => h) (Or.inl ⟨by rfl, ?_⟩) ?_ ?_
              rotate_left
              · intro w'
                go_simp
                with_reducible rfl
              rotate_left
              · simp only [Act.put, List.setIfInBounds_toArray, List.set_cons_zero, List.set_cons_succ]
                rfl
              refine pure_ (i := 4) (N := some 75) (v := ?_) (a' := ?_) #[true, true, false, true, true, false, false, false, false, false, false, false] rfl rfl (by kernel_rfl) (fun _ _ _ h => h) (Or.inl ⟨by rfl, ?_⟩) ?_ ?_
              rotate_left
              · intro w'
                go_simp
                with_reducible rfl
              rotate_left
              · simp only [Act.put, List.setIfInBounds_toArray, List.set_cons_zero, List.set_cons_succ]
                rfl
              refine pure_ (i := 5) (N := some 76) (v := ?_) (a' := ?_) #[true, true, false, true, true, true, false, false, false, false, false, false] rfl rfl (by kernel_rfl) (fun _ _ _ h => h) (Or.inl ⟨by rfl, ?_⟩) ?_ ?_
              rotate_left
              · intro w'
                go_simp
                with_reducible rfl
              rotate_left
              · simp only [Act.put, List.setIfInBounds_toArray, List.set_cons_zero, List.set_cons_succ]
                rfl
              refine pure_ (i := 6) (N := some 77) (v := ?_) (a' := ?_) #[true, true, false, true, true, true, true, false, false, false, false, false] rfl rfl (by kernel_rfl) (fun _ _ _ h => h) (Or.inl ⟨by rfl, ?_⟩) ?_ ?_
              rotate_left
              · intro w'
                go_simp
                with_reducible rfl
              rotate_left
              · simp only [Act.put, List.setIfInBounds_toArray, List.set_cons_zero, List.set_cons_succ]
                rfl
              refine take_ (i := 2) (N := some 73) (v := ?_) (a' := ?_) #[true, true, true, true, true, true, true, false, false, false, false, false] rfl rfl (by kernel_rfl) (fun _ _ _ h => h) (Or.inl ⟨by rfl, ?_⟩) hHeld ?_ ?_
              rotate_left
              · rintro w' ⟨s0, s1, s2, s3, s4, s5, s6, s7, s8, s9, s10, s11, s12, s13⟩
                go_simp
                with_reducible rfl
              rotate_left
              · simp only [Act.put, List.setIfInBounds_toArray, List.set_cons_zero, List.set_cons_succ]
                rfl
              refine take_ (i := 7) (N := some 78) (v := ?_) (a' := ?_) #[true, true, true, true, true, true, true, true, false, false, false, false] rfl rfl (by kernel_rfl) (fun _ _ _ h => h) (Or.inl ⟨by rfl, ?_⟩) hHeld ?_ ?_
              rotate_left
              · rintro w' ⟨s0, s1, s2, s3, s4, s5, s6, s7, s8, s9, s10, s11, s12, s13⟩
                go_simp
                with_reducible rfl
              rotate_left
              · simp only [Act.put, List.setIfInBounds_toArray, List.set_cons_zero, List.set_cons_succ]
                rfl
              refine one_ (i := 8) (N := some 79) #[true, true, true, true, true, true, true, true, true, false, false, false] rfl rfl (by kernel_rfl) (by decide) (fun K hK => ?_)
              refine goes_ Tryd.func50 (by kernel_rfl) rfl #[.agg #[.int .i64 x0, .int .i64 x1, .string x2, .slice F3 x3.length f3, .slice F4 x4.length f4, .slice So srt.length so, .slice Fi fl.length fi, .int .i64 (s : Int), .int .i64 (t : Int)], .agg #[.int .i64 v0, .int .i64 v1, .string v2, .slice X3 v3.length y3, .slice X4 v4.length y4]] (by rfl) rfl rfl (by simp only [List.map_toArray, List.map_cons, List.map_nil]; rfl) ?_
              with_reducible refine (hcw).mono ?_
              rintro e w5 ⟨⟨⟨yi, u0, u1, u2, u3, u4⟩, Y3, m3, Y4, m4⟩, hy0, hy1, rfl, hbc, hyg⟩
              refine ⟨_, rfl, ?_⟩
              have hbw : Below wr.heap.size wr w5 := (Below.refl _ wr).drew.trans hbc
              have HBC := Lib.hid hbw
              have hlo5 := HLO.out.below hbw
              have hck := blk_below HCB.out hbw
              have z1 := blk_frozen hck (o + j * 6 + 1)
              have z2 := blk_frozen hck (o + j * 6 + 2)
              have z3 := blk_frozen hck (o + j * 6 + 3)
              have z4 := blk_frozen hck (o + j * 6 + 4)
              have z5 := blk_frozen hck (o + j * 6 + 5)
              have HLO5 := Lib.hid hlo5
              have HY0 := Lib.hid hy0
              have HY1 := Lib.hid hy1
              have HYG := Lib.hid hyg
              clear hbc hbw hlo5 hck hy0 hy1 hyg
              have c1 := (HBC.out.cell (World.block_lt_of_cell? wr _ e1)).trans e1
              have c2 := (HBC.out.cell (World.block_lt_of_cell? wr _ e2)).trans e2
              have c3 := (HBC.out.cell (World.block_lt_of_cell? wr _ e3)).trans e3
              have c4 := (HBC.out.cell (World.block_lt_of_cell? wr _ e4)).trans e4
              have c5 := (HBC.out.cell (World.block_lt_of_cell? wr _ e5)).trans e5
              refine hK.out _ _ ⟨((HBC.out.cell (World.block_lt_of_cell? wr _ p0)).trans p0), ((HBC.out.cell (World.block_lt_of_cell? wr _ p1)).trans p1), ((HBC.out.cell (World.block_lt_of_cell? wr _ p2)).trans p2), ((HBC.out.cell (World.block_lt_of_cell? wr _ p3)).trans p3), ((HBC.out.cell (World.block_lt_of_cell? wr _ p4)).trans p4), ((HBC.out.cell (World.block_lt_of_cell? wr _ p5)).trans p5), ((HBC.out.cell (World.block_lt_of_cell? wr _ p6)).trans p6), ((HBC.out.cell (World.block_lt_of_cell? wr _ p7)).trans p7), ((HBC.out.cell (World.block_lt_of_cell? wr _ p8)).trans p8), ((HBC.out.cell (World.block_lt_of_cell? wr _ e1)).trans e1), ((HBC.out.cell (World.block_lt_of_cell? wr _ e2)).trans e2), ((HBC.out.cell (World.block_lt_of_cell? wr _ e3)).trans e3), ((HBC.out.cell (World.block_lt_of_cell? wr _ e4)).trans e4), ((HBC.out.cell (World.block_lt_of_cell? wr _ e5)).trans e5)⟩ (fun hHeld => ?_)
              clear hK K
              refine norm_ (a' := ?_) ?_ ?_
              rotate_left
              · show Act.put _ (some 79) _ = _
                simp only [Act.put, List.setIfInBounds_toArray, List.set_cons_zero, List.set_cons_succ]
                rfl
              refine pure_ (i := 9) (N := some 80) (v := ?_) (a' := ?_) #[true, true, true, true, true, true, true, true, true, true, false, false] rfl rfl (by kernel_rfl) (fun _ _ _ h => h) (Or.inl ⟨by rfl, ?_⟩) ?_ ?_
              rotate_left
              · intro w'
                go_simp
                with_reducible rfl
              rotate_left
              · simp only [Act.put, List.setIfInBounds_toArray, List.set_cons_zero, List.set_cons_succ]
                rfl
              refine pure_ (i := 10) (N := some 81) (v := ?_) (a' := ?_) #[true, true, true, true, true, true, true, true, true, true, true, false] rfl rfl (by kernel_rfl) (fun _ _ _ h => h) (Or.inl ⟨by rfl, ?_⟩) ?_ ?_
              rotate_left
              · intro w'
                go_simp
                with_reducible rfl
              rotate_left
              · simp only [Act.put, List.setIfInBounds_toArray, List.set_cons_zero, List.set_cons_succ]
                rfl
              refine last_ (i := 11) (N := none) #[true, true, true, true, true, true, true, true, true, true, true, true] rfl rfl (by kernel_rfl) (by decide) (fun K hK => ?_)
              refine skip_ (w1 := ?_) (by rfl) rfl ?_ ?_
              rotate_left
              · go_simp
                rfl
              refine hK.out _ _ ?_
              clear hK K
              refine done_ (by kernel_rfl) ?_

              go_wp2_with fail
              go_roundw
              case rel =>
                refine ⟨j + 1, ys.set j ⟨⟨yi, u0, u1, u2, u3, u4⟩, Y3, m3, Y4, m4⟩, by omega, by go_num, by rw [List.length_set]; exact HYL.out, fun i hi => ?_, fun i hi => ?_, HLO5.out.set rfl HXY.out HY0.out HYG.out⟩
                · have hjy : j < ys.length := by have := HYL.out; omega
                  by_cases hij : i = j
                  · rw [hij, List.getElem?_set_self hjy, HX.out]
                    have h0 := HY0.out
                    have h1 := HY1.out
                    simp only [Option.map_some, Option.some.injEq, S42.mk.injEq] at h0 h1 ⊢
                    exact ⟨h0, h1⟩
                  · rw [List.getElem?_set_ne (fun e => hij e.symm)]
                    exact HYA.out i (by omega)
                · rw [List.getElem?_set_ne (show j ≠ i by omega)]
                  exact HYB.out i (by omega)
              case measure => simp [intOf]; omega
            · have hnl : ¬ (j : Int) < (l1.length : Int) := by omega
              go_wp2_with fail
              have hfin := H3.out (by simpa using b1) HSF.out l' ys r1 k1 wr HP.out HPW.out (by
                rw [HCJ.out, if_neg (show ¬ 0 < (t : Int) by omega)]
                apply List.ext_getElem?
                intro i
                rw [List.getElem?_map, List.getElem?_map]
                by_cases hi : i < j
                · exact HYA.out i hi
                · rw [List.getElem?_eq_none (by have := HYL.out; omega), List.getElem?_eq_none (by omega)]
                  rfl) (by have := HYL.out; omega) hlo
              rw [HYL.out] at hfin
              skip
              exact hfin
end Go.Proofs.YtehdnjegipcpfaaDoor

namespace Go.Proofs.YtehdnjegipcpfaaDoor
open Go.RowKit Go.Proofs.YtehdnjegipcpfaaDoorW.PrintWords Go.Proofs.YtehdnjegipcpfaaDoorW.PrintLast Go.Proofs.YtehdnjegipcpfaaDoorW.PrintMore
open PFilterHolds PAns Go.Shelf Go.Sort
def RunJ (w : World) (q : Qy) (z : Qa) (pj : S25 → S25) (docs : List Dc) (e : Ending) (w' : World) : Prop :=
  (checkQ q ≠ 0 ∧ e = .returned (.tuple #[.slice none 0 0, .int .i64 (checkQ q)]) ∧ Below w.heap.size w w') ∨
  (checkQ q = 0 ∧ scanJ [] docs = true ∧ e = .returned (.tuple #[.slice none 0 0, .int .i64 2]) ∧ Below w.heap.size w w') ∨
  (checkQ q = 0 ∧ scanJ [] docs = false ∧ ∃ (l' ys : List Dc) (r : Option Addr) (k : Nat), l'.Perm (outJ q docs) ∧ l'.Pairwise (fun a b => ¬ compJ q.sort b.d a.d < 0) ∧ ys.map Dc.d = (cutJ q l').map (fun x => (⟨x.d.f0, pj x.d.f1⟩ : S42)) ∧ ys.length ≤ k ∧ Lo w q z r ys w' ∧ e = .returned (.tuple #[.slice r ys.length k, .int .i64 0]))
theorem run_any (q : Qy) (z : Qa) (A : Option Addr) (c : Nat) (docs : List Dc) (w : World) (h : RdQ w q z) (hbd : BdQ q) (hD : RdD w A docs) (hT : Tabs w) (hn : docs.length ≤ 1000) (hds : ∀ x ∈ docs, x.d.f0.size ≤ maxLen) (pj : S25 → S25) (hP : Proj w q z pj docs) :
    Calls Tryd.prog 24 #[qv q z, .slice A docs.length c] w (RunJ w q z pj docs) :=
  run_walk q z A c docs w _ h hbd hD hT hn hds (fun h1 _ hb => .inl ⟨h1, rfl, hb⟩) (fun h1 h2 _ hb => .inr (.inl ⟨h1, h2, rfl, hb⟩)) pj hP
    (fun h1 h2 l' ys r k _ hp hpw hm hk hlo => .inr (.inr ⟨h1, h2, l', ys, r, k, hp, hpw, hm, hk, hlo, rfl⟩))
end Go.Proofs.YtehdnjegipcpfaaDoor

namespace Go.Proofs.YtehdnjegipcpfaaDoor
open Go.RowKit Go.Proofs.YtehdnjegipcpfaaDoorW.PrintWords Go.Proofs.YtehdnjegipcpfaaDoorW.PrintLast Go.Proofs.YtehdnjegipcpfaaDoorW.PrintMore
open PFilterHolds PAns Go.Shelf Go.Sort
def z6 : S25 := ⟨6, 0, ⟨#[]⟩, [], []⟩
def q6 : Qy := ⟨z6, [], [], 0, 0⟩
def qa6 : Qa := ⟨none, 0, none, 0, none, 0, none, 0⟩
def d6 : Dc := ⟨⟨⟨#[97]⟩, z6⟩, none, 0, none, 0⟩
theorem c6 : checkQ q6 = 0 := by kernel_rfl
theorem s6 : scanJ [] [d6] = false := by kernel_rfl
theorem h6 : HoldsJ z6 z6 = true := by kernel_rfl
theorem one6 {w1 w' : World} {e : Ending} (h : RunJ w1 q6 qa6 id [d6] e w') : ∃ b o k, e = .returned (.tuple #[.slice (some ⟨b, o, none⟩) 1 k, .int .i64 0]) ∧ w'.cell? ⟨b, o, none⟩ = some (.string ⟨#[97]⟩) ∧ Below w1.heap.size w1 w' := by
  rcases h with ⟨h, _⟩ | ⟨_, h, _⟩ | ⟨_, _, l', ys, r, k, hp, _, hm, _, hlo, rfl⟩
  · exact absurd c6 h
  · rw [s6] at h; cases h
  · have h1 : outJ q6 [d6] = [d6] := by
      unfold outJ
      rw [List.filter_cons_of_pos (by exact h6)]
      rfl
    rw [h1] at hp
    obtain rfl : l' = [d6] := List.perm_singleton.1 hp
    have h2 : cutJ q6 [d6] = [d6] := rfl
    rw [h2] at hm
    cases ys with
    | nil => cases hm
    | cons y l =>
      have hl : l = [] := by
        have := congrArg List.length hm
        simp at this
        exact this
      subst hl
      obtain ⟨b, o, cs, rfl, _, hb, hc⟩ := hlo.get 0 y rfl
      have hy : y.d = ⟨d6.d.f0, d6.d.f1⟩ := by
        have := hm
        simp only [List.map_cons, List.map_nil, List.cons.injEq, and_true] at this
        exact this
      refine ⟨b, o, k, rfl, (blk_cell hb o).trans ?_, hlo.bl⟩
      have := hc 0 (.string y.d.f0) rfl
      rw [hy] at this
      rw [Nat.zero_mul, Nat.add_zero] at this
      exact this
set_option maxRecDepth 100000 in
set_option maxHeartbeats 1000000 in
theorem awakeR_any (w : World) (hT : Tabs w) : Calls Tryd.prog 22 #[] w fun e w' => e = .returned (.bool true) ∧ Below w.heap.size w w' := by
  have hb0 := below_alloc (Below.refl w.heap.size w) (.cells (encD d6).toArray 42)
  have hk0 := new_blk w (.cells (encD d6).toArray 42)
  have hR6 : ∀ W : World, Rd W none 0 none 0 z6 := fun W => ⟨Nat.le_refl _, Kd.C_nil _ _, Nat.le_refl _, Kd.C_nil _ _⟩
  have hlt : w.heap.size < (w.alloc (.cells (encD d6).toArray 42)).heap.size := by simp
  have hD : RdD (w.alloc (.cells (encD d6).toArray 42)) (some ⟨w.heap.size, 0, none⟩) [d6] := ⟨fun j x hx => by
    cases j with
    | zero =>
      obtain rfl : d6 = x := by simpa using hx
      exact ⟨w.heap.size, 0, rfl, hlt, (blk_cell hk0 0).trans rfl, (blk_cell hk0 1).trans rfl, (blk_cell hk0 2).trans rfl, (blk_cell hk0 3).trans rfl, (blk_cell hk0 4).trans rfl, (blk_cell hk0 5).trans rfl, hR6 _⟩
    | succ j => simp at hx⟩
  have hC := run_any q6 qa6 (some ⟨w.heap.size, 0, none⟩) 1 [d6] _ ⟨hR6 _, Kd.C_nil _ _, Kd.C_nil _ _⟩ ⟨(fun _ h => nomatch h), (fun _ h => nomatch h), by decide, by decide⟩ hD (hT.below hb0) (by decide) (by intro x hx; obtain rfl := List.mem_singleton.1 hx; decide) id (proj_none _ _ _ _ rfl)
  replace hC := hC.mono (fun _ _ h => one6 h)
  have hb1 := hb0
  have HB0 := Lib.hid hb1
  clear hb0 hb1 hk0 hD hT hlt hR6
  simp only [qv, q6, qa6, z6, List.length_nil, List.length_singleton] at hC
  go_enter Tryd.func22, Tryd.ntmps22
  go_wp2_with fail
  refine hC.mono ?_; rintro e w1 ⟨b, o, k, rfl, hcell, hb⟩
  have HB := Lib.hid hb; clear hb hC
  go_wp2_with fail
  go_ret
  exact ⟨rfl, HB0.out.trans (HB.out.mono HB0.out.size)⟩
end Go.Proofs.YtehdnjegipcpfaaDoor
