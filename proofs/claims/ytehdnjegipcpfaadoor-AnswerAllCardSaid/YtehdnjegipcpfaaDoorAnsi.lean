/-
  few of the laws of the answers: what it answers, wherever its arguments lie.
  A row's arguments of the query's type and of the documents' type are read; no condition.
  The plain law of AnswerAll: what a sorted permutation of the filtered documents says.
-/
import Derived.Test.YtehdnjegipcpfaaDoorAns3
import Derived.Test.YtehdnjegipcpfaaDoorAnsd
import Derived.Test.YtehdnjegipcpfaaDoorOpen
import Derived.Test.YtehdnjegipcpfaaDoorAnsb
namespace Go.Proofs.YtehdnjegipcpfaaDoor
open Go.RowKit Go.Proofs.YtehdnjegipcpfaaDoorW.PrintWords Go.Proofs.YtehdnjegipcpfaaDoorW.PrintLast Go.Proofs.YtehdnjegipcpfaaDoorW.PrintMore
open PFilterHolds PAns Go.Shelf
theorem heap25 : Kd.Heap k25 := Kd.heap_fix (fun _ hd => Kd.heap_iso _ (Kd.heap_pair (Kd.heap_int _) (Kd.heap_pair (Kd.heap_int _) (Kd.heap_pair Kd.heap_string (Kd.heap_pair (Kd.heap_slice 9 Kd.heap_string) (Kd.heap_slice 25 hd))))))
theorem heap42 : Kd.Heap k42 := Kd.heap_iso _ (Kd.heap_pair Kd.heap_string heap25)
theorem docs_any (docs : List S42) (A : Option Addr) (c : Nat) (w : World) (h : Kd.C k42 w A docs.length docs) (hc : docs.length ≤ c) (hl : docs.length ≤ 40) :
    Calls Tryd.prog 26 #[.slice A docs.length c] w fun e w' => ∃ B d, e = .returned (.slice B docs.length d) ∧ docs.length ≤ d ∧ Kd.C k72 w' B docs.length (docs.map s72) ∧ Below w.heap.size w w' := by
  refine (munimentlaw16_plainDocs.calls (docs.length + 1) (fun k => k < w.heap.size) A c docs (docs.map s72) w (Kd.V_mk hc (Kd.C_F heap42 h)) (docs_f docs hl _ (Nat.lt_succ_self _))).mono ?_
  rintro e w' ⟨v, rfl, hN, hb⟩
  obtain ⟨B, d, rfl, hd, hC⟩ := Kd.N_reads hN
  rw [List.length_map] at hd hC ⊢
  exact ⟨B, d, rfl, hd, hC, hb⟩
structure Fw (q : Qy) (docs : List S42) : Prop where
  so : q.sort.length ≤ 20
  fi : q.flds.length ≤ 20
  ds : docs.length ≤ 40
  sos : ∀ o ∈ q.sort, o.f0.size ≤ 1000
  fis : ∀ s ∈ q.flds, s.size ≤ 1000
  dss : ∀ x ∈ docs, x.f0.size ≤ 1000
theorem Fw.bd {q : Qy} {docs : List S42} (h : Fw q docs) : BdQ q :=
  ⟨fun o ho => Nat.le_trans (h.sos o ho) (by decide), fun s hs => Nat.le_trans (h.fis s hs) (by decide), Nat.le_trans h.so (by decide), Nat.le_trans h.fi (by decide)⟩
structure Rm (q : Qy) (z : Qa) : Prop where
  so : q.sort.length ≤ z.so
  fi : q.flds.length ≤ z.fi
set_option maxRecDepth 100000 in
set_option maxHeartbeats 1000000 in
theorem few_any (q : Qy) (docs : List S42) : ∃ r : Bool, (r = true → Fw q docs) ∧ ∀ (z : Qa) (A : Option Addr) (c : Nat) (w : World), RdQ w q z → Rm q z → Kd.C k42 w A docs.length docs → docs.length ≤ c →
    Calls Tryd.prog 23 #[qv q z, .slice A docs.length c] w fun e w' => e = .returned (.bool r) ∧ Below w.heap.size w w' := by
  by_cases hc : docs.length ≤ 40 ∧ q.sort.length ≤ 20
  · obtain ⟨hc1, hc2⟩ := hc
    obtain ⟨k, r, hk, hr⟩ := few16_tot q.flt (q.sort.map s83) q.flds q.skip q.lim (docs.map s72)
    refine ⟨r, fun e => ?_, fun z A c w hQ hM hD hcd => ?_⟩
    · obtain ⟨h1, h2, h3, h4, h5, h6⟩ := hr e
      exact ⟨hc2, h2, hc1, fun o ho => h4 (s83 o) (List.mem_map_of_mem ho), h5, fun x hx => h6 (s72 x) (List.mem_map_of_mem hx)⟩
    · have hb0 := below_alloc (Below.refl w.heap.size w) (.cells (cs38 q z) 38)
      have hP := fun W (hb : Below w.heap.size w W) => plain_any q z W (Kd.C_below hQ.so hb) (by omega)
      have hDs := fun W (hb : Below w.heap.size w W) => docs_any docs A c W (Kd.C_below hD hb) hcd hc1
      have hF := fun B d B2 d2 W (hb : Below w.heap.size w W) (h1 : q.sort.length ≤ d) (h2 : Kd.C k83 W B q.sort.length (q.sort.map s83)) (h3 : docs.length ≤ d2) (h4 : Kd.C k72 W B2 docs.length (docs.map s72)) =>
        munimentref16_Few.calls k q.flt.f0 q.flt.f1 q.flt.f2 z.F3 z.f3 q.flt.f3 z.F4 z.f4 q.flt.f4 B d (q.sort.map s83) z.Fi z.fi q.flds q.skip q.lim B2 d2 (docs.map s72) r W (hQ.below hb).rd.g3 hQ.rd.l3 (hQ.below hb).rd.g4 hQ.rd.l4 (by rw [List.length_map]; exact h2) (by rw [List.length_map]; exact h1) (hQ.below hb).fi hM.fi (by rw [List.length_map]; exact h4) (by rw [List.length_map]; exact h3) hk
      simp only [List.length_map] at hF
      have hP0 := hP _ hb0
      have HB0 := Lib.hid hb0; clear hb0
      have HP := Lib.hid hP; clear hP
      have HDs := Lib.hid hDs; clear hDs
      have HF := Lib.hid hF; clear hF
      clear hQ hM hD hk hr
      obtain ⟨⟨x0, x1, x2, x3, x4⟩, srt, fl, sk, lm⟩ := q
      obtain ⟨F3, f3, F4, f4, So, so, Fi, fi⟩ := z
      simp only [qv, cs38] at hP0 HF HP HDs HB0 hc2 ⊢
      have t1 : decide ((docs.length : Int) ≤ 40) = true := decide_eq_true (by omega)
      have t2 : decide ((srt.length : Int) ≤ 20) = true := decide_eq_true (by omega)
      clear hc1 hc2
      go_enter Tryd.func23, Tryd.ntmps23
      go_wp2_with fail
      refine hP0.mono ?_; rintro e w1 ⟨B, d, rfl, h1, h2, hb⟩
      have hb1 := HB0.out.trans (hb.mono HB0.out.size)
      have hD1 := HDs.out w1 hb1
      have HC := Lib.hid h2; clear h2
      have HL := Lib.hid h1; clear h1
      have HB1 := Lib.hid hb1; clear hb1 hb hP0 HB0
      go_wp2_with fail
      refine hD1.mono ?_; rintro e w2 ⟨B2, d2, rfl, h3, h4, hb⟩
      have hb2 := HB1.out.trans (hb.mono HB1.out.size)
      have hF1 := HF.out B d B2 d2 w2 hb2 HL.out (Kd.C_below HC.out hb) h3 h4
      have HB2 := Lib.hid hb2; clear hb2 hb hD1 HB1 h3 h4
      go_wp2_with fail
      refine hF1.mono ?_; rintro e w3 ⟨rfl, hb⟩
      have HB3 := Lib.hid hb; clear hb hF1
      go_wp2_with fail
      go_ret
      exact ⟨rfl, HB2.out.trans (HB3.out.mono HB2.out.size)⟩
  · refine ⟨false, (fun e => nomatch e), fun z A c w hQ hM hD hcd => ?_⟩
    have hb0 := below_alloc (Below.refl w.heap.size w) (.cells (cs38 q z) 38)
    have HB0 := Lib.hid hb0; clear hb0
    clear hQ hM hD hcd
    obtain ⟨⟨x0, x1, x2, x3, x4⟩, srt, fl, sk, lm⟩ := q
    obtain ⟨F3, f3, F4, f4, So, so, Fi, fi⟩ := z
    simp only [qv, cs38] at HB0 hc ⊢
    by_cases c1 : docs.length ≤ 40
    · have t1 : decide ((docs.length : Int) ≤ 40) = true := decide_eq_true (by omega)
      have t2 : decide ((srt.length : Int) ≤ 20) = false := decide_eq_false (by omega)
      clear hc c1
      go_enter Tryd.func23, Tryd.ntmps23
      go_wp2_with fail
      go_ret
      exact ⟨rfl, HB0.out⟩
    · have t1 : decide ((docs.length : Int) ≤ 40) = false := decide_eq_false (by omega)
      clear hc c1
      go_enter Tryd.func23, Tryd.ntmps23
      go_wp2_with fail
      go_ret
      exact ⟨rfl, HB0.out⟩
end Go.Proofs.YtehdnjegipcpfaaDoor

namespace Go.Proofs.YtehdnjegipcpfaaDoor
open Go.ChangeShapes Go.WideShapes Go.ChangeAt Go.RowKit Go.Lib
open Go.Proofs.YtehdnjegipcpfaaDoorW.PrintWords Go.Proofs.YtehdnjegipcpfaaDoorW.PrintLast Go.Proofs.YtehdnjegipcpfaaDoorW.PrintMore
open PFilterHolds PAns Go.Shelf
theorem cells38 : Tryd.prog.cellsOf 38 = 9 := by kernel_rfl
theorem cells42 : Tryd.prog.cellsOf 42 = 6 := by kernel_rfl
theorem cells84 : Tryd.prog.cellsOf 84 = 2 := by kernel_rfl
theorem cells36 : Tryd.prog.cellsOf 36 = 1 := by kernel_rfl
theorem cells4 : Tryd.prog.cellsOf 4 = 1 := by kernel_rfl
section
variable {H : Type} {enc : TypeId × Value → H} {w : World} {base : Nat} {spare : Nat → Bool} {held : Bool}
set_option maxRecDepth 100000 in
theorem open_order (n : Nat) (cs : List Value) (x : DataW H × List MemPlace) (h : DataW.trod enc Tryd.prog w base spare held n 84 cs = some x) : ∃ v : S84, k84.K w v cs := by
  obtain ⟨xs, m, _, _, hcl, hlen, hg⟩ := DataW.trod_struct Tryd.underlying84 h
  rw [cells84] at hcl
  match cs, hcl with
  | [k0, k1], _ =>
    have hxs : xs.length = 2 := hlen
    have g0 : DataW.trod enc Tryd.prog w base spare held m 9 (([k0, k1].drop 0).take (Tryd.prog.cellsOf 9)) = xs[0]? := hg 0 _ rfl
    have g1 : DataW.trod enc Tryd.prog w base spare held m 4 (([k0, k1].drop 1).take (Tryd.prog.cellsOf 4)) = xs[1]? := hg 1 _ rfl
    rw [cells9, List.getElem?_eq_getElem (by omega)] at g0
    rw [cells4, List.getElem?_eq_getElem (by omega)] at g1
    obtain ⟨s, e0, _⟩ := DataW.trod_string Tryd.underlying9 g0
    obtain ⟨b, e1, _⟩ := DataW.trod_bool Tryd.underlying4 g1
    have e0' : k0 = .string s := by simpa using e0
    have e1' : k1 = .bool b := by simpa using e1
    subst e0' e1'
    exact ⟨⟨s, b⟩, k84_mk w ⟨s, b⟩⟩
set_option maxRecDepth 100000 in
theorem open_docS (n : Nat) (cs : List Value) (x : DataW H × List MemPlace) (h : DataW.trod enc Tryd.prog w base spare held n 42 cs = some x) : ∃ v : S42, k42.K w v cs := by
  obtain ⟨xs, m, _, _, hcl, hlen, hg⟩ := DataW.trod_struct Tryd.underlying42 h
  rw [cells42] at hcl
  match cs, hcl with
  | [k0, k1, k2, k3, k4, k5], _ =>
    have hxs : xs.length = 2 := hlen
    have g0 : DataW.trod enc Tryd.prog w base spare held m 9 (([k0, k1, k2, k3, k4, k5].drop 0).take (Tryd.prog.cellsOf 9)) = xs[0]? := hg 0 _ rfl
    have g1 : DataW.trod enc Tryd.prog w base spare held m 25 (([k0, k1, k2, k3, k4, k5].drop 1).take (Tryd.prog.cellsOf 25)) = xs[1]? := hg 1 _ rfl
    rw [cells9, List.getElem?_eq_getElem (by omega)] at g0
    rw [cells25, List.getElem?_eq_getElem (by omega)] at g1
    obtain ⟨s, e0, _⟩ := DataW.trod_string Tryd.underlying9 g0
    obtain ⟨v, A3, c3, A4, c4, e1, hR⟩ := open_value m _ _ g1
    have e0' : k0 = .string s := by simpa using e0
    have e1' : [k1, k2, k3, k4, k5] = [.int .i64 v.f0, .int .i64 v.f1, .string v.f2, .slice A3 v.f3.length c3, .slice A4 v.f4.length c4] := by simpa using e1
    subst e0'
    rw [e1']
    exact ⟨⟨s, v⟩, k42_mk w ⟨s, v⟩ hR.l3 hR.g3 hR.l4 hR.g4⟩
set_option maxRecDepth 100000 in

theorem open_docs {r : Reach} {b0 : Nat} {v : Value} {d : DataW H} {p : List MemPlace} (hv : Value.okWide Tryd.prog w r b0 39 v) (h : DataW.Trod enc Tryd.prog w base spare held 39 v d p) :
    ∃ (docs : List S42) (A : Option Addr) (c : Nat), v = .slice A docs.length c ∧ docs.length ≤ c ∧ Kd.C k42 w A docs.length docs := by
  obtain ⟨a, len, cap, rfl⟩ := okWide_slice Tryd.underlying39 hv
  obtain ⟨fuel, hf⟩ := h
  obtain ⟨A, c, l, e, hl, hC⟩ := row_of k42 Tryd.prog 42 cells42 fuel 39 Tryd.underlying39 _ _ (fun m cs' y _ hy => open_docS m cs' y hy) hf
  have e' : Value.slice a len cap = .slice A l.length c := by simpa [Value.cells] using e
  injection e' with e1 e2 e3
  subst e1 e2 e3
  exact ⟨l, a, cap, rfl, hl, hC⟩
set_option maxRecDepth 100000 in

theorem open_query {r : Reach} {b0 : Nat} {v : Value} {d : DataW H} {p : List MemPlace} (hv : Value.okWide Tryd.prog w r b0 38 v) (h : DataW.Trod enc Tryd.prog w base spare held 38 v d p) :
    ∃ (q : Qy) (z : Qa), v = qv q z ∧ RdQ w q z ∧ Rm q z := by
  obtain ⟨cs, rfl, hsz⟩ := okWide_struct Tryd.underlying38 hv
  obtain ⟨fuel, hf⟩ := h
  obtain ⟨xs, m, _, _, hcl, hlen, hg⟩ := DataW.trod_struct Tryd.underlying38 hf
  rw [cells38] at hcl
  have hcs : (Value.agg cs).cells.toList = cs.toList := rfl
  rw [hcs] at hcl hg
  obtain ⟨L, hL⟩ : ∃ L, cs.toList = L := ⟨_, rfl⟩
  rw [hL] at hcl hg
  match L, hcl with
  | [k0, k1, k2, k3, k4, k5, k6, k7, k8], _ =>
    have hxs : xs.length = 5 := hlen
    have g0 : DataW.trod enc Tryd.prog w base spare held m 25 (([k0, k1, k2, k3, k4, k5, k6, k7, k8].drop 0).take (Tryd.prog.cellsOf 25)) = xs[0]? := hg 0 _ rfl
    have g1 : DataW.trod enc Tryd.prog w base spare held m 36 (([k0, k1, k2, k3, k4, k5, k6, k7, k8].drop 5).take (Tryd.prog.cellsOf 36)) = xs[1]? := hg 1 _ rfl
    have g2 : DataW.trod enc Tryd.prog w base spare held m 22 (([k0, k1, k2, k3, k4, k5, k6, k7, k8].drop 6).take (Tryd.prog.cellsOf 22)) = xs[2]? := hg 2 _ rfl
    have g3 : DataW.trod enc Tryd.prog w base spare held m 3 (([k0, k1, k2, k3, k4, k5, k6, k7, k8].drop 7).take (Tryd.prog.cellsOf 3)) = xs[3]? := hg 3 _ rfl
    have g4 : DataW.trod enc Tryd.prog w base spare held m 3 (([k0, k1, k2, k3, k4, k5, k6, k7, k8].drop 8).take (Tryd.prog.cellsOf 3)) = xs[4]? := hg 4 _ rfl
    rw [cells25, List.getElem?_eq_getElem (by omega)] at g0
    rw [cells36, List.getElem?_eq_getElem (by omega)] at g1
    rw [cells22, List.getElem?_eq_getElem (by omega)] at g2
    rw [cells3, List.getElem?_eq_getElem (by omega)] at g3
    rw [cells3, List.getElem?_eq_getElem (by omega)] at g4
    obtain ⟨f, F3, f3, F4, f4, e0, hR⟩ := open_value m _ _ g0
    obtain ⟨So, so, srt, e1, hl1, hC1⟩ := row_of k84 Tryd.prog 84 cells84 m 36 Tryd.underlying36 _ _ (fun m cs' y _ hy => open_order m cs' y hy) g1
    obtain ⟨Fi, fi, fl, e2, hl2, hC2⟩ := row_of Kd.string Tryd.prog 9 cells9 m 22 Tryd.underlying22 _ _ (fun m cs' y _ hm => by
      obtain ⟨s, hs, _⟩ := DataW.trod_string Tryd.underlying9 hm
      exact ⟨s, hs⟩) g2
    obtain ⟨n3, e3, _⟩ := DataW.trod_int Tryd.underlying3 g3
    obtain ⟨n4, e4, _⟩ := DataW.trod_int Tryd.underlying3 g4
    have e0' : [k0, k1, k2, k3, k4] = [.int .i64 f.f0, .int .i64 f.f1, .string f.f2, .slice F3 f.f3.length f3, .slice F4 f.f4.length f4] := by simpa using e0
    have e1' : k5 = .slice So srt.length so := by simpa using e1
    have e2' : k6 = .slice Fi fl.length fi := by simpa using e2
    have e3' : k7 = .int .i64 n3 := by simpa using e3
    have e4' : k8 = .int .i64 n4 := by simpa using e4
    subst e1' e2' e3' e4'
    refine ⟨⟨f, srt, fl, n3, n4⟩, ⟨F3, f3, F4, f4, So, so, Fi, fi⟩, ?_, ⟨hR, hC1, hC2⟩, ⟨hl1, hl2⟩⟩
    simp only [List.cons.injEq, and_true] at e0'
    obtain ⟨rfl, rfl, rfl, rfl, rfl⟩ := e0'
    have : cs = cs38 ⟨f, srt, fl, n3, n4⟩ ⟨F3, f3, F4, f4, So, so, Fi, fi⟩ := by
      apply Array.toList_inj.1
      rw [hL]
    rw [this]
end
end Go.Proofs.YtehdnjegipcpfaaDoor

namespace Go.Proofs.YtehdnjegipcpfaaDoor
open Go.RowKit Go.Proofs.YtehdnjegipcpfaaDoorW.PrintWords Go.Proofs.YtehdnjegipcpfaaDoorW.PrintLast Go.Proofs.YtehdnjegipcpfaaDoorW.PrintMore
open PFilterHolds PAns Go.Shelf Go.Sort
theorem ba_ext {a b : ByteArray} (h : a.toList = b.toList) : a = b := by
  rw [Lib.toList_data, Lib.toList_data] at h
  exact ByteArray.ext (Array.ext' h)
theorem ba_iff (a b : ByteArray) : (a.toList == b.toList) = decide (a = b) := by
  by_cases h : a = b
  · subst h; simp
  · rw [decide_eq_false h]
    exact beq_eq_false_iff_ne.2 (fun e => h (ba_ext e))
theorem less_total : ∀ a b : List UInt8, Op.bytesLess a b = false → Op.bytesLess b a = false → a = b := by
  intro a b h1 h2
  rw [bytesLess_eq] at h1 h2
  exact List.le_antisymm (of_decide_eq_false h2) (of_decide_eq_false h1)
theorem cmpS_nil {a b : ByteArray} (h : cmpS a b = 0) : a = b := by
  unfold cmpS at h
  cases h1 : Op.bytesLess a.toList b.toList with
  | true => rw [h1] at h; cases h
  | false =>
    cases h2 : Op.bytesLess b.toList a.toList with
    | true => rw [h1, h2] at h; cases h
    | false => exact ba_ext (less_total _ _ h1 h2)
theorem scan_false : ∀ (l : List Dc) (ids : List ByteArray), scanJ ids l = false → (l.map fun x => x.d.f0).Nodup ∧ ∀ x ∈ l, docJ x.d = true ∧ x.d.f0 ∉ ids
  | [], _, _ => ⟨List.nodup_nil, fun _ h => nomatch h⟩
  | x :: l, ids, h => by
    unfold scanJ at h
    rw [Bool.or_eq_false_iff, Bool.or_eq_false_iff] at h
    obtain ⟨⟨h1, h2⟩, h3⟩ := h
    obtain ⟨g1, g2⟩ := scan_false l _ h3
    refine ⟨List.nodup_cons.2 ⟨fun hm => ?_, g1⟩, fun y hy => ?_⟩
    · obtain ⟨y, hy, e⟩ := List.mem_map.1 hm
      exact (g2 y hy).2 (List.mem_append.2 (.inr (List.mem_singleton.2 e)))
    · rcases List.mem_cons.1 hy with rfl | hy
      · refine ⟨by simpa using h1, fun hm => ?_⟩
        rw [memB_true hm] at h2
        cases h2
      · exact ⟨(g2 y hy).1, fun hm => (g2 y hy).2 (List.mem_append.2 (.inl hm))⟩
theorem nodup_inj {α β : Type} (f : α → β) : ∀ {l : List α}, (l.map f).Nodup → ∀ x ∈ l, ∀ y ∈ l, f x = f y → x = y
  | [], _, x, hx, _, _, _ => nomatch hx
  | a :: l, h, x, hx, y, hy, e => by
    rw [List.map_cons, List.nodup_cons] at h
    have hm : ∀ u ∈ l, f u ≠ f a := fun u hu he => h.1 (he ▸ List.mem_map_of_mem hu)
    rcases List.mem_cons.1 hx with h1 | h1
    · rcases List.mem_cons.1 hy with h2 | h2
      · rw [h1, h2]
      · exact absurd (by rw [← e, h1]) (hm y h2)
    · rcases List.mem_cons.1 hy with h2 | h2
      · exact absurd (by rw [e, h2]) (hm x h1)
      · exact nodup_inj f h.2 x h1 y h2 e
theorem count_one {α β : Type} [DecidableEq β] (f : α → β) : ∀ {l : List α}, (l.map f).Nodup → ∀ x ∈ l, (l.filter fun y => decide (f y = f x)).length = 1
  | [], _, x, hx => nomatch hx
  | a :: l, h, x, hx => by
    rw [List.map_cons, List.nodup_cons] at h
    by_cases e : f a = f x
    · rw [List.filter_cons_of_pos (by simpa using e)]
      have : l.filter (fun y => decide (f y = f x)) = [] := by
        rw [List.filter_eq_nil_iff]
        intro y hy he
        exact h.1 (by rw [e, ← of_decide_eq_true he]; exact List.mem_map_of_mem hy)
      rw [this]
      rfl
    · rw [List.filter_cons_of_neg (by simpa using e)]
      rcases List.mem_cons.1 hx with rfl | hx
      · exact absurd rfl e
      · exact count_one f h.2 x hx
structure AllP (srt : List S84) (P : S42 → Bool) (D Y : List S42) : Prop where
  pm : Y.Perm (D.filter P)
  pw : Y.Pairwise (fun a b => ¬ compJ srt b a < 0)
  nd : (D.map S42.f0).Nodup
theorem AllP.ndY {srt : List S84} {P : S42 → Bool} {D Y : List S42} (h : AllP srt P D Y) : (Y.map S42.f0).Nodup :=
  ((h.pm.map S42.f0).nodup_iff).2 (h.nd.sublist (List.filter_sublist.map _))
theorem AllP.one {srt : List S84} {P : S42 → Bool} {D Y : List S42} (h : AllP srt P D Y) (x : S42) (hx : x ∈ D) (hP : P x = true) : (Y.filter fun y => y.f0.toList == x.f0.toList).length = 1 := by
  have := count_one S42.f0 h.ndY x (h.pm.mem_iff.2 (List.mem_filter.2 ⟨hx, hP⟩))
  simpa only [ba_iff] using this
theorem AllP.same {srt : List S84} {P : S42 → Bool} {D Y : List S42} (h : AllP srt P D Y) (x y : S42) (hx : x ∈ D) (hy : y ∈ Y) (e : (y.f0.toList == x.f0.toList) = true) : y = x := by
  rw [ba_iff] at e
  exact nodup_inj S42.f0 h.nd y (List.mem_filter.1 (h.pm.mem_iff.1 hy)).1 x hx (of_decide_eq_true e)
theorem AllP.len {srt : List S84} {P : S42 → Bool} {D Y : List S42} (h : AllP srt P D Y) : (D.filter P).length = Y.length := h.pm.length_eq.symm
theorem AllP.less {srt : List S84} {P : S42 → Bool} {D Y : List S42} (h : AllP srt P D Y) (i : Nat) (a b : S42) (ha : Y[i]? = some a) (hb : Y[i + 1]? = some b) : compJ srt a b < 0 ∧ ¬ compJ srt b a < 0 := by
  obtain ⟨hi, rfl⟩ := List.getElem?_eq_some_iff.1 ha
  obtain ⟨hj, rfl⟩ := List.getElem?_eq_some_iff.1 hb
  have h1 := List.pairwise_iff_getElem.1 h.pw i (i + 1) hi hj (by omega)
  have h2 := compJ_neg srt Y[i] Y[i + 1]
  refine ⟨?_, h1⟩
  by_cases h0 : compJ srt Y[i] Y[i + 1] = 0
  · exfalso
    have e := cmpS_nil (compJ_zero srt _ _ h0)
    have h3 := h.ndY
    rw [List.nodup_iff_pairwise_ne] at h3
    have h4 := List.pairwise_iff_getElem.1 h3 i (i + 1) (by simpa using hi) (by simpa using hj) (by omega)
    simp only [List.getElem_map] at h4
    exact h4 e
  · omega
end Go.Proofs.YtehdnjegipcpfaaDoor
