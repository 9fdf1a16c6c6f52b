/-
  The contracts of answer.bad, answer.Check and of slices.ContainsFunc over orders and over texts; under utf8's tables.
  The contract of answer.Check; under utf8's tables.
  Plain laws: what holds of the filters that the statements build; no condition. Plain laws: two formed values compare as 0 just where they are alike; what the tests of a member say together; no condition. Plain laws: what the tests of a member say together; no condition.
  Values that a law builds out of values: how they are read; the contract of the laws' few; no condition.
  plain of the laws of the answers: a query as the reference has it.
  The contracts of path.Get at values that are not formed, of answer.at, compare, Less and document; under utf8's tables.
-/
import Derived.Test.YtehdnjegipcpfaaDoorHold
import Derived.Test.YtehdnjegipcpfaaDoorAx0
import Derived.Test.YtehdnjegipcpfaaDoorPath
namespace Go.Proofs.YtehdnjegipcpfaaDoor
open Go.RowKit Go.Proofs.YtehdnjegipcpfaaDoorW.PrintWords Go.Proofs.YtehdnjegipcpfaaDoorW.PrintLast Go.Proofs.YtehdnjegipcpfaaDoorW.PrintMore
open PFilterHolds PAns Go.Shelf
theorem order_of {w : World} {A : Option Addr} {n : Nat} {xs : List S84} (h : Kd.C k84 w A n xs) (hn : n = xs.length) (i : Nat) (x : S84) (hx : xs[i]? = some x) :
    ∃ b o, A = some ⟨b, o, none⟩ ∧ b < w.heap.size ∧ w.cell? ⟨b, o + i * 2, none⟩ = some (.string x.f0) ∧ w.cell? ⟨b, o + i * 2 + 1, none⟩ = some (.bool x.f1) := by
  obtain ⟨hi, rfl⟩ := List.getElem?_eq_some_iff.1 hx
  obtain ⟨ad0, e0, k0, _⟩ := at_T84 h (0 : Int) (by omega) (by omega)
  obtain ⟨ad, e, h0, h1⟩ := at_T84 h (i : Int) (by omega) (by omega)
  obtain rfl : ad0 = ad := by rw [e0] at e; injection e
  have hr : rd_T84 xs (i : Int) = xs[i] := by unfold rd_T84; simp [hi]
  rw [hr] at h0 h1
  obtain ⟨b, o, s⟩ := ad0
  have hs : s = none := by simpa [Addr.add] using World.cell?_spot k0
  subst hs
  rw [Int.toNat_natCast, Addr.add_lit] at h0 h1
  exact ⟨b, o, e, World.block_lt_of_cell? w _ h0, h0, h1⟩
def idxA {α : Type} (p : α → Bool) : List α → Nat → Int
  | [], _ => -1
  | x :: xs, i => if p x then i else idxA p xs (i + 1)
theorem idxA_any {α : Type} (p : α → Bool) : ∀ (xs : List α) (i : Nat), decide (0 ≤ idxA p xs i) = xs.any p
  | [], _ => by simp [idxA]
  | x :: xs, i => by
    unfold idxA
    cases h : p x with
    | true => simp [h]
    | false => simpa [h] using idxA_any p xs (i + 1)
def PredO (g : Nat) (lb : Array Value) (p : S84 → Bool) (xs : List S84) (w : World) : Prop :=
  ∀ x ∈ xs, ∀ (W : World), Below w.heap.size w W → Calls Tryd.prog g (#[.agg #[.string x.f0, .bool x.f1]] ++ lb) W fun e w' => e = .returned (.bool (p x)) ∧ Below W.heap.size W w'
def PredM (g : Nat) (lb : Array Value) (p : ByteArray → Bool) (xs : List ByteArray) (w : World) : Prop :=
  ∀ x ∈ xs, ∀ (W : World), Below w.heap.size w W → Calls Tryd.prog g (#[.string x] ++ lb) W fun e w' => e = .returned (.bool (p x)) ∧ Below W.heap.size W w'
set_option maxHeartbeats 2000000 in
theorem index_ord (g : Nat) (lb : Array Value) (p : S84 → Bool) (eg : ∀ args w, (callFunc g args).run Tryd.prog w = .ok (.enter g args) w) (A : Option Addr) (c : Nat) (xs : List S84) (w : World) (h : Kd.C k84 w A xs.length xs) (hp : PredO g lb p xs w) (hbig : xs.length ≤ 1000000) :
    Calls Tryd.prog 103 #[.slice A xs.length c, .func (.func g) #[] lb] w fun e w' => e = .returned (.int .i64 (idxA p xs 0)) ∧ Below w.heap.size w w' := by
  have HC := Lib.hid h; clear h
  have HP := Lib.hid hp; clear hp
  go_enter Tryd.func103, Tryd.ntmps103
  go_wp2
  go_loopw [5, 8] (fun v5 v8 wr => ∃ k : Nat, k ≤ xs.length ∧ v8 = .int .i64 k ∧ idxA p xs 0 = idxA p (xs.drop k) k ∧ Below w.heap.size w wr) (fun _ v8 _ => xs.length - (intOf v8).toNat)
  case atStart => exact ⟨0, Nat.zero_le _, rfl, rfl, Below.refl _ _⟩
  case round =>
    obtain ⟨k, hk, rfl, hI, hB⟩ := hrel
    have HI := Lib.hid hI; clear hI
    have HB := Lib.hid hB; clear hB
    by_cases hlt : k < xs.length
    · have hki : (k : Int) < (xs.length : Int) := by omega
      obtain ⟨x, hx⟩ : ∃ x, xs[k]? = some x := ⟨_, List.getElem?_eq_getElem hlt⟩
      obtain ⟨b, o, rfl, hb, e0, e1⟩ := order_of HC.out rfl k x hx
      have hcall := HP.out x (List.mem_of_getElem? hx) wr HB.out
      replace e0 := (HB.out.cell (World.block_lt_of_cell? w _ e0)).trans e0
      replace e1 := (HB.out.cell (World.block_lt_of_cell? w _ e1)).trans e1
      have hd : xs.drop k = x :: xs.drop (k + 1) := by
        obtain ⟨hi, rfl⟩ := List.getElem?_eq_some_iff.1 hx
        exact List.drop_eq_getElem_cons hi
      have HD := Lib.hid hd; clear hd
      clear hx
      obtain ⟨x0, x1⟩ := x
      cases hq : p ⟨x0, x1⟩ with
      | true =>
        rw [hq] at hcall
        have HQ := Lib.hid hq; clear hq
        go_wp2
        refine hcall.mono ?_; rintro e w' ⟨rfl, hb'⟩
        have HB' := Lib.hid hb'; clear hb'
        go_wp2
        go_ret
        refine ⟨?_, HB.out.trans (HB'.out.mono HB.out.size)⟩
        rw [HI.out, HD.out]
        unfold idxA
        rw [HQ.out, if_pos rfl]
        rfl
      | false =>
        rw [hq] at hcall
        have HQ := Lib.hid hq; clear hq
        go_wp2
        refine hcall.mono ?_; rintro e w' ⟨rfl, hb'⟩
        have HB' := Lib.hid hb'; clear hb'
        go_wp2
        go_roundw
        case rel =>
          refine ⟨k + 1, by omega, by go_num, ?_, HB.out.trans (HB'.out.mono HB.out.size)⟩
          rw [HI.out, HD.out]
          conv => lhs; unfold idxA
          rw [HQ.out]
          rfl
        case measure => simp [intOf]; omega
    · obtain rfl : k = xs.length := by omega
      go_wp2
      go_ret
      refine ⟨?_, HB.out⟩
      rw [HI.out, List.drop_length]
      rfl
theorem contains_ord (g : Nat) (lb : Array Value) (p : S84 → Bool) (eg : ∀ args w, (callFunc g args).run Tryd.prog w = .ok (.enter g args) w) (A : Option Addr) (c : Nat) (xs : List S84) (w : World) (h : Kd.C k84 w A xs.length xs) (hp : PredO g lb p xs w) (hbig : xs.length ≤ 1000000) :
    Calls Tryd.prog 64 #[.slice A xs.length c, .func (.func g) #[] lb] w fun e w' => e = .returned (.bool (xs.any p)) ∧ Below w.heap.size w w' := by
  have hI := index_ord g lb p eg A c xs w h hp hbig
  rw [← idxA_any p xs 0]
  generalize idxA p xs 0 = i at hI
  clear h hp
  go_enter Tryd.func64, Tryd.ntmps64
  go_wp2_with fail
  refine hI.mono ?_; rintro e w' ⟨rfl, hb⟩
  go_wp2
  go_ret
  exact ⟨by simp, hb⟩
set_option maxHeartbeats 2000000 in
theorem index_strm (g : Nat) (lb : Array Value) (p : ByteArray → Bool) (eg : ∀ args w, (callFunc g args).run Tryd.prog w = .ok (.enter g args) w) (A : Option Addr) (c : Nat) (xs : List ByteArray) (w : World) (h : Kd.C Kd.string w A xs.length xs) (hp : PredM g lb p xs w) (hbig : xs.length ≤ 1000000) :
    Calls Tryd.prog 104 #[.slice A xs.length c, .func (.func g) #[] lb] w fun e w' => e = .returned (.int .i64 (idxA p xs 0)) ∧ Below w.heap.size w w' := by
  have HC := Lib.hid h; clear h
  have HP := Lib.hid hp; clear hp
  go_enter Tryd.func104, Tryd.ntmps104
  go_wp2
  go_loopw [5, 8] (fun v5 v8 wr => ∃ k : Nat, k ≤ xs.length ∧ v8 = .int .i64 k ∧ idxA p xs 0 = idxA p (xs.drop k) k ∧ Below w.heap.size w wr) (fun _ v8 _ => xs.length - (intOf v8).toNat)
  case atStart => exact ⟨0, Nat.zero_le _, rfl, rfl, Below.refl _ _⟩
  case round =>
    obtain ⟨k, hk, rfl, hI, hB⟩ := hrel
    have HI := Lib.hid hI; clear hI
    have HB := Lib.hid hB; clear hB
    by_cases hlt : k < xs.length
    · have hki : (k : Int) < (xs.length : Int) := by omega
      obtain ⟨x, hx⟩ : ∃ x, xs[k]? = some x := ⟨_, List.getElem?_eq_getElem hlt⟩
      obtain ⟨b, o, rfl, hb, e0⟩ := name_of HC.out rfl k x hx
      have hcall := HP.out x (List.mem_of_getElem? hx) wr HB.out
      replace e0 := (HB.out.cell (World.block_lt_of_cell? w _ e0)).trans e0
      have hd : xs.drop k = x :: xs.drop (k + 1) := by
        obtain ⟨hi, rfl⟩ := List.getElem?_eq_some_iff.1 hx
        exact List.drop_eq_getElem_cons hi
      have HD := Lib.hid hd; clear hd
      clear hx
      cases hq : p x with
      | true =>
        rw [hq] at hcall
        have HQ := Lib.hid hq; clear hq
        go_wp2
        refine hcall.mono ?_; rintro e w' ⟨rfl, hb'⟩
        have HB' := Lib.hid hb'; clear hb'
        go_wp2
        go_ret
        refine ⟨?_, HB.out.trans (HB'.out.mono HB.out.size)⟩
        rw [HI.out, HD.out]
        unfold idxA
        rw [HQ.out, if_pos rfl]
        rfl
      | false =>
        rw [hq] at hcall
        have HQ := Lib.hid hq; clear hq
        go_wp2
        refine hcall.mono ?_; rintro e w' ⟨rfl, hb'⟩
        have HB' := Lib.hid hb'; clear hb'
        go_wp2
        go_roundw
        case rel =>
          refine ⟨k + 1, by omega, by go_num, ?_, HB.out.trans (HB'.out.mono HB.out.size)⟩
          rw [HI.out, HD.out]
          conv => lhs; unfold idxA
          rw [HQ.out]
          rfl
        case measure => simp [intOf]; omega
    · obtain rfl : k = xs.length := by omega
      go_wp2
      go_ret
      refine ⟨?_, HB.out⟩
      rw [HI.out, List.drop_length]
      rfl
theorem contains_strm (g : Nat) (lb : Array Value) (p : ByteArray → Bool) (eg : ∀ args w, (callFunc g args).run Tryd.prog w = .ok (.enter g args) w) (A : Option Addr) (c : Nat) (xs : List ByteArray) (w : World) (h : Kd.C Kd.string w A xs.length xs) (hp : PredM g lb p xs w) (hbig : xs.length ≤ 1000000) :
    Calls Tryd.prog 67 #[.slice A xs.length c, .func (.func g) #[] lb] w fun e w' => e = .returned (.bool (xs.any p)) ∧ Below w.heap.size w w' := by
  have hI := index_strm g lb p eg A c xs w h hp hbig
  rw [← idxA_any p xs 0]
  generalize idxA p xs 0 = i at hI
  clear h hp
  go_enter Tryd.func67, Tryd.ntmps67
  go_wp2_with fail
  refine hI.mono ?_; rintro e w' ⟨rfl, hb⟩
  go_wp2
  go_ret
  exact ⟨by simp, hb⟩
def wayJ (s : ByteArray) : Bool := (stepsJ vstr s).isSome
set_option maxRecDepth 100000 in
theorem bad_any (p : ByteArray) (w : World) (hT : Tabs w) (hp : p.size ≤ 1000000) :
    Calls Tryd.prog 66 #[.string p] w fun e w' => e = .returned (.bool (!wayJ p)) ∧ Below w.heap.size w w' := by
  have hS := steps_any p w hT hp
  unfold wayJ
  generalize stepsJ vstr p = q at hS
  clear hT
  go_enter Tryd.func66, Tryd.ntmps66
  go_wp2_with fail
  refine hS.mono ?_; rintro e w2 ⟨he, hb'⟩
  have HB := Lib.hid hb'; clear hb' hS
  cases q with
  | none =>
    obtain rfl : e = .returned (.tuple #[.slice none 0 0, .int .i64 2]) := he
    go_wp2_with fail
    go_ret
    exact ⟨rfl, HB.out⟩
  | some l =>
    obtain ⟨v, rfl, hrow⟩ : ∃ v, e = .returned (.tuple #[v, .int .i64 0]) ∧ w2.ownsRow w.heap.size 9 1 v l.length (l.map Value.string) := he
    clear hrow
    go_wp2_with fail
    go_ret
    exact ⟨rfl, HB.out⟩
set_option maxRecDepth 100000 in
theorem check1_any (x : S84) (w : World) (hT : Tabs w) (hp : x.f0.size ≤ 1000000) :
    Calls Tryd.prog 65 #[.agg #[.string x.f0, .bool x.f1]] w fun e w' => e = .returned (.bool (!wayJ x.f0)) ∧ Below w.heap.size w w' := by
  have hb0 := below_alloc (Below.refl w.heap.size w) (.cells #[.string x.f0, .bool x.f1] 84)
  have hS := bad_any x.f0 _ (hT.below hb0) hp
  generalize (!wayJ x.f0) = r at hS
  have HB0 := Lib.hid hb0; clear hb0 hT
  obtain ⟨x0, x1⟩ := x
  go_enter Tryd.func65, Tryd.ntmps65
  go_wp2_with fail
  refine hS.mono ?_; rintro e w2 ⟨rfl, hb'⟩
  have HB := Lib.hid hb'; clear hb' hS
  go_wp2_with fail
  go_ret
  exact ⟨rfl, HB0.out.trans (HB.out.mono HB0.out.size)⟩
end Go.Proofs.YtehdnjegipcpfaaDoor

namespace Go.Proofs.YtehdnjegipcpfaaDoor
open Go.RowKit Go.Proofs.YtehdnjegipcpfaaDoorW.PrintWords Go.Proofs.YtehdnjegipcpfaaDoorW.PrintLast Go.Proofs.YtehdnjegipcpfaaDoorW.PrintMore
open PFilterHolds PAns Go.Shelf
structure Qy where
  flt : S25
  sort : List S84
  flds : List ByteArray
  skip : Int
  lim : Int
structure Qa where
  F3 : Option Addr
  f3 : Nat
  F4 : Option Addr
  f4 : Nat
  So : Option Addr
  so : Nat
  Fi : Option Addr
  fi : Nat
abbrev qv (q : Qy) (a : Qa) : Value := .agg #[.int .i64 q.flt.f0, .int .i64 q.flt.f1, .string q.flt.f2, .slice a.F3 q.flt.f3.length a.f3, .slice a.F4 q.flt.f4.length a.f4, .slice a.So q.sort.length a.so, .slice a.Fi q.flds.length a.fi, .int .i64 q.skip, .int .i64 q.lim]
abbrev cs38 (q : Qy) (a : Qa) : Array Value := #[.int .i64 q.flt.f0, .int .i64 q.flt.f1, .string q.flt.f2, .slice a.F3 q.flt.f3.length a.f3, .slice a.F4 q.flt.f4.length a.f4, .slice a.So q.sort.length a.so, .slice a.Fi q.flds.length a.fi, .int .i64 q.skip, .int .i64 q.lim]
structure RdQ (w : World) (q : Qy) (a : Qa) : Prop where
  rd : Rd w a.F3 a.f3 a.F4 a.f4 q.flt
  so : Kd.C k84 w a.So q.sort.length q.sort
  fi : Kd.string.C w a.Fi q.flds.length q.flds
theorem RdQ.below {w w' : World} {q : Qy} {a : Qa} (h : RdQ w q a) (hb : Below w.heap.size w w') : RdQ w' q a :=
  ⟨h.rd.below hb, Kd.C_below h.so hb, Kd.C_below h.fi hb⟩
structure BdQ (q : Qy) : Prop where
  so : ∀ o ∈ q.sort, o.f0.size ≤ 1000000
  fi : ∀ s ∈ q.flds, s.size ≤ 1000000
  ls : q.sort.length ≤ 1000000
  lf : q.flds.length ≤ 1000000
def checkQ (q : Qy) : Int :=
  if checkJ q.flt != 0 then checkJ q.flt
  else if decide (3 < q.sort.length) || decide (8 < q.flds.length) then 3
  else if (q.sort.any fun o => !wayJ o.f0) || (q.flds.any fun s => !wayJ s) then 2
  else if decide (q.skip < 0) || decide (q.lim < 0) then 1
  else if decide (100 < q.skip) || decide (100 < q.lim) then 3
  else 0
set_option maxRecDepth 100000 in
set_option maxHeartbeats 400000 in
theorem checkQ_any (q : Qy) (a : Qa) (w : World) (h : RdQ w q a) (hbd : BdQ q) (hT : Tabs w) :
    Calls Tryd.prog 45 #[qv q a] w fun e w' => e = .returned (.int .i64 (checkQ q)) ∧ Below w.heap.size w w' := by
  have hb0 := below_alloc (Below.refl w.heap.size w) (.cells (cs38 q a) 38)
  have hblk := new_blk w (.cells (cs38 q a) 38)
  have hC := check_any q.flt a.F3 a.f3 a.F4 a.f4 _ (h.rd.below hb0) (hT.below hb0)
  have hO := fun W (hb : Below w.heap.size w W) => contains_ord 65 #[] (fun o => !wayJ o.f0) (enters_of Tryd.func65 (by kernel_rfl) rfl) a.So a.so q.sort W (Kd.C_below h.so hb) (fun x hx W' hb' => by
    simpa using check1_any x W' ((hT.below hb).below hb') (hbd.so x hx)) hbd.ls
  have hF := fun W (hb : Below w.heap.size w W) => contains_strm 66 #[] (fun s => !wayJ s) (enters_of Tryd.func66 (by kernel_rfl) rfl) a.Fi a.fi q.flds W (Kd.C_below h.fi hb) (fun x hx W' hb' => by
    simpa using bad_any x W' ((hT.below hb).below hb') (hbd.fi x hx)) hbd.lf
  obtain ⟨ANS, hA⟩ : ∃ z, checkQ q = z := ⟨_, rfl⟩
  rw [hA]
  unfold checkQ at hA
  generalize checkJ q.flt = c at hC hA
  generalize (q.sort.any fun o => !wayJ o.f0) = bo at hO hA
  generalize (q.flds.any fun s => !wayJ s) = bf at hF hA
  have HB0 := Lib.hid hb0; clear hb0
  have HBK := Lib.hid hblk; clear hblk
  have HO := Lib.hid hO; clear hO
  have HF := Lib.hid hF; clear hF
  clear h hbd hT
  obtain ⟨⟨x0, x1, x2, x3, x4⟩, srt, fl, sk, lm⟩ := q
  obtain ⟨F3, f3, F4, f4, So, so, Fi, fi⟩ := a
  simp only at hA HO HF
  simp only [qv, av, cs38] at hC HBK HB0 ⊢
  cases b1 : c != 0 with
  | true =>
    rw [b1, if_pos rfl] at hA
    subst hA
    go_enter Tryd.func45, Tryd.ntmps45
    go_wp2_with fail
    refine hC.mono ?_; rintro e w1 ⟨rfl, hb⟩
    have HB := Lib.hid hb; clear hb hC
    go_wp2_with fail
    go_ret
    exact ⟨rfl, HB0.out.trans (HB.out.mono HB0.out.size)⟩
  | false =>
  rw [b1, if_neg (by simp)] at hA
  have HA := Lib.hid hA; clear hA
  go_enter Tryd.func45, Tryd.ntmps45
  go_wp2_with fail
  refine hC.mono ?_; rintro e w1 ⟨rfl, hb⟩
  have hB1 := HB0.out.trans (hb.mono HB0.out.size)
  have k0 := blk_below HBK.out hb
  have HB := Lib.hid hB1; clear hB1 hb hC HB0 HBK
  have f5 : w1.cell? ⟨w.heap.size, 5, none⟩ = some (.slice So srt.length so) := (blk_cell k0 5).trans rfl
  have f6 : w1.cell? ⟨w.heap.size, 6, none⟩ = some (.slice Fi fl.length fi) := (blk_cell k0 6).trans rfl
  have HK := Lib.hid k0; clear k0
  have hA := HA.out
  clear HA
  cases b2 : decide (3 < srt.length) with
  | true =>
    rw [b2, Bool.true_or, if_pos rfl] at hA
    subst hA
    have g2 : decide ((3 : Int) < (srt.length : Int)) = true := decide_eq_true (by have := of_decide_eq_true b2; omega)
    go_wp2_with fail
    go_ret
    exact ⟨rfl, HB.out⟩
  | false =>
  have g2 : decide ((3 : Int) < (srt.length : Int)) = false := decide_eq_false (by have := of_decide_eq_false b2; omega)
  cases b3 : decide (8 < fl.length) with
  | true =>
    rw [b2, b3, Bool.or_true, if_pos rfl] at hA
    subst hA
    have g3 : decide ((8 : Int) < (fl.length : Int)) = true := decide_eq_true (by have := of_decide_eq_true b3; omega)
    go_wp2_with fail
    go_ret
    exact ⟨rfl, HB.out⟩
  | false =>
  have g3 : decide ((8 : Int) < (fl.length : Int)) = false := decide_eq_false (by have := of_decide_eq_false b3; omega)
  rw [b2, b3, Bool.or_false, if_neg (by simp)] at hA
  have HA := Lib.hid hA; clear hA
  have hO := HO.out w1 HB.out
  clear HO
  go_wp2_with fail
  refine hO.mono ?_; rintro e w2 ⟨rfl, hb⟩
  have hB2 := HB.out.trans (hb.mono HB.out.size)
  have k0 := blk_below HK.out hb
  clear hO f5 f6 HK HB
  have HB := Lib.hid hB2; clear hB2 hb
  have f6 : w2.cell? ⟨w.heap.size, 6, none⟩ = some (.slice Fi fl.length fi) := (blk_cell k0 6).trans rfl
  have f7 : w2.cell? ⟨w.heap.size, 7, none⟩ = some (.int .i64 sk) := (blk_cell k0 7).trans rfl
  have f8 : w2.cell? ⟨w.heap.size, 8, none⟩ = some (.int .i64 lm) := (blk_cell k0 8).trans rfl
  have HK := Lib.hid k0; clear k0
  cases bo with
  | true =>
    have hA := HA.out
    rw [Bool.true_or, if_pos rfl] at hA
    subst hA
    clear HA HF
    go_wp2_with fail
    go_ret
    exact ⟨rfl, HB.out⟩
  | false =>
  have hF := HF.out w2 HB.out
  clear HF
  go_wp2_with fail
  refine hF.mono ?_; rintro e w3 ⟨rfl, hb⟩
  have hB2 := HB.out.trans (hb.mono HB.out.size)
  have k0 := blk_below HK.out hb
  clear hF f6 f7 f8 HK HB
  have HB := Lib.hid hB2; clear hB2 hb
  have f7 : w3.cell? ⟨w.heap.size, 7, none⟩ = some (.int .i64 sk) := (blk_cell k0 7).trans rfl
  have f8 : w3.cell? ⟨w.heap.size, 8, none⟩ = some (.int .i64 lm) := (blk_cell k0 8).trans rfl
  clear k0
  have hA := HA.out
  clear HA
  cases bf with
  | true =>
    rw [Bool.or_true, if_pos rfl] at hA
    subst hA
    go_wp2_with fail
    go_ret
    exact ⟨rfl, HB.out⟩
  | false =>
  rw [Bool.or_false, if_neg (by simp)] at hA
  cases b4 : decide (sk < 0) with
  | true =>
    rw [b4, Bool.true_or, if_pos rfl] at hA
    subst hA
    go_wp2_with fail
    go_ret
    exact ⟨rfl, HB.out⟩
  | false =>
  cases b5 : decide (lm < 0) with
  | true =>
    rw [b4, b5, Bool.or_true, if_pos rfl] at hA
    subst hA
    go_wp2_with fail
    go_ret
    exact ⟨rfl, HB.out⟩
  | false =>
  rw [b4, b5, Bool.or_false, if_neg (by simp)] at hA
  cases b6 : decide (100 < sk) with
  | true =>
    rw [b6, Bool.true_or, if_pos rfl] at hA
    subst hA
    go_wp2_with fail
    go_ret
    exact ⟨rfl, HB.out⟩
  | false =>
  cases b7 : decide (100 < lm) with
  | true =>
    rw [b6, b7, Bool.or_true, if_pos rfl] at hA
    subst hA
    go_wp2_with fail
    go_ret
    exact ⟨rfl, HB.out⟩
  | false =>
    rw [b6, b7, Bool.or_false, if_neg (by simp)] at hA
    subst hA
    go_wp2_with fail
    go_ret
    exact ⟨rfl, HB.out⟩
end Go.Proofs.YtehdnjegipcpfaaDoor

namespace Go.Proofs.YtehdnjegipcpfaaDoor
open Go.RowKit Go.Proofs.YtehdnjegipcpfaaDoorW.PrintWords Go.Proofs.YtehdnjegipcpfaaDoorW.PrintLast Go.Proofs.YtehdnjegipcpfaaDoorW.PrintMore
open PFilterHolds Go.Shelf
end Go.Proofs.YtehdnjegipcpfaaDoor
namespace Go.Proofs.YtehdnjegipcpfaaDoor
open Go.RowKit Go.Proofs.YtehdnjegipcpfaaDoorW.PrintWords Go.Proofs.YtehdnjegipcpfaaDoorW.PrintLast Go.Proofs.YtehdnjegipcpfaaDoorW.PrintMore
open PFilterHolds Go.Shelf
theorem cmpI_zero (a b : Int) : cmpI a b = 0 ↔ a = b := by
  unfold cmpI
  split
  · constructor <;> intro h <;> omega
  · split
    · constructor <;> intro h <;> omega
    · constructor <;> intro h <;> omega
theorem less_tri : ∀ (a b : List UInt8), Op.bytesLess a b = false → Op.bytesLess b a = false → a = b
  | [], [], _, _ => rfl
  | [], _ :: _, h, _ => by simp [Op.bytesLess] at h
  | _ :: _, [], _, h => by simp [Op.bytesLess] at h
  | x :: a, y :: b, h, h' => by
    simp only [Op.bytesLess] at h h'
    by_cases e : x = y
    · subst e
      simp at h h'
      rw [less_tri a b h h']
    · exfalso
      have hlt : x < y ∨ y < x := by
        rcases UInt8.lt_or_lt_of_ne e with h | h
        · exact .inl h
        · exact .inr h
      rcases hlt with hl | hl
      · simp [hl] at h
      · simp [hl] at h'
theorem less_irrefl : ∀ (a : List UInt8), Op.bytesLess a a = false
  | [] => rfl
  | x :: a => by simp [Op.bytesLess, less_irrefl a]
theorem cmpF_succ (k : Nat) (x y : S25) : cmpF (k + 1) x y = if or3 (cmpI x.f0 y.f0) (cmpI x.f1 y.f1) (cmpS x.f2 y.f2) ≠ 0 then or3 (cmpI x.f0 y.f0) (cmpI x.f1 y.f1) (cmpS x.f2 y.f2) else firstNZ (stepC (cmpF k) x y) (cmpI x.f4.length y.f4.length) (min x.f4.length y.f4.length) 0 := rfl
end Go.Proofs.YtehdnjegipcpfaaDoor
namespace Go.Proofs.YtehdnjegipcpfaaDoor
open Go.RowKit Go.Proofs.YtehdnjegipcpfaaDoorW.PrintWords Go.Proofs.YtehdnjegipcpfaaDoorW.PrintLast Go.Proofs.YtehdnjegipcpfaaDoorW.PrintMore
open PFilterHolds Go.Shelf
end Go.Proofs.YtehdnjegipcpfaaDoor

namespace Go.Proofs.YtehdnjegipcpfaaDoor
open Go.RowKit Go.Proofs.YtehdnjegipcpfaaDoorW.PrintWords Go.Proofs.YtehdnjegipcpfaaDoorW.PrintLast Go.Proofs.YtehdnjegipcpfaaDoorW.PrintMore
open PFilterHolds Go.Shelf
theorem any_world {P : Program} {c : Code} {Q : Exit → Act → World → Prop} {a : Act} {w : World} (K : World → Prop) (hK : K w) (h : ∀ W, K W → Code.wp P c Q a W) : Code.wp P c Q a w := h w hK
end Go.Proofs.YtehdnjegipcpfaaDoor

namespace Go.Proofs.YtehdnjegipcpfaaDoor
open Go.RowKit Go.Proofs.YtehdnjegipcpfaaDoorW.PrintWords Go.Proofs.YtehdnjegipcpfaaDoorW.PrintLast Go.Proofs.YtehdnjegipcpfaaDoorW.PrintMore
open PFilterHolds PAns Go.Shelf
theorem below9 {w W : World} {b : Nat} (h : Below w.heap.size w W) (hb : w.heap.size ≤ b) (u0 u1 u2 u3 u4 u5 u6 u7 u8 : Value)  : Below w.heap.size w (((((((((W.setCell ⟨b, 0, none⟩ u0).setCell ⟨b, 1, none⟩ u1).setCell ⟨b, 2, none⟩ u2).setCell ⟨b, 3, none⟩ u3).setCell ⟨b, 4, none⟩ u4).setCell ⟨b, 5, none⟩ u5).setCell ⟨b, 6, none⟩ u6).setCell ⟨b, 7, none⟩ u7).setCell ⟨b, 8, none⟩ u8) :=
  below_set (below_set (below_set (below_set (below_set (below_set (below_set (below_set (below_set h hb) hb) hb) hb) hb) hb) hb) hb) hb
theorem far9 {α : Type} {d : Kd α} {e : Nat} {w : World} {base : Nat} {ok : Nat → Prop} {v : Value} {xs : List α} (h : d.R e w base ok v xs) {b : Nat} (hok : ∀ k, ok k → k ≠ b) (u0 u1 u2 u3 u4 u5 u6 u7 u8 : Value) : d.R e (((((((((w.setCell ⟨b, 0, none⟩ u0).setCell ⟨b, 1, none⟩ u1).setCell ⟨b, 2, none⟩ u2).setCell ⟨b, 3, none⟩ u3).setCell ⟨b, 4, none⟩ u4).setCell ⟨b, 5, none⟩ u5).setCell ⟨b, 6, none⟩ u6).setCell ⟨b, 7, none⟩ u7).setCell ⟨b, 8, none⟩ u8) base ok v xs :=
  Kd.R_far (p := ⟨b, 8, none⟩) (Kd.R_far (p := ⟨b, 7, none⟩) (Kd.R_far (p := ⟨b, 6, none⟩) (Kd.R_far (p := ⟨b, 5, none⟩) (Kd.R_far (p := ⟨b, 4, none⟩) (Kd.R_far (p := ⟨b, 3, none⟩) (Kd.R_far (p := ⟨b, 2, none⟩) (Kd.R_far (p := ⟨b, 1, none⟩) (Kd.R_far (p := ⟨b, 0, none⟩) h hok u0) hok u1) hok u2) hok u3) hok u4) hok u5) hok u6) hok u7) hok u8
set_option maxRecDepth 100000 in
set_option maxHeartbeats 4000000 in
theorem plain_any (q : Qy) (z : Qa) (w : World) (hso : Kd.C k84 w z.So q.sort.length q.sort) (hl : q.sort.length ≤ 1000000) :
    Calls Tryd.prog 44 #[qv q z] w fun e w' => ∃ (B : Option Addr) (d : Nat), e = .returned (qv q { z with So := B, so := d }) ∧ q.sort.length ≤ d ∧ Kd.C k83 w' B q.sort.length (q.sort.map s83) ∧ Below w.heap.size w w' := by
  have hORD := fun j x hx => order_of hso rfl j x hx
  have HORD := Lib.hid hORD; clear hORD hso
  obtain ⟨⟨x0, x1, x2, x3, x4⟩, srt, fl, sk, lm⟩ := q
  obtain ⟨F3, f3, F4, f4, So, so, Fi, fi⟩ := z
  simp only [qv] at HORD hl ⊢
  obtain ⟨W1, hW1⟩ : ∃ W1, W1 = (w.alloc (.cells #[.int .i64 x0, .int .i64 x1, .string x2, .slice F3 x3.length f3, .slice F4 x4.length f4, .slice So srt.length so, .slice Fi fl.length fi, .int .i64 sk, .int .i64 lm] 38)).alloc (.cells #[.int .i64 0, .int .i64 0, .string ⟨#[]⟩, .slice none 0 0, .slice none 0 0, .slice none 0 0, .slice none 0 0, .int .i64 0, .int .i64 0] 63) := ⟨_, rfl⟩
  have hB0 : Below w.heap.size w ((w.alloc (.cells #[.int .i64 x0, .int .i64 x1, .string x2, .slice F3 x3.length f3, .slice F4 x4.length f4, .slice So srt.length so, .slice Fi fl.length fi, .int .i64 sk, .int .i64 lm] 38)).alloc (.cells #[.int .i64 0, .int .i64 0, .string ⟨#[]⟩, .slice none 0 0, .slice none 0 0, .slice none 0 0, .slice none 0 0, .int .i64 0, .int .i64 0] 63)) := below_alloc (below_alloc (Below.refl _ w) _) _
  have hK0 : ((w.alloc (.cells #[.int .i64 x0, .int .i64 x1, .string x2, .slice F3 x3.length f3, .slice F4 x4.length f4, .slice So srt.length so, .slice Fi fl.length fi, .int .i64 sk, .int .i64 lm] 38)).alloc (.cells #[.int .i64 0, .int .i64 0, .string ⟨#[]⟩, .slice none 0 0, .slice none 0 0, .slice none 0 0, .slice none 0 0, .int .i64 0, .int .i64 0] 63)).heap[w.heap.size]? = some (.cells #[.int .i64 x0, .int .i64 x1, .string x2, .slice F3 x3.length f3, .slice F4 x4.length f4, .slice So srt.length so, .slice Fi fl.length fi, .int .i64 sk, .int .i64 lm] 38 (0, 0)) := blk_alloc (new_blk w (.cells #[.int .i64 x0, .int .i64 x1, .string x2, .slice F3 x3.length f3, .slice F4 x4.length f4, .slice So srt.length so, .slice Fi fl.length fi, .int .i64 sk, .int .i64 lm] 38)) _
  have hK1 : ((w.alloc (.cells #[.int .i64 x0, .int .i64 x1, .string x2, .slice F3 x3.length f3, .slice F4 x4.length f4, .slice So srt.length so, .slice Fi fl.length fi, .int .i64 sk, .int .i64 lm] 38)).alloc (.cells #[.int .i64 0, .int .i64 0, .string ⟨#[]⟩, .slice none 0 0, .slice none 0 0, .slice none 0 0, .slice none 0 0, .int .i64 0, .int .i64 0] 63)).heap[w.heap.size + 1]? = some (.cells #[.int .i64 0, .int .i64 0, .string ⟨#[]⟩, .slice none 0 0, .slice none 0 0, .slice none 0 0, .slice none 0 0, .int .i64 0, .int .i64 0] 63 (0, 0)) := by
    have := new_blk (w.alloc (.cells #[.int .i64 x0, .int .i64 x1, .string x2, .slice F3 x3.length f3, .slice F4 x4.length f4, .slice So srt.length so, .slice Fi fl.length fi, .int .i64 sk, .int .i64 lm] 38)) (.cells #[.int .i64 0, .int .i64 0, .string ⟨#[]⟩, .slice none 0 0, .slice none 0 0, .slice none 0 0, .slice none 0 0, .int .i64 0, .int .i64 0] 63)
    simpa using this
  clear hW1
  clear W1
  have HB0 := Lib.hid (below_alloc hB0 (.cells #[.int .i64 x0, .int .i64 x1, .string x2, .slice F3 x3.length f3, .slice F4 x4.length f4, .slice none 0 0, .slice Fi fl.length fi, .int .i64 sk, .int .i64 lm] 63))
  have HK0 := Lib.hid (blk_alloc hK0 (.cells #[.int .i64 x0, .int .i64 x1, .string x2, .slice F3 x3.length f3, .slice F4 x4.length f4, .slice none 0 0, .slice Fi fl.length fi, .int .i64 sk, .int .i64 lm] 63))
  have HK1 := Lib.hid (blk_alloc hK1 (.cells #[.int .i64 x0, .int .i64 x1, .string x2, .slice F3 x3.length f3, .slice F4 x4.length f4, .slice none 0 0, .slice Fi fl.length fi, .int .i64 sk, .int .i64 lm] 63))
  have hK2 : (((w.alloc (.cells #[.int .i64 x0, .int .i64 x1, .string x2, .slice F3 x3.length f3, .slice F4 x4.length f4, .slice So srt.length so, .slice Fi fl.length fi, .int .i64 sk, .int .i64 lm] 38)).alloc (.cells #[.int .i64 0, .int .i64 0, .string ⟨#[]⟩, .slice none 0 0, .slice none 0 0, .slice none 0 0, .slice none 0 0, .int .i64 0, .int .i64 0] 63)).alloc (.cells #[.int .i64 x0, .int .i64 x1, .string x2, .slice F3 x3.length f3, .slice F4 x4.length f4, .slice none 0 0, .slice Fi fl.length fi, .int .i64 sk, .int .i64 lm] 63)).heap[w.heap.size + 1 + 1]? = some (.cells #[.int .i64 x0, .int .i64 x1, .string x2, .slice F3 x3.length f3, .slice F4 x4.length f4, .slice none 0 0, .slice Fi fl.length fi, .int .i64 sk, .int .i64 lm] 63 (0, 0)) := by
    have := new_blk ((w.alloc (.cells #[.int .i64 x0, .int .i64 x1, .string x2, .slice F3 x3.length f3, .slice F4 x4.length f4, .slice So srt.length so, .slice Fi fl.length fi, .int .i64 sk, .int .i64 lm] 38)).alloc (.cells #[.int .i64 0, .int .i64 0, .string ⟨#[]⟩, .slice none 0 0, .slice none 0 0, .slice none 0 0, .slice none 0 0, .int .i64 0, .int .i64 0] 63)) (.cells #[.int .i64 x0, .int .i64 x1, .string x2, .slice F3 x3.length f3, .slice F4 x4.length f4, .slice none 0 0, .slice Fi fl.length fi, .int .i64 sk, .int .i64 lm] 63)
    simpa using this
  have HK2 := Lib.hid hK2
  clear hB0 hK0 hK1 hK2
  go_enter Tryd.func44, Tryd.ntmps44
  go_wp2_with fail
  refine any_world (fun W => W.heap[w.heap.size]? = some (.cells #[.int .i64 x0, .int .i64 x1, .string x2, .slice F3 x3.length f3, .slice F4 x4.length f4, .slice So srt.length so, .slice Fi fl.length fi, .int .i64 sk, .int .i64 lm] 38 (0, 0)) ∧ W.heap[w.heap.size + 1]? = some (.cells #[.int .i64 0, .int .i64 0, .string ⟨#[]⟩, .slice none 0 0, .slice none 0 0, .slice none 0 0, .slice none 0 0, .int .i64 0, .int .i64 0] 63 (0, 0)) ∧ W.heap[w.heap.size + 1 + 1]? = some (.cells #[.int .i64 x0, .int .i64 x1, .string x2, .slice F3 x3.length f3, .slice F4 x4.length f4, .slice none 0 0, .slice Fi fl.length fi, .int .i64 sk, .int .i64 lm] 63 (0, 0)) ∧ Below w.heap.size w W) ⟨?_, ?_, ?_, ?_⟩ ?_
  · exact HK0.out
  · exact HK1.out
  · exact HK2.out
  · exact HB0.out
  clear HK0 HK1 HK2 HB0
  rintro W ⟨hK0, hK1, hK2, hB0⟩
  have HK0 := Lib.hid hK0; clear hK0
  have HK1 := Lib.hid hK1; clear hK1
  have HK2 := Lib.hid hK2; clear hK2
  have HB0 := Lib.hid hB0; clear hB0
  go_loopw [4] (fun u wr => ∃ (j : Nat) (vv : Value), j ≤ srt.length ∧ u = .int .i64 j ∧ wr.heap[w.heap.size]? = some (.cells #[.int .i64 x0, .int .i64 x1, .string x2, .slice F3 x3.length f3, .slice F4 x4.length f4, .slice So srt.length so, .slice Fi fl.length fi, .int .i64 sk, .int .i64 lm] 38 (0, 0)) ∧ wr.heap[w.heap.size + 1]? = some (.cells #[.int .i64 0, .int .i64 0, .string ⟨#[]⟩, .slice none 0 0, .slice none 0 0, .slice none 0 0, .slice none 0 0, .int .i64 0, .int .i64 0] 63 (0, 0)) ∧ wr.heap[w.heap.size + 1 + 1]? = some (.cells #[.int .i64 x0, .int .i64 x1, .string x2, .slice F3 x3.length f3, .slice F4 x4.length f4, vv, .slice Fi fl.length fi, .int .i64 sk, .int .i64 lm] 63 (0, 0)) ∧ Kd.R k83 83 wr w.heap.size (fun b => w.heap.size + 3 ≤ b) vv ((srt.take j).map s83) ∧ Below w.heap.size w wr) (fun u _ => srt.length - (intOf u).toNat)
  case atStart =>
    exact ⟨0, .slice none 0 0, Nat.zero_le _, rfl, HK0.out, HK1.out, HK2.out, Kd.R_nil _ _ _ _ _, HB0.out⟩
  case round =>
    obtain ⟨j, vv, hj, rfl, B0, B1, B2, hr4, hB⟩ := hrel
    obtain ⟨Aw, cw, rfl⟩ := Kd.R_slice hr4
    have htl : ((srt.take j).map s83).length = j := by simp; omega
    rw [htl] at hr4 B2
    clear htl
    have f0 : wr.cell? ⟨w.heap.size, 5, none⟩ = some (.slice So srt.length so) := (blk_cell B0 5).trans rfl
    have HR4 := Lib.hid hr4; clear hr4
    have HB := Lib.hid hB; clear hB
    clear HK0 HK1 HK2 HB0
    by_cases hlt : j < srt.length
    · have hji : (j : Int) < (srt.length : Int) := by omega
      obtain ⟨y, hy⟩ : ∃ y, srt[j]? = some y := ⟨_, List.getElem?_eq_getElem hlt⟩
      obtain ⟨b, o, rfl, hb, e0, e1⟩ := HORD.out j y hy
      replace e0 := (HB.out.cell hb).trans e0
      replace e1 := (HB.out.cell hb).trans e1
      have f5 : wr.cell? ⟨w.heap.size + 1 + 1, 5, none⟩ = some (.slice Aw j cw) := (blk_cell B2 5).trans rfl
      have hlt4 : w.heap.size + 1 + 1 < wr.heap.size := blk_lt B2
      obtain ⟨y0, y1⟩ := y
      have HJ4 := Lib.hid hy; clear hy
      have hok : ∀ k, Value.ownBlock (.slice Aw j cw) = some k → w.heap.size + 3 ≤ k ∧ k < wr.heap.size := fun k hk => ⟨HR4.out.1 k hk, (Kd.R_bound HR4.out).1 k hk |>.2.2.1⟩
      have hne : ∀ k, k < w.heap.size + 3 → some k ≠ Value.ownBlock (.slice Aw j cw) := fun k hk e => by have := (hok k e.symm).1; omega
      have HNE := Lib.hid hne; clear hne hok
      have HSZ2 := Lib.hid hlt4
      have HK0 := Lib.hid B0; clear B0
      have HK1 := Lib.hid B1; clear B1
      have HK2 := Lib.hid B2; clear B2
      go_upto_region 5 with fail
      refine start_ (n := 11) (S := fun w' => w'.cell? ⟨w.heap.size + 1 + 1, 5, none⟩ = some (.slice Aw j cw) ∧ w'.cell? ⟨w.heap.size, 5, none⟩ = some (.slice (some ⟨b, o, none⟩) srt.length so) ∧ w'.cell? ⟨b, o + j * 2, none⟩ = some (.string y0) ∧ w'.cell? ⟨b, o + j * 2 + 1, none⟩ = some (.bool y1)) (ds := [8, 10]) #[false, false, false, false, false, false, false, false, false, false, false] (by kernel_rfl) rfl rfl ⟨f5, f0, e0, e1⟩ (fun hHeld => ?_)
      refine pure_ (i := 0) (N := some 21) (v := ?_) (a' := ?_) #[true, false, false, false, false, false, false, false, false, false, false] rfl rfl (by kernel_rfl) (fun _ _ _ h => h) (Or.inl ⟨by rfl, ?_⟩) ?_ ?_
      rotate_left
      · intro w'
        go_simp
        with_reducible rfl
      rotate_left
      · simp only [Act.put, List.setIfInBounds_toArray, List.set_cons_zero, List.set_cons_succ]
        rfl
      refine pure_ (i := 2) (N := some 23) (v := ?_) (a' := ?_) #[true, false, true, false, false, false, false, false, false, false, false] rfl rfl (by kernel_rfl) (fun _ _ _ h => h) (Or.inl ⟨by rfl, ?_⟩) ?_ ?_
      rotate_left
      · intro w'
        go_simp
        with_reducible rfl
      rotate_left
      · simp only [Act.put, List.setIfInBounds_toArray, List.set_cons_zero, List.set_cons_succ]
        rfl
      refine pure_ (i := 4) (N := some 25) (v := ?_) (a' := ?_) #[true, false, true, false, true, false, false, false, false, false, false] rfl rfl (by kernel_rfl) (fun _ _ _ h => h) (Or.inl ⟨by rfl, ?_⟩) ?_ ?_
      rotate_left
      · intro w'
        go_simp
        with_reducible rfl
      rotate_left
      · simp only [Act.put, List.setIfInBounds_toArray, List.set_cons_zero, List.set_cons_succ]
        rfl
      refine take_ (i := 1) (N := some 22) (v := ?_) (a' := ?_) #[true, true, true, false, true, false, false, false, false, false, false] rfl rfl (by kernel_rfl) (fun _ _ _ h => h) (Or.inl ⟨by rfl, ?_⟩) hHeld ?_ ?_
      rotate_left
      · rintro w' ⟨s0, s1, s2, s3⟩
        go_simp
        with_reducible rfl
      rotate_left
      · simp only [Act.put, List.setIfInBounds_toArray, List.set_cons_zero, List.set_cons_succ]
        rfl
      refine take_ (i := 3) (N := some 24) (v := ?_) (a' := ?_) #[true, true, true, true, true, false, false, false, false, false, false] rfl rfl (by kernel_rfl) (fun _ _ _ h => h) (Or.inl ⟨by rfl, ?_⟩) hHeld ?_ ?_
      rotate_left
      · rintro w' ⟨s0, s1, s2, s3⟩
        go_simp
        with_reducible rfl
      rotate_left
      · simp only [Act.put, List.setIfInBounds_toArray, List.set_cons_zero, List.set_cons_succ]
        rfl
      refine pure_ (i := 5) (N := some 26) (v := ?_) (a' := ?_) #[true, true, true, true, true, true, false, false, false, false, false] rfl rfl (by kernel_rfl) (fun _ _ _ h => h) (Or.inl ⟨by rfl, ?_⟩) ?_ ?_
      rotate_left
      · intro w'
        go_simp
        with_reducible rfl
      rotate_left
      · simp only [Act.put, List.setIfInBounds_toArray, List.set_cons_zero, List.set_cons_succ]
        rfl
      refine take_ (i := 6) (N := some 27) (v := ?_) (a' := ?_) #[true, true, true, true, true, true, true, false, false, false, false] rfl rfl (by kernel_rfl) (fun _ _ _ h => h) (Or.inl ⟨by rfl, ?_⟩) hHeld ?_ ?_
      rotate_left
      · rintro w' ⟨s0, s1, s2, s3⟩
        go_simp
        with_reducible rfl
      rotate_left
      · simp only [Act.put, List.setIfInBounds_toArray, List.set_cons_zero, List.set_cons_succ]
        rfl
      refine one_ (i := 7) (N := some 28) #[true, true, true, true, true, true, true, true, false, false, false] rfl rfl (by kernel_rfl) (by decide) (fun K hK => ?_)
      refine value_ (w1 := ?_) (v := ?_) (by rfl) rfl ?_ ?_
      rotate_left 2
      · go_simp
        constructor
        · rfl
        · rfl
      refine hK.out _ _ ⟨((below_alloc (Below.refl _ _) _).cell (World.block_lt_of_cell? _ _ hHeld.1)).trans hHeld.1, ((below_alloc (Below.refl _ _) _).cell (World.block_lt_of_cell? _ _ hHeld.2.1)).trans hHeld.2.1, ((below_alloc (Below.refl _ _) _).cell (World.block_lt_of_cell? _ _ hHeld.2.2.1)).trans hHeld.2.2.1, ((below_alloc (Below.refl _ _) _).cell (World.block_lt_of_cell? _ _ hHeld.2.2.2)).trans hHeld.2.2.2⟩ (fun hHeld => ?_)
      clear hK K
      refine norm_ (a' := ?_) ?_ ?_
      rotate_left
      · show Act.put _ (some 28) _ = _
        simp only [Act.put, List.setIfInBounds_toArray, List.set_cons_zero, List.set_cons_succ]
        rfl
      refine last_ (i := 8) (N := some 29) #[true, true, true, true, true, true, true, true, true, false, false] rfl rfl (by kernel_rfl) (by decide) (fun K hK => ?_)
      refine Kd.R_append_step k83 (w0 := w) (W := wr.drew) w.heap.size (by rfl) (.tmp 22) (.tmp 28) 61 83 (.agg #[(.string ⟨#[]⟩), (.bool false)]) 24 rfl Tryd.underlying61 info83 rfl (by decide) (by decide) (.slice Aw j cw) ((srt.take j).map s83) ⟨y0, y1⟩ [.string y0, .bool y1] (fun b => w.heap.size + 3 ≤ b) (fun _ => False) (by rfl) (by rfl) (k83_mkM _ _ _ ⟨y0, y1⟩) (fun k hk => hk.elim) (fun k hk => by have h1 := HSZ2.out; have h2 : wr.heap.size ≤ k := hk; omega) (Kd.R_drew HR4.out) HB.out.drew (by have h1 := HSZ2.out; show w.heap.size ≤ wr.heap.size; omega) (by have h1 := List.length_take_le j srt; simp only [List.length_map]; omega) ?_
      intro v1 w3 hR4 hB3 hG3 hAt3
      obtain ⟨Aq, cq, rfl⟩ := Kd.R_slice hR4
      have hln : ((srt.take j).map s83 ++ [(⟨y0, y1⟩ : S83)]).length = j + 1 := by simp; omega
      rw [hln] at hR4 ⊢
      clear hln
      have HR4' := Lib.hid hR4
      have HB3 := Lib.hid hB3
      have HG3 := Lib.hid hG3
      have hK3 : w3.heap[w.heap.size + 1 + 1]? = _ := blk_grown (blk_drew HK2.out) hG3 (HNE.out _ (by omega))
      have HK3 := Lib.hid hK3
      have hs5 : w3.cell? ⟨w.heap.size + 1 + 1, 5, none⟩ = some (.slice Aw j cw) := (blk_cell hK3 5).trans rfl
      have hz5 := blk_frozen hK3 5
      clear hR4 hB3 hG3 hAt3 hK3
      refine hK.out _ _ ?_
      clear hK K
      refine norm_ (a' := ?_) ?_ ?_
      rotate_left
      · show Act.put _ (some 29) _ = _
        simp only [Act.put, List.setIfInBounds_toArray, List.set_cons_zero, List.set_cons_succ]
        rfl
      refine pure_ (i := 9) (N := some 30) (v := ?_) (a' := ?_) #[true, true, true, true, true, true, true, true, true, true, false] rfl rfl (by kernel_rfl) (fun _ _ _ h => h) (Or.inl ⟨by rfl, ?_⟩) ?_ ?_
      rotate_left
      · intro w'
        go_simp
        with_reducible rfl
      rotate_left
      · simp only [Act.put, List.setIfInBounds_toArray, List.set_cons_zero, List.set_cons_succ]
        rfl
      refine last_ (i := 10) (N := none) #[true, true, true, true, true, true, true, true, true, true, true] rfl rfl (by kernel_rfl) (by decide) (fun K hK => ?_)
      refine skip_ (w1 := ?_) (by rfl) rfl ?_ ?_
      rotate_left
      · go_simp
        rfl
      refine hK.out _ _ ?_
      clear hK K
      refine done_ (by kernel_rfl) ?_

      clear e0 e1 f0 f5 hs5 hz5
      go_wp2_with fail
      go_roundw
      case rel =>
        refine ⟨j + 1, .slice Aq (j + 1) cq, by omega, by go_num, ?_, ?_, ?_, ?_, ?_⟩
        · exact blk_far (blk_grown (blk_drew HK0.out) HG3.out (HNE.out _ (by omega))) (by show w.heap.size ≠ w.heap.size + 1 + 1; omega) _
        · exact blk_far (blk_grown (blk_drew HK1.out) HG3.out (HNE.out _ (by omega))) (by show w.heap.size + 1 ≠ w.heap.size + 1 + 1; omega) _
        · exact (blk_set HK3.out 5 _).trans rfl
        · rw [List.take_succ_eq_append_getElem hlt, (List.getElem?_eq_some_iff.1 HJ4.out).2, List.map_append, List.map_singleton]
          exact Kd.R_far HR4'.out (p := ⟨w.heap.size + 1 + 1, 5, none⟩) (fun k hk => by show k ≠ w.heap.size + 1 + 1; omega) _
        · exact below_set HB3.out (by omega)
      case measure => simp [intOf]; omega
    · have hnl : ¬ (j : Int) < (srt.length : Int) := by omega
      have p0 : wr.cell? ⟨w.heap.size + 1 + 1, 0, none⟩ = some (.int .i64 x0) := (blk_cell B2 0).trans rfl
      have p1 : wr.cell? ⟨w.heap.size + 1 + 1, 1, none⟩ = some (.int .i64 x1) := (blk_cell B2 1).trans rfl
      have p2 : wr.cell? ⟨w.heap.size + 1 + 1, 2, none⟩ = some (.string x2) := (blk_cell B2 2).trans rfl
      have p3 : wr.cell? ⟨w.heap.size + 1 + 1, 3, none⟩ = some (.slice F3 x3.length f3) := (blk_cell B2 3).trans rfl
      have p4 : wr.cell? ⟨w.heap.size + 1 + 1, 4, none⟩ = some (.slice F4 x4.length f4) := (blk_cell B2 4).trans rfl
      have p5 : wr.cell? ⟨w.heap.size + 1 + 1, 5, none⟩ = some (.slice Aw j cw) := (blk_cell B2 5).trans rfl
      have p6 : wr.cell? ⟨w.heap.size + 1 + 1, 6, none⟩ = some (.slice Fi fl.length fi) := (blk_cell B2 6).trans rfl
      have p7 : wr.cell? ⟨w.heap.size + 1 + 1, 7, none⟩ = some (.int .i64 sk) := (blk_cell B2 7).trans rfl
      have p8 : wr.cell? ⟨w.heap.size + 1 + 1, 8, none⟩ = some (.int .i64 lm) := (blk_cell B2 8).trans rfl
      have q0 : wr.cell? ⟨w.heap.size + 1, 0, none⟩ = some (.int .i64 0) := (blk_cell B1 0).trans rfl
      have q1 : wr.cell? ⟨w.heap.size + 1, 1, none⟩ = some (.int .i64 0) := (blk_cell B1 1).trans rfl
      have q2 : wr.cell? ⟨w.heap.size + 1, 2, none⟩ = some (.string ⟨#[]⟩) := (blk_cell B1 2).trans rfl
      have q3 : wr.cell? ⟨w.heap.size + 1, 3, none⟩ = some (.slice none 0 0) := (blk_cell B1 3).trans rfl
      have q4 : wr.cell? ⟨w.heap.size + 1, 4, none⟩ = some (.slice none 0 0) := (blk_cell B1 4).trans rfl
      have q5 : wr.cell? ⟨w.heap.size + 1, 5, none⟩ = some (.slice none 0 0) := (blk_cell B1 5).trans rfl
      have q6 : wr.cell? ⟨w.heap.size + 1, 6, none⟩ = some (.slice none 0 0) := (blk_cell B1 6).trans rfl
      have q7 : wr.cell? ⟨w.heap.size + 1, 7, none⟩ = some (.int .i64 0) := (blk_cell B1 7).trans rfl
      have q8 : wr.cell? ⟨w.heap.size + 1, 8, none⟩ = some (.int .i64 0) := (blk_cell B1 8).trans rfl
      have z0 := blk_frozen B1 0
      have z1 := blk_frozen B1 1
      have z2 := blk_frozen B1 2
      have z3 := blk_frozen B1 3
      have z4 := blk_frozen B1 4
      have z5 := blk_frozen B1 5
      have z6 := blk_frozen B1 6
      have z7 := blk_frozen B1 7
      have z8 := blk_frozen B1 8
      obtain rfl : j = srt.length := by omega
      have HK1 := Lib.hid B1; clear B1
      clear B0 B2
      go_wp2_with fail
      refine bodyPost_ret (v := .agg #[.int .i64 x0, .int .i64 x1, .string x2, .slice F3 x3.length f3, .slice F4 x4.length f4, .slice Aw srt.length cw, .slice Fi fl.length fi, .int .i64 sk, .int .i64 lm]) ?_ rfl ?_
      · simp [results, Tryd.results44, go_sem, q0, q1, q2, q3, q4, q5, q6, q7, q8]
      obtain ⟨A9, c9, e9, hl9, hC9⟩ := Kd.R_reads (far9 HR4.out (fun k hk => by show k ≠ w.heap.size + 1; omega) (.int .i64 x0) (.int .i64 x1) (.string x2) (.slice F3 x3.length f3) (.slice F4 x4.length f4) (.slice Aw srt.length cw) (.slice Fi fl.length fi) (.int .i64 sk) (.int .i64 lm))
      have e10 : ((srt.take srt.length).map s83).length = srt.length := by simp
      rw [e10] at e9 hl9 hC9
      rw [List.take_length] at hC9
      obtain ⟨rfl, rfl⟩ : Aw = A9 ∧ cw = c9 := by simpa using e9
      exact ⟨Aw, cw, rfl, hl9, hC9, below9 HB.out (by omega) _ _ _ _ _ _ _ _ _⟩
end Go.Proofs.YtehdnjegipcpfaaDoor

namespace Go.Proofs.YtehdnjegipcpfaaDoor
open Go.RowKit Go.Proofs.YtehdnjegipcpfaaDoorW.PrintWords Go.Proofs.YtehdnjegipcpfaaDoorW.PrintLast Go.Proofs.YtehdnjegipcpfaaDoorW.PrintMore
open PFilterHolds PAns Go.Shelf
set_option maxRecDepth 100000 in
set_option maxHeartbeats 1000000 in
theorem get_bad (x : S25) (p : ByteArray) (A3 : Option Addr) (c3 : Nat) (A4 : Option Addr) (c4 : Nat) (w : World) (hf : fmJ x = false) (h : Rd w A3 c3 A4 c4 x) (hT : Tabs w) (hp : p.size ≤ 1000000) :
    Calls Tryd.prog 72 #[av x A3 c3 A4 c4, .string p] w fun e w' => GetEnd none e w' ∧ Below w.heap.size w w' := by
  have hb0 := two_boxes w (.cells (cs25 x A3 c3 A4 c4) 25) (.cells #[.int .i64 0, .int .i64 0, .string ⟨#[]⟩, .slice none 0 0, .slice none 0 0] 25)
  have hS := steps_any p _ (hT.below hb0) hp
  have hk0 := two_boxes_0 w (.cells (cs25 x A3 c3 A4 c4) 25) (.cells #[.int .i64 0, .int .i64 0, .string ⟨#[]⟩, .slice none 0 0, .slice none 0 0] 25)
  have hk1 := two_boxes_1 w (.cells (cs25 x A3 c3 A4 c4) 25) (.cells #[.int .i64 0, .int .i64 0, .string ⟨#[]⟩, .slice none 0 0, .slice none 0 0] 25)
  generalize stepsJ vstr p = q at hS
  have HB0 := Lib.hid hb0; clear hb0
  have HK0 := Lib.hid hk0; clear hk0
  have HK1 := Lib.hid hk1; clear hk1
  have HT := Lib.hid hT; clear hT
  have HRD := Lib.hid h; clear h
  have HF := Lib.hid hf; clear hf
  obtain ⟨x0, x1, x2, x3, x4⟩ := x
  go_enter Tryd.func72, Tryd.ntmps72
  go_wp2_with fail
  refine hS.mono ?_
  rintro e w1 ⟨hE, hb⟩
  have k0 := blk_below HK0.out hb
  have k1 := blk_below HK1.out hb
  have hB1 := HB0.out.trans (hb.mono HB0.out.size)
  have HB1 := Lib.hid hB1; clear hB1 hb hS
  cases q with
  | none =>
    have hE' : e = .returned (.tuple #[.slice none 0 0, .int .i64 2]) := hE
    subst hE'
    clear hE k0
    have q0 : w1.cell? ⟨w.heap.size + 1, 0, none⟩ = some (.int .i64 0) := (blk_cell k1 0).trans rfl
    have q1 : w1.cell? ⟨w.heap.size + 1, 1, none⟩ = some (.int .i64 0) := (blk_cell k1 1).trans rfl
    have q2 : w1.cell? ⟨w.heap.size + 1, 2, none⟩ = some (.string ⟨#[]⟩) := (blk_cell k1 2).trans rfl
    have q3 : w1.cell? ⟨w.heap.size + 1, 3, none⟩ = some (.slice none 0 0) := (blk_cell k1 3).trans rfl
    have q4 : w1.cell? ⟨w.heap.size + 1, 4, none⟩ = some (.slice none 0 0) := (blk_cell k1 4).trans rfl
    have z0 := blk_frozen k1 0
    have z1 := blk_frozen k1 1
    have z2 := blk_frozen k1 2
    have z3 := blk_frozen k1 3
    have z4 := blk_frozen k1 4
    clear k1
    go_wp2_with fail
    refine bodyPost_ret (v := .tuple #[.agg #[.int .i64 0, .int .i64 0, .string ⟨#[]⟩, .slice none 0 0, .slice none 0 0], .bool false]) ?_ rfl ?_
    · simp [results, Tryd.results72, go_sem, q0, q1, q2, q3, q4]
    exact ⟨rfl, below_set5 HB1.out (by omega) _ _ _ _ _⟩
  | some l =>
    obtain ⟨vv, rfl, hrow⟩ : ∃ v, e = .returned (.tuple #[v, .int .i64 0]) ∧ w1.ownsRow _ 9 1 v l.length (l.map Value.string) := hE
    clear hrow
    have hX := Formed_any ⟨x0, x1, x2, x3, x4⟩ A3 c3 A4 c4 w1 (HRD.out.below HB1.out) (HT.out.below HB1.out)
    rw [HF.out] at hX
    have f0 : w1.cell? ⟨w.heap.size, 0, none⟩ = some (.int .i64 x0) := (blk_cell k0 0).trans rfl
    have f1 : w1.cell? ⟨w.heap.size, 1, none⟩ = some (.int .i64 x1) := (blk_cell k0 1).trans rfl
    have f2 : w1.cell? ⟨w.heap.size, 2, none⟩ = some (.string x2) := (blk_cell k0 2).trans rfl
    have f3 : w1.cell? ⟨w.heap.size, 3, none⟩ = some (.slice A3 x3.length c3) := (blk_cell k0 3).trans rfl
    have f4 : w1.cell? ⟨w.heap.size, 4, none⟩ = some (.slice A4 x4.length c4) := (blk_cell k0 4).trans rfl
    have HK1' := Lib.hid k1
    clear k0 k1
    go_wp2_with fail
    refine hX.mono ?_
    rintro e w2 ⟨rfl, hb⟩
    have hB2 := HB1.out.trans (hb.mono HB1.out.size)
    have k1 := blk_below HK1'.out hb
    have HB2 := Lib.hid hB2
    clear hB2 hb hX f0 f1 f2 f3 f4 HK1' HB1
    have q0 : w2.cell? ⟨w.heap.size + 1, 0, none⟩ = some (.int .i64 0) := (blk_cell k1 0).trans rfl
    have q1 : w2.cell? ⟨w.heap.size + 1, 1, none⟩ = some (.int .i64 0) := (blk_cell k1 1).trans rfl
    have q2 : w2.cell? ⟨w.heap.size + 1, 2, none⟩ = some (.string ⟨#[]⟩) := (blk_cell k1 2).trans rfl
    have q3 : w2.cell? ⟨w.heap.size + 1, 3, none⟩ = some (.slice none 0 0) := (blk_cell k1 3).trans rfl
    have q4 : w2.cell? ⟨w.heap.size + 1, 4, none⟩ = some (.slice none 0 0) := (blk_cell k1 4).trans rfl
    have z0 := blk_frozen k1 0
    have z1 := blk_frozen k1 1
    have z2 := blk_frozen k1 2
    have z3 := blk_frozen k1 3
    have z4 := blk_frozen k1 4
    clear k1
    go_wp2_with fail
    refine bodyPost_ret (v := .tuple #[.agg #[.int .i64 0, .int .i64 0, .string ⟨#[]⟩, .slice none 0 0, .slice none 0 0], .bool false]) ?_ rfl ?_
    · simp [results, Tryd.results72, go_sem, q0, q1, q2, q3, q4]
    exact ⟨rfl, below_set5 HB2.out (by omega) _ _ _ _ _⟩
theorem get_all (x : S25) (p : ByteArray) (A3 : Option Addr) (c3 : Nat) (A4 : Option Addr) (c4 : Nat) (w : World) (h : Rd w A3 c3 A4 c4 x) (hT : Tabs w) (hp : p.size ≤ 1000000) :
    Calls Tryd.prog 72 #[av x A3 c3 A4 c4, .string p] w fun e w' => (∃ B3 d3 B4 d4, e = .returned (.tuple #[av ((getJ x p).getD z25) B3 d3 B4 d4, .bool (getJ x p).isSome]) ∧ Rd w' B3 d3 B4 d4 ((getJ x p).getD z25)) ∧ Below w.heap.size w w' := by
  cases hf : fmJ x with
  | true => exact get_any' x p A3 c3 A4 c4 w hf h hT hp
  | false =>
    have hn : getJ x p = none := by
      unfold getJ
      rw [hf]
      cases stepsJ vstr p <;> rfl
    rw [hn]
    refine (get_bad x p A3 c3 A4 c4 w hf h hT hp).mono ?_
    rintro e w' ⟨hE, hb⟩
    exact ⟨⟨none, 0, none, 0, hE, rd_z25 w'⟩, hb⟩
def atJ (p : ByteArray) (a b : S25) : Int :=
  if (getJ a p).isSome then (if (getJ b p).isSome then cmpF 6 ((getJ a p).getD z25) ((getJ b p).getD z25) else 1)
  else if (getJ b p).isSome then -1 else 0
theorem getD_formed {x : S25} {p : ByteArray} (h : (getJ x p).isSome = true) : fmJ ((getJ x p).getD z25) = true := by
  cases hg : getJ x p with
  | none => rw [hg] at h; cases h
  | some y => exact get_formed hg
set_option maxRecDepth 100000 in
set_option maxHeartbeats 1000000 in
theorem at_any (p : ByteArray) (a b : S25) (A3 : Option Addr) (c3 : Nat) (A4 : Option Addr) (c4 : Nat) (B3 : Option Addr) (d3 : Nat) (B4 : Option Addr) (d4 : Nat) (w : World) (ha : Rd w A3 c3 A4 c4 a) (hb : Rd w B3 d3 B4 d4 b) (hT : Tabs w) (hp : p.size ≤ 1000000) :
    Calls Tryd.prog 70 #[.string p, av a A3 c3 A4 c4, av b B3 d3 B4 d4] w fun e w' => e = .returned (.int .i64 (atJ p a b)) ∧ Below w.heap.size w w' := by
  have hb0 := two_boxes w (.cells (cs25 a A3 c3 A4 c4) 25) (.cells (cs25 b B3 d3 B4 d4) 25)
  have hk1 := two_boxes_1 w (.cells (cs25 a A3 c3 A4 c4) 25) (.cells (cs25 b B3 d3 B4 d4) 25)
  have hG1 := get_all a p A3 c3 A4 c4 _ (ha.below hb0) (hT.below hb0) hp
  have hG2 := fun W (h : Below w.heap.size w W) => get_all b p B3 d3 B4 d4 W (hb.below h) (hT.below h) hp
  have hf1 := @getD_formed a p
  have hf2 := @getD_formed b p
  unfold atJ
  obtain ⟨x, hx⟩ : ∃ x, (getJ a p).getD z25 = x := ⟨_, rfl⟩
  obtain ⟨y, hy⟩ : ∃ x, (getJ b p).getD z25 = x := ⟨_, rfl⟩
  obtain ⟨ok, hok⟩ : ∃ x, (getJ a p).isSome = x := ⟨_, rfl⟩
  obtain ⟨fine, hfine⟩ : ∃ x, (getJ b p).isSome = x := ⟨_, rfl⟩
  rw [hx, hok] at hG1 hf1
  rw [hy, hfine] at hf2
  simp only [hy, hfine] at hG2
  rw [hx, hok, hy, hfine]
  clear hx hok hy hfine
  have HB0 := Lib.hid hb0; clear hb0
  have HK1 := Lib.hid hk1; clear hk1
  have HG2 := Lib.hid hG2; clear hG2
  have HF1 := Lib.hid hf1; clear hf1
  have HF2 := Lib.hid hf2; clear hf2
  have HT := Lib.hid hT; clear hT
  clear ha hb
  obtain ⟨a0, a1, a2, a3, a4⟩ := a
  obtain ⟨b0, b1, b2, b3, b4⟩ := b
  obtain ⟨ANS, hA⟩ : ∃ z, (if ok = true then (if fine = true then cmpF 6 x y else 1) else if fine = true then -1 else 0) = z := ⟨_, rfl⟩
  rw [hA]
  have HA := Lib.hid hA; clear hA
  go_enter Tryd.func70, Tryd.ntmps70
  go_wp2_with fail
  refine hG1.mono ?_
  rintro e w1 ⟨⟨X3, m3, X4, m4, rfl, hRx⟩, hb⟩
  have hB1 := HB0.out.trans (hb.mono HB0.out.size)
  have k1 := blk_below HK1.out hb
  obtain ⟨x0, x1, x2, x3, x4⟩ := x
  have hkx : (w1.alloc (.cells (cs25 ⟨x0, x1, x2, x3, x4⟩ X3 m3 X4 m4) 25)).heap[w1.heap.size]? = some (.cells (cs25 ⟨x0, x1, x2, x3, x4⟩ X3 m3 X4 m4) 25 (0, 0)) := new_blk w1 _
  have hBx : Below w.heap.size w (w1.alloc (.cells (cs25 ⟨x0, x1, x2, x3, x4⟩ X3 m3 X4 m4) 25)) := below_alloc hB1 _
  have hRx2 := hRx.below (below_alloc (Below.refl _ w1) (.cells (cs25 ⟨x0, x1, x2, x3, x4⟩ X3 m3 X4 m4) 25))
  have hG2 := HG2.out _ hBx
  have f0 : w1.cell? ⟨w.heap.size + 1, 0, none⟩ = some (.int .i64 b0) := (blk_cell k1 0).trans rfl
  have f1 : w1.cell? ⟨w.heap.size + 1, 1, none⟩ = some (.int .i64 b1) := (blk_cell k1 1).trans rfl
  have f2 : w1.cell? ⟨w.heap.size + 1, 2, none⟩ = some (.string b2) := (blk_cell k1 2).trans rfl
  have f3 : w1.cell? ⟨w.heap.size + 1, 3, none⟩ = some (.slice B3 b3.length d3) := (blk_cell k1 3).trans rfl
  have f4 : w1.cell? ⟨w.heap.size + 1, 4, none⟩ = some (.slice B4 b4.length d4) := (blk_cell k1 4).trans rfl
  have hlt0 : w.heap.size + 1 < w1.heap.size := blk_lt k1
  have HKX := Lib.hid hkx; clear hkx
  have HBX := Lib.hid hBx; clear hBx
  have HRX := Lib.hid hRx2; clear hRx2
  clear hG1 hB1 k1 hb hRx HB0 HK1 HG2
  go_wp2_with fail
  refine hG2.mono ?_
  rintro e w2 ⟨⟨Y3, n3, Y4, n4, rfl, hRy⟩, hb⟩
  have hB2 := HBX.out.trans (hb.mono HBX.out.size)
  have kx := blk_below HKX.out hb
  have hRx := HRX.out.below hb
  obtain ⟨y0, y1, y2, y3, y4⟩ := y
  have hky : (w2.alloc (.cells (cs25 ⟨y0, y1, y2, y3, y4⟩ Y3 n3 Y4 n4) 25)).heap[w2.heap.size]? = some (.cells (cs25 ⟨y0, y1, y2, y3, y4⟩ Y3 n3 Y4 n4) 25 (0, 0)) := new_blk w2 _
  have hkx := blk_alloc kx (.cells (cs25 ⟨y0, y1, y2, y3, y4⟩ Y3 n3 Y4 n4) 25)
  have hB3 : Below w.heap.size w (w2.alloc (.cells (cs25 ⟨y0, y1, y2, y3, y4⟩ Y3 n3 Y4 n4) 25)) := below_alloc hB2 _
  have hRx3 := hRx.below (below_alloc (Below.refl _ w2) (.cells (cs25 ⟨y0, y1, y2, y3, y4⟩ Y3 n3 Y4 n4) 25))
  have hRy3 := hRy.below (below_alloc (Below.refl _ w2) (.cells (cs25 ⟨y0, y1, y2, y3, y4⟩ Y3 n3 Y4 n4) 25))
  have hltx : w1.heap.size < w2.heap.size := blk_lt kx
  have hA := HA.out
  have HB3 := Lib.hid hB3; clear hB3
  have HRX3 := Lib.hid hRx3; clear hRx3
  have HRY3 := Lib.hid hRy3; clear hRy3
  clear HKX HBX HRX hB2 hRx hRy hb hG2 f0 f1 f2 f3 f4 hlt0 HA
  have g0 : w2.cell? ⟨w1.heap.size, 0, none⟩ = some (.int .i64 x0) := (blk_cell kx 0).trans rfl
  have g1 : w2.cell? ⟨w1.heap.size, 1, none⟩ = some (.int .i64 x1) := (blk_cell kx 1).trans rfl
  have g2 : w2.cell? ⟨w1.heap.size, 2, none⟩ = some (.string x2) := (blk_cell kx 2).trans rfl
  have g3 : w2.cell? ⟨w1.heap.size, 3, none⟩ = some (.slice X3 x3.length m3) := (blk_cell kx 3).trans rfl
  have g4 : w2.cell? ⟨w1.heap.size, 4, none⟩ = some (.slice X4 x4.length m4) := (blk_cell kx 4).trans rfl
  clear kx hkx hky
  cases ok with
  | true =>
    rw [if_pos rfl] at hA
    cases fine with
    | true =>
      rw [if_pos rfl] at hA
      have hC := Compare_any ⟨x0, x1, x2, x3, x4⟩ ⟨y0, y1, y2, y3, y4⟩ (HF1.out rfl) (HF2.out rfl) X3 m3 X4 m4 Y3 n3 Y4 n4 _ HRX3.out HRY3.out (HT.out.below HB3.out)
      rw [hA] at hC
      clear hA HF1 HF2
      go_wp2_with fail
      refine hC.mono ?_
      rintro e w3 ⟨rfl, hb⟩
      have HB4 := Lib.hid hb
      clear hb hC
      go_wp2_with fail
      go_ret
      exact ⟨rfl, HB3.out.trans (HB4.out.mono HB3.out.size)⟩
    | false =>
      rw [if_neg (by simp)] at hA
      subst hA
      go_wp2_with fail
      go_ret
      exact ⟨rfl, HB3.out⟩
  | false =>
    rw [if_neg (by simp)] at hA
    cases fine with
    | true =>
      rw [if_pos rfl] at hA
      subst hA
      go_wp2_with fail
      go_ret
      exact ⟨rfl, HB3.out⟩
    | false =>
      rw [if_neg (by simp)] at hA
      subst hA
      go_wp2_with fail
      go_ret
      exact ⟨rfl, HB3.out⟩
end Go.Proofs.YtehdnjegipcpfaaDoor
