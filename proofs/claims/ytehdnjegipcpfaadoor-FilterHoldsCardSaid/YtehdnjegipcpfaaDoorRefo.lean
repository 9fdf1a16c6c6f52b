/-
  The reference's order and tests: the contracts of its Plain (order), sign, Tests, test and passes at formed values; no condition.
-/
import Derived.Test.YtehdnjegipcpfaaDoorRefs
import Derived.Test.YtehdnjegipcpfaaDoorPlain
import Derived.Test.YtehdnjegipcpfaaDoorPFilterHoldsx9
namespace Go.Proofs.YtehdnjegipcpfaaDoor
open Go.RowKit Go.Proofs.YtehdnjegipcpfaaDoorW.PrintWords Go.Proofs.YtehdnjegipcpfaaDoorW.PrintLast Go.Proofs.YtehdnjegipcpfaaDoorW.PrintMore
open PFilterHolds Go.Shelf

def cmpL : List UInt8 → List UInt8 → Int
  | [], [] => 0
  | [], _ :: _ => -1
  | _ :: _, [] => 1
  | a :: x, b :: y => if a < b then -1 else if b < a then 1 else cmpL x y

theorem cmpL_cons (a b : UInt8) (x y : List UInt8) : cmpL (a :: x) (b :: y) = if a < b then -1 else if b < a then 1 else cmpL x y := rfl

theorem cmpL_eq : ∀ a b : List UInt8, cmpL a b = if Op.bytesLess a b = true then -1 else if Op.bytesLess b a = true then 1 else 0
  | [], [] => by simp [cmpL, Op.bytesLess]
  | [], _ :: _ => by simp [cmpL, Op.bytesLess]
  | _ :: _, [] => by simp [cmpL, Op.bytesLess]
  | a :: x, b :: y => by
    have ih := cmpL_eq x y
    simp only [cmpL, Op.bytesLess]
    by_cases h : a = b
    · subst h
      rw [if_neg (UInt8.lt_irrefl a), if_neg (UInt8.lt_irrefl a), ih]
      simp
    · rcases UInt8.lt_or_lt_of_ne h with hl | hl
      · rw [if_pos hl]
        simp [hl]
      · have hn : ¬ a < b := UInt8.lt_asymm hl
        rw [if_neg hn, if_pos hl]
        have e1 : (a == b) = false := by simpa using h
        simp [hn, hl, e1]

theorem bt_lt (a b : ByteArray) (i : Nat) (ha : i < a.size) (hb : i < b.size) : a.data.toList.drop i = a[i] :: a.data.toList.drop (i + 1) ∧ b.data.toList.drop i = b[i] :: b.data.toList.drop (i + 1) ∧ (bt a i < bt b i ↔ a[i] < b[i]) ∧ (bt a i > bt b i ↔ b[i] < a[i]) := by
  have h1 : bt a i = (a[i].toNat : Int) := (bt_at a (i : Int) ha).symm
  have h2 : bt b i = (b[i].toNat : Int) := (bt_at b (i : Int) hb).symm
  have hsa : a.data.toList.length = a.size := by simp
  have hsb : b.data.toList.length = b.size := by simp
  refine ⟨?_, ?_, ?_, ?_⟩
  · rw [List.drop_eq_getElem_cons (by omega)]; simp [ByteArray.getElem_eq_getElem_data]
  · rw [List.drop_eq_getElem_cons (by omega)]; simp [ByteArray.getElem_eq_getElem_data]
  · rw [h1, h2, UInt8.lt_iff_toNat_lt]; omega
  · rw [h1, h2, UInt8.lt_iff_toNat_lt]; omega

theorem lengths_tot (a b : Int) : munimentref03_lengths.f a b = some (cmpI a b) := by
  unfold munimentref03_lengths.f cmpI
  split
  · rfl
  · split <;> rfl

theorem texts_j1 (k : Nat) (a b : ByteArray) (i : Int) (t : Bool) : munimentref03_texts.j1 (k + 1) a b i t = if t = true then (if 0 ≤ i then (if i < (a.size : Int) then (if i < (b.size : Int) then (if (bt a i) < (bt b i) then (some (-1)) else (if (bt a i) > (bt b i) then (some 1) else (munimentref03_texts.l0 k a b (wrap64 (i + 1))))) else (none)) else (none)) else (none)) else ((munimentref03_lengths.f (a.size : Int) (b.size : Int)).bind fun t222 => (some t222)) := by
  unfold munimentref03_texts.j1; rfl

theorem texts_l0 (a b : ByteArray) (hs : a.size ≤ 1000000) : ∀ d i : Nat, i + d = a.size → i ≤ b.size → munimentref03_texts.l0 (2 * d + 2) a b (i : Int) = some (cmpL (a.data.toList.drop i) (b.data.toList.drop i))
  | 0, i, h, hb => by
    have hsa : a.data.toList.length = a.size := by simp
    have hsb : b.data.toList.length = b.size := by simp
    unfold munimentref03_texts.l0
    rw [if_neg (by omega), texts_j1, if_neg (by simp), lengths_tot, Option.bind_some, List.drop_of_length_le (by omega : a.data.toList.length ≤ i)]
    congr 1
    by_cases hlt : i < b.size
    · rw [List.drop_eq_getElem_cons (by omega)]
      unfold cmpI cmpL
      rw [if_pos (by omega)]
    · rw [List.drop_of_length_le (by omega)]
      unfold cmpI cmpL
      rw [if_neg (by omega), if_neg (by omega)]
  | d + 1, i, h, hb => by
    have hsa : a.data.toList.length = a.size := by simp
    have hsb : b.data.toList.length = b.size := by simp
    have hlt : i < a.size := by omega
    rw [show 2 * (d + 1) + 2 = (2 * d + 2) + 1 + 1 by omega]
    unfold munimentref03_texts.l0
    rw [if_pos (by omega), texts_j1]
    by_cases hlb : i < b.size
    · obtain ⟨e1, e2, e3, e4⟩ := bt_lt a b i hlt hlb
      have w3 : wrap64 ((i : Int) + 1) = ((i + 1 : Nat) : Int) := by unfold wrap64; omega
      rw [if_pos (decide_eq_true (by omega)), if_pos (by omega), if_pos (by omega), if_pos (by omega), w3, texts_l0 a b hs d (i + 1) (by omega) (by omega), e1, e2, cmpL_cons]
      by_cases c1 : a[i] < b[i]
      · rw [if_pos (e3.2 c1), if_pos c1]
      · rw [if_neg (fun e => c1 (e3.1 e)), if_neg c1]
        by_cases c2 : b[i] < a[i]
        · rw [if_pos (e4.2 c2), if_pos c2]
        · rw [if_neg (fun e => c2 (e4.1 e)), if_neg c2]
    · rw [if_neg (by simp; omega), lengths_tot, Option.bind_some]
      congr 1
      rw [List.drop_of_length_le (by omega : b.data.toList.length ≤ i), List.drop_eq_getElem_cons (by omega)]
      unfold cmpI cmpL
      rw [if_neg (by omega), if_pos (by omega)]

theorem texts_tot (a b : ByteArray) (hs : a.size ≤ 1000000) : ∃ m, munimentref03_texts.f m a b = some (cmpS a b) := by
  refine ⟨2 * a.size + 2, ?_⟩
  unfold munimentref03_texts.f cmpS
  have h := texts_l0 a b hs a.size 0 (by omega) (Nat.zero_le _)
  rw [List.drop_zero, List.drop_zero, cmpL_eq] at h
  rw [ByteArray.toList_eq, ByteArray.toList_eq]
  exact h

theorem cmpS_refl (a : ByteArray) : cmpS a a = 0 := (cmpS_zero a a).2 rfl
theorem cmpI_refl (a : Int) : cmpI a a = 0 := (cmpI_zero a a).2 rfl

/-- What a formed value's head says. -/
theorem formed_head {k : Nat} {x : S25} (h : formedJ (k + 1) x = true) : (x.f0 ≠ 3 → x.f1 = 0) ∧ (x.f0 ≠ 4 → x.f2.toList = []) ∧ x.f2.size ≤ 60 := by
  rw [formed_succ] at h
  unfold headJ textJ at h
  simp only [Bool.and_eq_true, decide_eq_true_eq, Bool.or_eq_true, beq_iff_eq, List.isEmpty_iff] at h
  obtain ⟨⟨⟨⟨⟨_, _⟩, h3⟩, h4⟩, h5, _⟩, _⟩ := h
  exact ⟨fun e => h3.resolve_left e, fun e => h4.resolve_left e, h5⟩

theorem name_size {k : Nat} {x : S25} (h : formedJ (k + 1) x = true) (i : Nat) (hi : i < x.f3.length) : (x.f3.getD i ByteArray.empty).size ≤ 60 := by
  have h9 := (formed_parts h).2.2.2.2.2.2.2.2
  unfold namesJ at h9
  have := List.all_eq_true.1 h9 i (List.mem_range.2 hi)
  unfold okAt textJ at this
  simp only [Bool.and_eq_true, decide_eq_true_eq] at this
  exact this.1.1

theorem lift_plain {x y : S25} {k m : Nat} {r : Int} (h : munimentref03_Plain.f k x.f0 x.f1 x.f2 x.f3 x.f4 y.f0 y.f1 y.f2 y.f3 y.f4 = some r) (hk : k ≤ m) : munimentref03_Plain.f m x.f0 x.f1 x.f2 x.f3 x.f4 y.f0 y.f1 y.f2 y.f3 y.f4 = some r :=
  le_lift (F := fun k => munimentref03_Plain.f k x.f0 x.f1 x.f2 x.f3 x.f4 y.f0 y.f1 y.f2 y.f3 y.f4) (fun k => munimentref03_Plain.mono _ _ _ _ _ _ _ _ _ _ k) h hk

theorem plain_l0 (k : Nat) (x y : S25) (h6 : x.f0 = 6 → x.f3.length = x.f4.length ∧ y.f3.length = y.f4.length) (hn : x.f0 = 6 → ∀ i, i < x.f3.length → (x.f3.getD i ByteArray.empty).size ≤ 60) (hb : x.f4.length ≤ 1000)
    (hx : ∀ i, i < x.f4.length → i < y.f4.length → ∃ m, munimentref03_Plain.f m (x.f4.getD i z25).f0 (x.f4.getD i z25).f1 (x.f4.getD i z25).f2 (x.f4.getD i z25).f3 (x.f4.getD i z25).f4 (y.f4.getD i z25).f0 (y.f4.getD i z25).f1 (y.f4.getD i z25).f2 (y.f4.getD i z25).f3 (y.f4.getD i z25).f4 = some (cmpF k (x.f4.getD i z25) (y.f4.getD i z25))) :
    ∀ d i : Nat, i + d = min x.f4.length y.f4.length → ∃ m, munimentref03_Plain.l0 m (i : Int) x.f0 x.f1 x.f2 x.f3 x.f4 y.f0 y.f1 y.f2 y.f3 y.f4 = some (firstNZ (stepC (cmpF k) x y) (cmpI x.f4.length y.f4.length) d i)
  | 0, i, h => by
    refine ⟨2, ?_⟩
    have hj : munimentref03_Plain.j2 1 (i : Int) false x.f0 x.f1 x.f2 x.f3 x.f4 y.f0 y.f1 y.f2 y.f3 y.f4 = some (cmpI x.f4.length y.f4.length) := by
      unfold munimentref03_Plain.j2
      rw [if_neg (by simp), lengths_tot]
      rfl
    unfold munimentref03_Plain.l0 firstNZ
    by_cases h1 : (i : Int) < (x.f4.length : Int)
    · rw [if_pos h1, decide_eq_false (by omega), hj]
    · rw [if_neg h1, hj]
  | d + 1, i, h => by
    have hi1 : i < x.f4.length := by omega
    have hi2 : i < y.f4.length := by omega
    obtain ⟨m1, e1⟩ := hx i hi1 hi2
    obtain ⟨m2, e2⟩ := plain_l0 k x y h6 hn hb hx d (i + 1) (by omega)
    have w3 : wrap64 ((i : Int) + 1) = ((i + 1 : Nat) : Int) := by unfold wrap64; omega
    have hst : stepC (cmpF k) x y i = if x.f0 = 6 ∧ cmpS (x.f3.getD i ByteArray.empty) (y.f3.getD i ByteArray.empty) ≠ 0 then cmpS (x.f3.getD i ByteArray.empty) (y.f3.getD i ByteArray.empty) else cmpF k (x.f4.getD i z25) (y.f4.getD i z25) := rfl
    rw [firstNZ_succ, hst]
    clear hst
    by_cases hk6 : x.f0 = 6
    · obtain ⟨n1, n2⟩ := h6 hk6
      obtain ⟨m3, e3⟩ := texts_tot (x.f3.getD i ByteArray.empty) (y.f3.getD i ByteArray.empty) (by have := hn hk6 i (by omega); omega)
      refine ⟨max (max m1 m2) m3 + 2, ?_⟩
      have q1 : rdOf ByteArray.empty x.f3 (i : Int) = x.f3.getD i ByteArray.empty := rfl
      have q2 : rdOf ByteArray.empty y.f3 (i : Int) = y.f3.getD i ByteArray.empty := rfl
      have hl0 : munimentref03_Plain.l0 (max (max m1 m2) m3) ((i + 1 : Nat) : Int) x.f0 x.f1 x.f2 x.f3 x.f4 y.f0 y.f1 y.f2 y.f3 y.f4 = _ := le_lift (F := fun k => munimentref03_Plain.l0 k ((i + 1 : Nat) : Int) x.f0 x.f1 x.f2 x.f3 x.f4 y.f0 y.f1 y.f2 y.f3 y.f4) (fun k => (munimentref03_Plain.mono_l k).2.2.1 _ _ _ _ _ _ _ _ _ _ _) e2 (by omega)
      have hf : munimentref03_Plain.f (max (max m1 m2) m3) (rd_T25 x.f4 i).f0 (rd_T25 x.f4 i).f1 (rd_T25 x.f4 i).f2 (rd_T25 x.f4 i).f3 (rd_T25 x.f4 i).f4 (rd_T25 y.f4 i).f0 (rd_T25 y.f4 i).f1 (rd_T25 y.f4 i).f2 (rd_T25 y.f4 i).f3 (rd_T25 y.f4 i).f4 = some (cmpF k (x.f4.getD i z25) (y.f4.getD i z25)) := lift_plain e1 (by omega)
      have ht : munimentref03_texts.f (max (max m1 m2) m3) (x.f3.getD i ByteArray.empty) (y.f3.getD i ByteArray.empty) = _ := le_lift (F := fun k => munimentref03_texts.f k (x.f3.getD i ByteArray.empty) (y.f3.getD i ByteArray.empty)) (fun k => munimentref03_texts.mono _ _ k) e3 (by omega)
      unfold munimentref03_Plain.l0
      rw [if_pos (by omega), decide_eq_true (by omega)]
      unfold munimentref03_Plain.j2
      rw [if_pos rfl, if_pos hk6, if_pos (by omega), if_pos (by omega), if_pos (by omega), q1, q2, ht, Option.bind_some, hf, Option.bind_some, w3, hl0]
      generalize cmpS (x.f3.getD i ByteArray.empty) (y.f3.getD i ByteArray.empty) = c
      generalize cmpF k (x.f4.getD i z25) (y.f4.getD i z25) = q
      by_cases hc : c = 0
      · rw [if_pos hc, if_pos (by omega), if_pos (by omega), if_neg (show ¬ (x.f0 = 6 ∧ c ≠ 0) from fun e => e.2 hc)]
        by_cases hq : q = 0
        · rw [if_pos hq, if_neg (fun e => e hq)]
        · rw [if_neg hq, if_pos hq]
      · rw [if_neg hc, if_pos (show x.f0 = 6 ∧ c ≠ 0 from ⟨hk6, hc⟩), if_pos hc]
    · refine ⟨max m1 m2 + 2, ?_⟩
      have hl0 : munimentref03_Plain.l0 (max m1 m2) ((i + 1 : Nat) : Int) x.f0 x.f1 x.f2 x.f3 x.f4 y.f0 y.f1 y.f2 y.f3 y.f4 = _ := le_lift (F := fun k => munimentref03_Plain.l0 k ((i + 1 : Nat) : Int) x.f0 x.f1 x.f2 x.f3 x.f4 y.f0 y.f1 y.f2 y.f3 y.f4) (fun k => (munimentref03_Plain.mono_l k).2.2.1 _ _ _ _ _ _ _ _ _ _ _) e2 (by omega)
      have hf : munimentref03_Plain.f (max m1 m2) (rd_T25 x.f4 i).f0 (rd_T25 x.f4 i).f1 (rd_T25 x.f4 i).f2 (rd_T25 x.f4 i).f3 (rd_T25 x.f4 i).f4 (rd_T25 y.f4 i).f0 (rd_T25 y.f4 i).f1 (rd_T25 y.f4 i).f2 (rd_T25 y.f4 i).f3 (rd_T25 y.f4 i).f4 = some (cmpF k (x.f4.getD i z25) (y.f4.getD i z25)) := lift_plain e1 (by omega)
      unfold munimentref03_Plain.l0
      rw [if_pos (by omega), decide_eq_true (by omega)]
      unfold munimentref03_Plain.j2
      rw [if_pos rfl, if_neg hk6, if_pos (by omega), if_pos (by omega), if_pos (by omega), hf, Option.bind_some, w3, hl0]
      rw [if_neg (show ¬ (x.f0 = 6 ∧ _) from fun e => hk6 e.1)]
      by_cases hq : cmpF k (x.f4.getD i z25) (y.f4.getD i z25) = 0
      · rw [if_pos hq, if_neg (fun e => e hq)]
      · rw [if_neg hq, if_pos hq]

theorem or3_a {a : Int} (b c : Int) (h : a ≠ 0) : or3 a b c = a := by unfold or3; rw [if_pos h]
theorem or3_b (b c : Int) : or3 0 b c = if b ≠ 0 then b else c := by unfold or3; rw [if_neg (by simp)]

theorem plain_tot : ∀ (k : Nat) (x y : S25), formedJ k x = true → formedJ k y = true → ∃ m, munimentref03_Plain.f m x.f0 x.f1 x.f2 x.f3 x.f4 y.f0 y.f1 y.f2 y.f3 y.f4 = some (cmpF k x y)
  | 0, x, y, h, _ => by unfold formedJ at h; cases h
  | k + 1, x, y, h, h' => by
    obtain ⟨p1, p2, p3, p4, p5, p6, p7, p8, _⟩ := formed_parts h
    obtain ⟨q1, q2, q3, q4, q5, q6, q7, q8, _⟩ := formed_parts h'
    obtain ⟨a1, a2, a3⟩ := formed_head h
    obtain ⟨b1, b2, b3⟩ := formed_head h'
    rw [cmpF_succ]
    by_cases h0 : x.f0 = y.f0
    · have e0 : cmpI x.f0 y.f0 = 0 := (cmpI_zero _ _).2 h0
      rw [e0, or3_b]
      have hfin : x.f0 < 5 → firstNZ (stepC (cmpF k) x y) (cmpI x.f4.length y.f4.length) (min x.f4.length y.f4.length) 0 = 0 := fun h5 => by
        rw [p8 h5, q8 (by omega)]; rfl
      by_cases k3 : x.f0 = 3
      · have ht : cmpS x.f2 y.f2 = 0 := (cmpS_zero _ _).2 (by rw [a2 (by omega), b2 (by omega)])
        refine ⟨1, ?_⟩
        unfold munimentref03_Plain.f
        rw [if_pos h0, if_pos k3, ht, hfin (by omega)]
        unfold cmpI
        by_cases c1 : x.f1 < y.f1
        · simp [c1]
        · by_cases c2 : x.f1 > y.f1
          · simp [c1, c2]
          · simp [c1, c2]
      · have hi : cmpI x.f1 y.f1 = 0 := (cmpI_zero _ _).2 (by rw [a1 k3, b1 (by omega)])
        have hb : (if cmpI x.f1 y.f1 ≠ 0 then cmpI x.f1 y.f1 else cmpS x.f2 y.f2) = cmpS x.f2 y.f2 := if_neg (fun e => e hi)
        rw [hb]
        by_cases k4 : x.f0 = 4
        · obtain ⟨m, e⟩ := texts_tot x.f2 y.f2 (by omega)
          refine ⟨m + 1, ?_⟩
          unfold munimentref03_Plain.f
          rw [if_pos h0, if_neg k3, if_pos k4, e, hfin (by omega), Option.bind_some]
          by_cases c : cmpS x.f2 y.f2 = 0
          · rw [if_neg (fun e => e c), c]
          · rw [if_pos c]
        · have ht : cmpS x.f2 y.f2 = 0 := (cmpS_zero _ _).2 (by rw [a2 (by omega), b2 (by omega)])
          rw [if_neg (fun e => e ht)]
          have hrec : ∃ m, munimentref03_Plain.l0 m 0 x.f0 x.f1 x.f2 x.f3 x.f4 y.f0 y.f1 y.f2 y.f3 y.f4 = some (firstNZ (stepC (cmpF k) x y) (cmpI x.f4.length y.f4.length) (min x.f4.length y.f4.length) 0) :=
            plain_l0 k x y (fun h6 => ⟨p6 h6, q6 (h0 ▸ h6)⟩) (fun _ i hi => name_size h i hi) (by omega) (fun i hi1 hi2 => by
              refine plain_tot k _ _ ?_ ?_
              · rw [List.getD_eq_getElem?_getD, List.getElem?_eq_getElem hi1]; exact p3 _ (List.getElem_mem hi1)
              · rw [List.getD_eq_getElem?_getD, List.getElem?_eq_getElem hi2]; exact q3 _ (List.getElem_mem hi2)) (min x.f4.length y.f4.length) 0 (by omega)
          obtain ⟨m, e⟩ := hrec
          have hj0 : ∀ b, munimentref03_Plain.j0 (m + 1) b x.f0 x.f1 x.f2 x.f3 x.f4 y.f0 y.f1 y.f2 y.f3 y.f4 = if b = true then munimentref03_Plain.l0 m 0 x.f0 x.f1 x.f2 x.f3 x.f4 y.f0 y.f1 y.f2 y.f3 y.f4 else some 0 := fun b => by unfold munimentref03_Plain.j0; rfl
          refine ⟨m + 2, ?_⟩
          unfold munimentref03_Plain.f
          rw [if_pos h0, if_neg k3, if_neg k4]
          by_cases k5 : x.f0 = 5
          · rw [if_pos k5, hj0, if_pos (by simp [k5]), e]
          · rw [if_neg k5, hj0]
            by_cases k6 : x.f0 = 6
            · rw [if_pos (by simp [k6]), e]
            · rw [if_neg (by simp [k6]), hfin (by omega)]
    · have e0 : cmpI x.f0 y.f0 ≠ 0 := fun e => h0 ((cmpI_zero _ _).1 e)
      refine ⟨1, ?_⟩
      unfold munimentref03_Plain.f
      rw [if_neg h0, lengths_tot, or3_a _ _ e0, if_pos e0]
      rfl

theorem plain_ref (k : Nat) (x y : S25) (hx : formedJ k x = true) (hy : formedJ k y = true) (A3 : Option Addr) (c3 : Nat) (A4 : Option Addr) (c4 : Nat) (B3 : Option Addr) (d3 : Nat) (B4 : Option Addr) (d4 : Nat) (w : World) (h : Rd w A3 c3 A4 c4 x) (h' : Rd w B3 d3 B4 d4 y) :
    Calls Tryd.prog 84 #[av x A3 c3 A4 c4, av y B3 d3 B4 d4] w fun e w' => e = .returned (.int .i64 (cmpF k x y)) ∧ Below w.heap.size w w' := by
  obtain ⟨m, e⟩ := plain_tot k x y hx hy
  exact munimentref03_Plain.calls m x.f0 x.f1 x.f2 A3 c3 x.f3 A4 c4 x.f4 y.f0 y.f1 y.f2 B3 d3 y.f3 B4 d4 y.f4 (cmpF k x y) w h.g3 h.l3 h.g4 h.l4 h'.g3 h'.l3 h'.g4 h'.l4 e

/-! ### sign, Tests, test -/
theorem sign_tot (s : ByteArray) : munimentref15_sign.f s = some (sgn s) := by
  unfold munimentref15_sign.f sgn
  by_cases h : 1 ≤ s.size
  · rw [if_pos (by omega), if_pos (by omega), decide_eq_true h, Bool.true_and]
    congr 1
    have hb : bt s 0 = (s[0].toNat : Int) := (bt_at s 0 (by show (0 : Int).toNat < s.size; simp; omega)).symm
    have hsz : s.data.toList.length = s.size := by simp
    have he : (s.extract 0 1).toList = [s[0]] := by
      rw [Lib.extract_toList, List.drop_zero, List.take_one, List.head?_eq_getElem?, List.getElem?_eq_getElem (by omega)]
      simp [ByteArray.getElem_eq_getElem_data]
    have h36 : (⟨#[36]⟩ : ByteArray).toList = [36] := by rw [ByteArray.toList_eq]
    rw [hb, he, h36]
    have h255 : s[0].toNat < 256 := s[0].toNat_lt
    by_cases c : s[0] = 36
    · simp [c]
    · have hne : ¬ (s[0].toNat : Int) = 36 := fun e => c (by
        apply UInt8.toNat_inj.1
        show s[0].toNat = 36
        omega)
      rw [Bool.eq_iff_iff]
      simp [hne, c]
  · rw [if_neg (by omega), decide_eq_false h, Bool.false_and]

theorem sign_ref (s : ByteArray) (w : World) : Calls Tryd.prog 101 #[.string s] w fun e w' => e = .returned (.bool (sgn s)) ∧ Below w.heap.size w w' :=
  (munimentref15_sign.calls s (sgn s) w (sign_tot s)).mono fun _ _ ⟨he, hd⟩ => ⟨he, drawn_below hd⟩

theorem Tests_l0 (x : S25) (hb : x.f3.length ≤ 1000000) : ∀ d i : Nat, i + d = x.f3.length → munimentref15_Tests.l0 (d + 1) (i : Int) x.f0 x.f1 x.f2 x.f3 x.f4 = some ((x.f3.drop i).any sgn)
  | 0, i, h => by
    unfold munimentref15_Tests.l0
    rw [if_neg (by omega), List.drop_of_length_le (by omega)]
    rfl
  | d + 1, i, h => by
    have w3 : wrap64 ((i : Int) + 1) = ((i + 1 : Nat) : Int) := by unfold wrap64; omega
    have hi : i < x.f3.length := by omega
    unfold munimentref15_Tests.l0
    have e : rdOf ByteArray.empty x.f3 (i : Int) = x.f3[i] := by
      show x.f3.getD i ByteArray.empty = _
      rw [List.getD_eq_getElem?_getD, List.getElem?_eq_getElem hi]; rfl
    rw [if_pos (by omega), if_pos (by omega), w3, Tests_l0 x hb d (i + 1) (by omega), e, sign_tot, Option.bind_some, List.drop_eq_getElem_cons hi, List.any_cons]
    cases sgn x.f3[i] <;> simp

/-- Where names lie only in objects, these are the tests' names. -/
theorem Tests_ref (x : S25) (h6 : x.f0 ≠ 6 → x.f3 = []) (A3 : Option Addr) (c3 : Nat) (A4 : Option Addr) (c4 : Nat) (w : World) (h : Rd w A3 c3 A4 c4 x) (hbig : x.f3.length ≤ 1000000) :
    Calls Tryd.prog 83 #[av x A3 c3 A4 c4] w fun e w' => e = .returned (.bool (testsJ x)) ∧ Below w.heap.size w w' := by
  have e : munimentref15_Tests.f (x.f3.length + 1) x.f0 x.f1 x.f2 x.f3 x.f4 = some (testsJ x) := by
    unfold munimentref15_Tests.f testsJ
    have := Tests_l0 x hbig x.f3.length 0 (by omega)
    rw [List.drop_zero] at this
    rw [show (0 : Int) = ((0 : Nat) : Int) from rfl, this]
    by_cases c : x.f0 = 6
    · simp [c]
    · rw [h6 c]; simp
  exact (munimentref15_Tests.calls _ x.f0 x.f1 x.f2 A3 c3 x.f3 A4 c4 x.f4 (testsJ x) w h.g3 h.l3 h.g4 h.l4 e).mono fun _ _ ⟨he, hb⟩ => ⟨he, hb⟩

theorem test_f (k : Nat) (a : ByteArray) (b c : Int) (d : ByteArray) (e : List ByteArray) (f : List S25) : munimentref15_test.f (k + 1) a b c d e f = filter_test.f (k + 1) a b c d e f := by
  unfold munimentref15_test.f filter_test.f munimentref15_test.j0 filter_test.j0
  rfl

theorem test_ref (s : ByteArray) (v : S25) (A3 : Option Addr) (c3 : Nat) (A4 : Option Addr) (c4 : Nat) (w : World) (h : Rd w A3 c3 A4 c4 v) :
    Calls Tryd.prog 102 #[.string s, av v A3 c3 A4 c4] w fun e w' => e = .returned (.bool (testJ s v)) ∧ Below w.heap.size w w' :=
  (munimentref15_test.calls 1 s v.f0 v.f1 v.f2 A3 c3 v.f3 A4 c4 v.f4 (testJ s v) w h.g3 h.l3 h.g4 h.l4 ((test_f 0 _ _ _ _ _ _).trans (test_tot s v))).mono fun _ _ ⟨he, hb⟩ => ⟨he, hb⟩

/-! ### passes -/
set_option maxRecDepth 100000 in
set_option maxHeartbeats 4000000 in
theorem passes_ref (s : ByteArray) (v x : S25) (there : Bool) (hs : testJ s v = true) (hv : fmJ v = true) (hx : there = true → fmJ x = true) (A3 : Option Addr) (c3 : Nat) (A4 : Option Addr) (c4 : Nat) (B3 : Option Addr) (d3 : Nat) (B4 : Option Addr) (d4 : Nat) (w : World) (h : Rd w A3 c3 A4 c4 v) (h' : Rd w B3 d3 B4 d4 x) :
    Calls Tryd.prog 85 #[.string s, av v A3 c3 A4 c4, av x B3 d3 B4 d4, .bool there] w fun e w' => e = .returned (.bool (passJ s v x there)) ∧ Below w.heap.size w w' := by
  have hb0 := two_boxes w (.cells (cs25 v A3 c3 A4 c4) 25) (.cells (cs25 x B3 d3 B4 d4) 25)
  have hk0 := two_boxes_0 w (.cells (cs25 v A3 c3 A4 c4) 25) (.cells (cs25 x B3 d3 B4 d4) 25)
  have hk1 := two_boxes_1 w (.cells (cs25 v A3 c3 A4 c4) 25) (.cells (cs25 x B3 d3 B4 d4) 25)
  have hCmp := fun (ht : there = true) => plain_ref 6 x v (hx ht) hv B3 d3 B4 d4 A3 c3 A4 c4 _ (h'.below hb0) (h.below hb0)
  have hIt := fun (ht : there = true) (y : S25) (hy : y ∈ v.f4) (E3 : Option Addr) (m3 : Nat) (E4 : Option Addr) (m4 : Nat) (W : World) (hb : Below w.heap.size w W) (hR : Rd W E3 m3 E4 m4 y) => plain_ref 6 x y (hx ht) (items_formed hv y hy) B3 d3 B4 d4 E3 m3 E4 m4 W (h'.below hb) hR
  have hSm := fun (ht : there = true) (y : S25) (hy : y ∈ v.f4) => cmp_same 6 x y (hx ht) (items_formed hv y hy)
  obtain ⟨ANS, hA⟩ : ∃ a, passJ s v x there = a := ⟨_, rfl⟩
  rw [hA]
  unfold passJ isB nHas nIn nEq nNe nLt nLe nGt at hA
  have hts := hs
  unfold testJ at hts
  have HB0 := Lib.hid hb0; clear hb0
  have HK0 := Lib.hid hk0; clear hk0
  have HK1 := Lib.hid hk1; clear hk1
  have HIT := Lib.hid hIt; clear hIt
  have HSM := Lib.hid hSm; clear hSm
  have HRV := Lib.hid h; clear h
  have HTS := Lib.hid hts; clear hts
  have h24 := (few_items hv).2
  clear h' hv hx hs
  obtain ⟨v0, v1, v2, v3, v4⟩ := v
  obtain ⟨x0, x1, x2, x3, x4⟩ := x
  simp only at hA hCmp h24
  have k00 := (blk_cell HK0.out 0).trans (rfl : _ = some (Value.int .i64 v0))
  cases b1 : s.toList == [36, 104, 97, 115] with
  | true =>
    rw [b1, if_pos rfl] at hA
    have hk : v0 = 2 ∨ v0 = 1 := by
      have e8 : s.toList = [36, 104, 97, 115] := by simpa using b1
      have := HTS.out
      rw [if_neg (by rw [e8]; decide), if_neg (by rw [e8]; decide), if_pos e8] at this
      simpa using this
    clear hCmp HTS HSM HIT HRV HK0 HK1
    rcases hk with rfl | rfl
    · cases there with
      | true =>
        go_enter Tryd.func85, Tryd.ntmps85
        go_wp2_with fail
        go_ret
        exact ⟨by rw [← hA]; rfl, HB0.out⟩
      | false =>
        go_enter Tryd.func85, Tryd.ntmps85
        go_wp2_with fail
        go_ret
        exact ⟨by rw [← hA]; rfl, HB0.out⟩
    · cases there with
      | true =>
        go_enter Tryd.func85, Tryd.ntmps85
        go_wp2_with fail
        go_ret
        exact ⟨by rw [← hA]; rfl, HB0.out⟩
      | false =>
        go_enter Tryd.func85, Tryd.ntmps85
        go_wp2_with fail
        go_ret
        exact ⟨by rw [← hA]; rfl, HB0.out⟩
  | false =>
  rw [b1, if_neg (by simp)] at hA
  clear k00
  cases there with
  | false =>
    rw [if_pos (by simp)] at hA
    subst hA
    clear hCmp HTS HSM HIT HRV HK0 HK1
    go_enter Tryd.func85, Tryd.ntmps85
    go_wp2_with fail
    go_ret
    exact ⟨rfl, HB0.out⟩
  | true =>
  have hC := hCmp rfl
  have HIT1 := Lib.hid (HIT.out rfl)
  have HSM1 := Lib.hid (HSM.out rfl)
  clear hCmp HIT HSM
  rw [if_neg (by simp)] at hA
  generalize cmpF 6 (⟨x0, x1, x2, x3, x4⟩ : S25) ⟨v0, v1, v2, v3, v4⟩ = c at hC hA
  have HA := Lib.hid hA; clear hA
  go_enter Tryd.func85, Tryd.ntmps85
  go_wp2_with fail
  refine hC.mono ?_; rintro e w1 ⟨rfl, hb⟩
  have hfin := HB0.out.trans (hb.mono HB0.out.size)
  have k0 := blk_below HK0.out hb
  have k1 := blk_below HK1.out hb
  have HF := Lib.hid hfin; clear hfin
  have HKV := Lib.hid k0; clear k0
  have HKX := Lib.hid k1; clear k1 hb hC HB0 HK0 HK1
  cases b3 : s.toList == [36, 101, 113] with
  | true =>
    have hin : (s.toList == [36, 105, 110]) = false := by rw [beq_iff_eq] at b3; rw [b3]; decide
    have hA := HA.out
    rw [hin, if_neg (by simp), b3, if_pos rfl] at hA
    subst hA
    clear HA hin HTS HIT1 HSM1 HRV HKV HKX
    go_wp2_with fail
    go_ret
    exact ⟨rfl, HF.out⟩
  | false =>
  cases b4 : s.toList == [36, 110, 101] with
  | true =>
    have hin : (s.toList == [36, 105, 110]) = false := by rw [beq_iff_eq] at b4; rw [b4]; decide
    have hA := HA.out
    rw [hin, if_neg (by simp), b3, if_neg (by simp), b4, if_pos rfl] at hA
    subst hA
    clear HA hin HTS HIT1 HSM1 HRV HKV HKX
    go_wp2_with fail
    go_ret
    exact ⟨rfl, HF.out⟩
  | false =>
  cases b5 : s.toList == [36, 108, 116] with
  | true =>
    have hin : (s.toList == [36, 105, 110]) = false := by rw [beq_iff_eq] at b5; rw [b5]; decide
    have hA := HA.out
    rw [hin, if_neg (by simp), b3, if_neg (by simp), b4, if_neg (by simp), b5, if_pos rfl] at hA
    subst hA
    clear HA hin HTS HIT1 HSM1 HRV HKV HKX
    go_wp2_with fail
    go_ret
    exact ⟨rfl, HF.out⟩
  | false =>
  cases b6 : s.toList == [36, 108, 101] with
  | true =>
    have hin : (s.toList == [36, 105, 110]) = false := by rw [beq_iff_eq] at b6; rw [b6]; decide
    have hA := HA.out
    rw [hin, if_neg (by simp), b3, if_neg (by simp), b4, if_neg (by simp), b5, if_neg (by simp), b6, if_pos rfl] at hA
    subst hA
    clear HA hin HTS HIT1 HSM1 HRV HKV HKX
    go_wp2_with fail
    go_ret
    exact ⟨rfl, HF.out⟩
  | false =>
  cases b7 : s.toList == [36, 103, 116] with
  | true =>
    have hin : (s.toList == [36, 105, 110]) = false := by rw [beq_iff_eq] at b7; rw [b7]; decide
    have hA := HA.out
    rw [hin, if_neg (by simp), b3, if_neg (by simp), b4, if_neg (by simp), b5, if_neg (by simp), b6, if_neg (by simp), b7, if_pos rfl] at hA
    subst hA
    clear HA hin HTS HIT1 HSM1 HRV HKV HKX
    go_wp2_with fail
    go_ret
    exact ⟨rfl, HF.out⟩
  | false =>
  cases b8 : s.toList == [36, 103, 101] with
  | true =>
    have hin : (s.toList == [36, 105, 110]) = false := by rw [beq_iff_eq] at b8; rw [b8]; decide
    have hA := HA.out
    rw [hin, if_neg (by simp), b3, if_neg (by simp), b4, if_neg (by simp), b5, if_neg (by simp), b6, if_neg (by simp), b7, if_neg (by simp)] at hA
    subst hA
    clear HA hin HTS HIT1 HSM1 HRV HKV HKX
    go_wp2_with fail
    go_ret
    exact ⟨rfl, HF.out⟩
  | false =>
  have hin : (s.toList == [36, 105, 110]) = true := by
    have hn : ∀ l : List UInt8, (s.toList == l) = false → ¬ s.toList = l := fun l e => by simpa using e
    have := HTS.out
    by_cases g7 : s.toList = [36, 105, 110]
    · simpa using g7
    · rw [if_neg (by rintro (h | h | h | h | h | h) <;> first | exact hn _ b3 h | exact hn _ b4 h | exact hn _ b5 h | exact hn _ b6 h | exact hn _ b7 h | exact hn _ b8 h), if_neg g7, if_neg (hn _ b1)] at this
      cases this
  have hA := HA.out
  rw [hin, if_pos rfl] at hA
  clear HA HTS hin
  have HA := Lib.hid hA; clear hA
  go_wp2_with fail
  go_loopw [10] (fun v10 wr => ∃ j : Nat, j ≤ v4.length ∧ v10 = .int .i64 j ∧ (∀ i, i < j → sameF 6 ⟨x0, x1, x2, x3, x4⟩ (v4.getD i z25) = false) ∧ Below w.heap.size w wr ∧ wr.heap[w.heap.size]? = some (.cells (cs25 ⟨v0, v1, v2, v3, v4⟩ A3 c3 A4 c4) 25 (0, 0)) ∧ wr.heap[w.heap.size + 1]? = some (.cells (cs25 ⟨x0, x1, x2, x3, x4⟩ B3 d3 B4 d4) 25 (0, 0))) (fun v10 _ => v4.length - (intOf v10).toNat)
  case atStart => exact ⟨0, Nat.zero_le _, rfl, fun i hi => by omega, HF.out, HKV.out, HKX.out⟩
  case round =>
    obtain ⟨j, hj, rfl, hO, hBr, kv, kx⟩ := hrel
    have HO := Lib.hid hO; clear hO
    have HR := Lib.hid hBr; clear hBr
    clear HF HKV HKX
    have f4 : wr.cell? ⟨w.heap.size, 4, none⟩ = some (.slice A4 v4.length c4) := (blk_cell kv 4).trans rfl
    have i0 : wr.cell? ⟨w.heap.size + 1, 0, none⟩ = some (.int .i64 x0) := (blk_cell kx 0).trans rfl
    have i1 : wr.cell? ⟨w.heap.size + 1, 1, none⟩ = some (.int .i64 x1) := (blk_cell kx 1).trans rfl
    have i2 : wr.cell? ⟨w.heap.size + 1, 2, none⟩ = some (.string x2) := (blk_cell kx 2).trans rfl
    have i3 : wr.cell? ⟨w.heap.size + 1, 3, none⟩ = some (.slice B3 x3.length d3) := (blk_cell kx 3).trans rfl
    have i4 : wr.cell? ⟨w.heap.size + 1, 4, none⟩ = some (.slice B4 x4.length d4) := (blk_cell kx 4).trans rfl
    have HKV := Lib.hid kv; clear kv
    have HKX := Lib.hid kx; clear kx
    by_cases hlt : j < v4.length
    · have hji : (j : Int) < (v4.length : Int) := by omega
      obtain ⟨u, hu⟩ : ∃ y, v4[j]? = some y := ⟨_, List.getElem?_eq_getElem hlt⟩
      obtain ⟨b, o, E3, m3, E4, m4, rfl, hb, e0, e1, e2, e3, e4, hR⟩ := item_of HRV.out.g4 rfl j u hu
      replace e0 := (HR.out.cell (World.block_lt_of_cell? w _ e0)).trans e0
      replace e1 := (HR.out.cell (World.block_lt_of_cell? w _ e1)).trans e1
      replace e2 := (HR.out.cell (World.block_lt_of_cell? w _ e2)).trans e2
      replace e3 := (HR.out.cell (World.block_lt_of_cell? w _ e3)).trans e3
      replace e4 := (HR.out.cell (World.block_lt_of_cell? w _ e4)).trans e4
      have hdr : Below wr.heap.size wr wr.drew := (Below.refl _ wr).drew
      have hmem : u ∈ v4 := List.mem_of_getElem? hu
      have hcw := HIT1.out u hmem E3 m3 E4 m4 wr.drew HR.out.drew ((hR.below HR.out).below hdr)
      have hsm := HSM1.out u hmem
      have hgu : v4.getD j z25 = u := by rw [List.getD_eq_getElem?_getD, hu]; rfl
      have HGU := Lib.hid hgu
      have HMEM := Lib.hid hmem
      clear hR hu hdr hgu hmem
      obtain ⟨u0, u1, u2, u3, u4⟩ := u
      obtain ⟨q, hq⟩ : ∃ q, cmpF 6 (⟨x0, x1, x2, x3, x4⟩ : S25) ⟨u0, u1, u2, u3, u4⟩ = q := ⟨_, rfl⟩
      rw [hq] at hcw hsm
      have HSMQ := Lib.hid hsm; clear hq hsm
      go_upto_region 22 with fail
      refine start_ (n := 8) (S := fun w' => w'.cell? ⟨w.heap.size, 4, none⟩ = some (.slice (some ⟨b, o, none⟩) v4.length c4) ∧ w'.cell? ⟨b, o + j * 5, none⟩ = some (.int .i64 u0) ∧ w'.cell? ⟨b, o + j * 5 + 1, none⟩ = some (.int .i64 u1) ∧ w'.cell? ⟨b, o + j * 5 + 2, none⟩ = some (.string u2) ∧ w'.cell? ⟨b, o + j * 5 + 3, none⟩ = some (.slice E3 u3.length m3) ∧ w'.cell? ⟨b, o + j * 5 + 4, none⟩ = some (.slice E4 u4.length m4) ∧ w'.cell? ⟨w.heap.size + 1, 0, none⟩ = some (.int .i64 x0) ∧ w'.cell? ⟨w.heap.size + 1, 1, none⟩ = some (.int .i64 x1) ∧ w'.cell? ⟨w.heap.size + 1, 2, none⟩ = some (.string x2) ∧ w'.cell? ⟨w.heap.size + 1, 3, none⟩ = some (.slice B3 x3.length d3) ∧ w'.cell? ⟨w.heap.size + 1, 4, none⟩ = some (.slice B4 x4.length d4)) (ds := []) #[false, false, false, false, false, false, false, false] (by kernel_rfl) rfl rfl ⟨f4, e0, e1, e2, e3, e4, i0, i1, i2, i3, i4⟩ (fun hHeld => ?_)
      refine pure_ (i := 1) (N := some 68) (v := ?_) (a' := ?_) #[false, true, false, false, false, false, false, false] rfl rfl (by kernel_rfl) (fun _ _ _ h => h) (Or.inl ⟨by rfl, ?_⟩) ?_ ?_
      rotate_left
      · intro w'
        go_simp
        with_reducible rfl
      rotate_left
      · simp only [Act.put, List.setIfInBounds_toArray, List.set_cons_zero, List.set_cons_succ]
        rfl
      refine pure_ (i := 3) (N := some 70) (v := ?_) (a' := ?_) #[false, true, false, true, false, false, false, false] rfl rfl (by kernel_rfl) (fun _ _ _ h => h) (Or.inl ⟨by rfl, ?_⟩) ?_ ?_
      rotate_left
      · intro w'
        go_simp
        with_reducible rfl
      rotate_left
      · simp only [Act.put, List.setIfInBounds_toArray, List.set_cons_zero, List.set_cons_succ]
        rfl
      refine take_ (i := 0) (N := some 67) (v := ?_) (a' := ?_) #[true, true, false, true, false, false, false, false] rfl rfl (by kernel_rfl) (fun _ _ _ h => h) (Or.inl ⟨by rfl, ?_⟩) hHeld ?_ ?_
      rotate_left
      · rintro w' ⟨s0, s1, s2, s3, s4, s5, s6, s7, s8, s9, s10⟩
        go_simp
        with_reducible rfl
      rotate_left
      · simp only [Act.put, List.setIfInBounds_toArray, List.set_cons_zero, List.set_cons_succ]
        rfl
      refine take_ (i := 2) (N := some 69) (v := ?_) (a' := ?_) #[true, true, true, true, false, false, false, false] rfl rfl (by kernel_rfl) (fun _ _ _ h => h) (Or.inl ⟨by rfl, ?_⟩) hHeld ?_ ?_
      rotate_left
      · rintro w' ⟨s0, s1, s2, s3, s4, s5, s6, s7, s8, s9, s10⟩
        go_simp
        with_reducible rfl
      rotate_left
      · simp only [Act.put, List.setIfInBounds_toArray, List.set_cons_zero, List.set_cons_succ]
        rfl
      refine pure_ (i := 4) (N := some 71) (v := ?_) (a' := ?_) #[true, true, true, true, true, false, false, false] rfl rfl (by kernel_rfl) (fun _ _ _ h => h) (Or.inl ⟨by rfl, ?_⟩) ?_ ?_
      rotate_left
      · intro w'
        go_simp
        with_reducible rfl
      rotate_left
      · simp only [Act.put, List.setIfInBounds_toArray, List.set_cons_zero, List.set_cons_succ]
        rfl
      refine take_ (i := 5) (N := some 72) (v := ?_) (a' := ?_) #[true, true, true, true, true, true, false, false] rfl rfl (by kernel_rfl) (fun _ _ _ h => h) (Or.inl ⟨by rfl, ?_⟩) hHeld ?_ ?_
      rotate_left
      · rintro w' ⟨s0, s1, s2, s3, s4, s5, s6, s7, s8, s9, s10⟩
        go_simp
        with_reducible rfl
      rotate_left
      · simp only [Act.put, List.setIfInBounds_toArray, List.set_cons_zero, List.set_cons_succ]
        rfl
      refine one_ (i := 6) (N := some 73) #[true, true, true, true, true, true, true, false] rfl rfl (by kernel_rfl) (by decide) (fun K hK => ?_)
      refine goes_ Tryd.func84 (by kernel_rfl) rfl #[.agg #[.int .i64 x0, .int .i64 x1, .string x2, .slice B3 x3.length d3, .slice B4 x4.length d4], .agg #[.int .i64 u0, .int .i64 u1, .string u2, .slice E3 u3.length m3, .slice E4 u4.length m4]] (by rfl) rfl rfl (by simp only [List.map_toArray, List.map_cons, List.map_nil]; rfl) ?_
      with_reducible refine (hcw).mono ?_
      rintro e w5 ⟨rfl, hbc⟩
      refine ⟨_, rfl, ?_⟩
      have hbw : Below wr.heap.size wr w5 := (Below.refl _ wr).drew.trans hbc
      have HBC := Lib.hid hbw
      clear hbc hbw
      refine hK.out _ _ ⟨((HBC.out.cell (World.block_lt_of_cell? wr _ f4)).trans f4), ((HBC.out.cell (World.block_lt_of_cell? wr _ e0)).trans e0), ((HBC.out.cell (World.block_lt_of_cell? wr _ e1)).trans e1), ((HBC.out.cell (World.block_lt_of_cell? wr _ e2)).trans e2), ((HBC.out.cell (World.block_lt_of_cell? wr _ e3)).trans e3), ((HBC.out.cell (World.block_lt_of_cell? wr _ e4)).trans e4), ((HBC.out.cell (World.block_lt_of_cell? wr _ i0)).trans i0), ((HBC.out.cell (World.block_lt_of_cell? wr _ i1)).trans i1), ((HBC.out.cell (World.block_lt_of_cell? wr _ i2)).trans i2), ((HBC.out.cell (World.block_lt_of_cell? wr _ i3)).trans i3), ((HBC.out.cell (World.block_lt_of_cell? wr _ i4)).trans i4)⟩ (fun hHeld => ?_)
      clear hK K
      refine norm_ (a' := ?_) ?_ ?_
      rotate_left
      · show Act.put _ (some 73) _ = _
        simp only [Act.put, List.setIfInBounds_toArray, List.set_cons_zero, List.set_cons_succ]
        rfl
      refine pure_ (i := 7) (N := some 74) (v := ?_) (a' := ?_) #[true, true, true, true, true, true, true, true] rfl rfl (by kernel_rfl) (fun _ _ _ h => h) (Or.inl ⟨by rfl, ?_⟩) ?_ ?_
      rotate_left
      · intro w'
        go_simp
        with_reducible rfl
      rotate_left
      · simp only [Act.put, List.setIfInBounds_toArray, List.set_cons_zero, List.set_cons_succ]
        rfl
      refine done_ (by kernel_rfl) ?_

      have hB3 := HR.out.trans (HBC.out.mono HR.out.size)
      have HB3 := Lib.hid hB3; clear hB3
      clear hcw e0 e1 e2 e3 e4 f4 i0 i1 i2 i3 i4
      cases hq0 : q == 0 with
      | true =>
        have hno : ANS = true := by
          rw [← HA.out]
          exact List.any_eq_true.2 ⟨_, HMEM.out, HSMQ.out.1 (by simpa using hq0)⟩
        subst hno
        clear HA
        go_wp2_with fail
        go_ret
        exact ⟨rfl, HB3.out⟩
      | false =>
        go_wp2_with fail
        go_roundw
        case rel =>
          refine ⟨j + 1, by omega, by go_num, fun i hi => ?_, HB3.out, blk_below HKV.out HBC.out, blk_below HKX.out HBC.out⟩
          by_cases hi' : i < j
          · exact HO.out i hi'
          · obtain rfl : i = j := by omega
            rw [HGU.out]
            cases hsq : sameF 6 ⟨x0, x1, x2, x3, x4⟩ ⟨u0, u1, u2, u3, u4⟩ with
            | false => rfl
            | true =>
              have := HSMQ.out.2 hsq
              rw [this] at hq0
              cases hq0
        case measure => simp [intOf]; omega
    · have hnl : ¬ (j : Int) < (v4.length : Int) := by omega
      have hall : ANS = false := by
        rw [← HA.out]
        refine List.any_eq_false.2 (fun y hy => ?_)
        obtain ⟨i, hi, rfl⟩ := List.getElem_of_mem hy
        have := HO.out i (by omega)
        rw [List.getD_eq_getElem?_getD, List.getElem?_eq_getElem hi] at this
        simpa using this
      subst hall
      clear HA
      go_wp2_with fail
      go_ret
      exact ⟨rfl, HR.out⟩

end Go.Proofs.YtehdnjegipcpfaaDoor
