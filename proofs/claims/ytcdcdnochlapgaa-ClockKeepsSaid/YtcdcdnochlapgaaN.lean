/-
  The contracts of the methods Oldest and Live of the reference clock, and of the comparing of two lists of numbers.
-/
import Derived.Test.YtcdcdnochlapgaaM
import Derived.Deep.AppendLies
namespace Go.Proofs.Ytcdcdnochlapgaa
open Go.RowKit Go.Maps Go.Sort Go.Shelf

/-- t is the least of the time and of those of the first k that live. -/
def LeastUpto (s : St) (k : Nat) (t : Int) : Prop :=
  t ≤ s.now ∧ (∀ id : Int, id ≤ (k : Int) → alive s.ls id = true → t ≤ timeOf s.ts s.ls id) ∧ (t = s.now ∨ ∃ id, alive s.ls id = true ∧ t = timeOf s.ts s.ls id)

theorem LeastUpto.zero (s : St) : LeastUpto s 0 s.now := ⟨Int.le_refl _, fun id h ha => by have := (alive_iff.1 ha).1; omega, .inl rfl⟩

theorem LeastUpto.whole {s : St} {t : Int} (h : LeastUpto s s.ls.length t) : LeastS s t :=
  ⟨h.1, fun id ha => h.2.1 id (by have := (List.getElem?_eq_some_iff.1 (alive_iff.1 ha).2).1; have := (alive_iff.1 ha).1; omega) ha, h.2.2⟩

theorem LeastUpto.skip {s : St} {k : Nat} {t : Int} (h : LeastUpto s k t) (hk : alive s.ls ((k : Int) + 1) = false ∨ t ≤ timeOf s.ts s.ls ((k : Int) + 1)) : LeastUpto s (k + 1) t := by
  refine ⟨h.1, fun id hid ha => ?_, h.2.2⟩
  by_cases e : id = (k : Int) + 1
  · subst e
    rcases hk with hk | hk
    · rw [hk] at ha; cases ha
    · exact hk
  · exact h.2.1 id (by omega) ha

theorem LeastUpto.take {s : St} {k : Nat} {t u : Int} (h : LeastUpto s k t) (ha : alive s.ls ((k : Int) + 1) = true) (hu : u = timeOf s.ts s.ls ((k : Int) + 1)) (hlt : u < t) : LeastUpto s (k + 1) u := by
  refine ⟨by have := h.1; omega, fun id hid hal => ?_, .inr ⟨_, ha, hu⟩⟩
  by_cases e : id = (k : Int) + 1
  · rw [e, ← hu]; exact Int.le_refl _
  · have := h.2.1 id (by omega) hal
    omega

set_option maxRecDepth 100000 in
set_option maxHeartbeats 1000000 in
theorem woldest_any {base b : Nat} {s : St} {tv lv : Value} (w : World) (h : WS w base b s.now tv lv s.ts s.ls) (hsz : s.ls.length ≤ 1000000) :
    Calls Try.prog 18 #[.pointer (some ⟨b, 0, none⟩)] w fun e w' => ∃ t : Int, e = .returned (.int .u64 t) ∧ LeastS s t ∧ Below w.heap.size w w' := by
  obtain ⟨c0, c1, c2, f0, f1, f2⟩ := h.cells
  have hlen := h.len
  have hlv : ∃ r c, lv = .slice r s.ls.length c := by
    rcases h.hl.2 with ⟨e, h0⟩ | ⟨g, cap, cur, e, _⟩
    · exact ⟨none, 0, by rw [h0]; exact e⟩
    · exact ⟨_, _, e⟩
  obtain ⟨rl, cl, rfl⟩ := hlv
  have HL := Lib.hid hlen; clear hlen
  have hh := Lib.hid h; clear h
  clear f0 f1 f2
  go_enter Try.func18, Try.ntmps18
  go_wp2
  go_loop [3, 4] (fun v3 v4 => ∃ (k : Nat) (t : Int), k ≤ s.ls.length ∧ v4 = .int .i64 k ∧ v3 = .int .u64 t ∧ Hid (LeastUpto s k t)) (fun _ v4 => s.ls.length - (intOf v4).toNat)
  case atStart => exact ⟨0, s.now, Nat.zero_le _, rfl, rfl, LeastUpto.zero s⟩
  case round =>
    obtain ⟨k, t, hk, rfl, rfl, hL⟩ := hrel
    by_cases hlt : k < s.ls.length
    · have hki : (k : Int) < (s.ls.length : Int) := by omega
      obtain ⟨x, ex⟩ : ∃ x, s.ls[k]? = some x := ⟨_, List.getElem?_eq_getElem hlt⟩
      have hkt : k < s.ts.length := by rw [HL.out]; exact hlt
      have hkti : (k : Int) < (s.ts.length : Int) := by omega
      obtain ⟨y, ey⟩ : ∃ y, s.ts[k]? = some y := ⟨_, List.getElem?_eq_getElem hkt⟩
      have hx : ∃ g, rl = some ⟨g, 0, none⟩ ∧ w.cell? ⟨g, k, none⟩ = some (.bool x) := by
        obtain ⟨g, cap, e, hg, hc, _⟩ := row_form hh.out.hl (by omega)
        simp only [Value.slice.injEq] at e
        exact ⟨g, e.1, by rw [hc k hlt]; unfold bls; rw [List.getElem?_map, ex]; rfl⟩
      obtain ⟨g, rfl, hx⟩ := hx
      obtain ⟨gt, ct, et, hgt, hct, _⟩ := row_form hh.out.ht (by omega)
      rw [et] at c1
      have hy : w.cell? ⟨gt, k, none⟩ = some (.int .u64 y) := by rw [hct k hkt]; unfold u64s; rw [List.getElem?_map, ey]; rfl
      have hs : ((k : Int) + 1 - 1).toNat = k := by omega
      have ha : alive s.ls ((k : Int) + 1) = x := by unfold alive; rw [hs, ex]; simp; omega
      have hT : x = true → timeOf s.ts s.ls ((k : Int) + 1) = y := fun e => by unfold timeOf; rw [ha, if_pos e, hs, ey]; rfl
      have HA := Lib.hid ha; clear ha
      have HT := Lib.hid hT; clear hT
      clear ex ey hs et hct
      cases x with
      | false =>
        go_wp2
        go_round
        case rel => exact ⟨k + 1, t, by omega, by go_num, rfl, hL.out.skip (.inl HA.out)⟩
        case measure => simp [intOf]; omega
      | true =>
        by_cases hyt : y < t
        · have d1 : decide (y < t) = true := by simpa using hyt
          go_wp2
          go_round
          case rel => exact ⟨k + 1, y, by omega, by go_num, rfl, hL.out.take HA.out (HT.out rfl).symm hyt⟩
          case measure => simp [intOf]; omega
        · have d1 : decide (y < t) = false := by simpa using hyt
          have HY := Lib.hid hyt; clear hyt
          go_wp2
          go_round
          case rel => exact ⟨k + 1, t, by omega, by go_num, rfl, hL.out.skip (.inr (by have := HY.out; rw [HT.out rfl]; omega))⟩
          case measure => simp [intOf]; omega
    · obtain rfl : k = s.ls.length := by omega
      go_wp2
      go_ret
      exact ⟨t, rfl, hL.out.whole, Below.refl _ _⟩

end Go.Proofs.Ytcdcdnochlapgaa
