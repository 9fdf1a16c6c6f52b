/-
  The contract of path.place at formed values; no other condition.
-/
import Derived.Test.YtehdnjegipcpfaaDoorK
import Derived.Test.YtehdnjegipcpfaaDoorI
import Derived.Test.YtehdnjegipcpfaaDoorPFilterHoldsx2
namespace Go.Proofs.YtehdnjegipcpfaaDoor
open Go.RowKit Go.Proofs.YtehdnjegipcpfaaDoorW.PrintWords Go.Proofs.YtehdnjegipcpfaaDoorW.PrintLast Go.Proofs.YtehdnjegipcpfaaDoorW.PrintMore
open PFilterHolds Go.Shelf

def top (i : Nat) : Int := if i = 0 then 0 else if i = 1 then 9 else if i = 2 then 99 else if i = 3 then 999 else 9999

theorem number_l0 (s : ByteArray) (hs : s.size ≤ 4) : ∀ (d i : Nat) (n : Int), i + d = s.size → 0 ≤ n → n ≤ top i → ∃ r, path_number.l0 (d + 1) s n (i : Int) = some r ∧ -1 ≤ r
  | 0, i, n, h, h0, h1 => ⟨n, by unfold path_number.l0; rw [if_neg (by omega)], by omega⟩
  | d + 1, i, n, h, h0, h1 => by
    unfold path_number.l0
    rw [if_pos (by omega), if_pos (by omega)]
    by_cases c1 : bt s (i : Int) < 48
    · rw [if_pos c1]; exact ⟨-1, rfl, by omega⟩
    rw [if_neg c1]
    by_cases c2 : bt s (i : Int) > 57
    · rw [if_pos c2]; exact ⟨-1, rfl, by omega⟩
    rw [if_neg c2]
    have ht : top i * 10 + 9 = top (i + 1) ∧ top i ≤ 999 := by
      have hi : i = 0 ∨ i = 1 ∨ i = 2 ∨ i = 3 := by omega
      rcases hi with rfl | rfl | rfl | rfl <;> decide
    have e : wrap64 (wrap64 (n * 10) + (bt s (i : Int) - 48) % 256) = n * 10 + (bt s (i : Int) - 48) := by unfold wrap64; omega
    have w3 : wrap64 ((i : Int) + 1) = ((i + 1 : Nat) : Int) := by unfold wrap64; omega
    rw [e, w3]
    exact number_l0 s hs d (i + 1) _ (by omega) (by omega) (by omega)

theorem number_j0 (k : Nat) (s : ByteArray) (b : Bool) : path_number.j0 (k + 1) s b = if b = true then some (-1) else path_number.l0 k s 0 0 := by unfold path_number.j0; rfl
theorem place_j0 (k : Nat) (s : ByteArray) (x : S25) : path_place.j0 (k + 1) s x.f0 x.f1 x.f2 x.f3 x.f4 = if x.f0 = 6 then path_place.l0 k s 0 x.f0 x.f1 x.f2 x.f3 x.f4 else some (-1) := by unfold path_place.j0; rfl

theorem number_tot (s : ByteArray) : ∃ r, path_number.f 6 s = some r ∧ -1 ≤ r := by
  unfold path_number.f
  have hj : path_number.j0 6 s true = some (-1) := by rw [number_j0 5, if_pos rfl]
  by_cases h0 : (s.size : Int) = 0
  · rw [if_pos h0, hj]; exact ⟨-1, rfl, by omega⟩
  rw [if_neg h0]
  by_cases h4 : (s.size : Int) > 4
  · rw [if_pos h4, hj]; exact ⟨-1, rfl, by omega⟩
  rw [if_neg h4]
  obtain ⟨r, e, hr⟩ := number_l0 s (by omega) s.size 0 0 (by omega) (by omega) (by unfold top; simp)
  have hl : path_number.l0 5 s 0 0 = some r := le_lift (F := fun k => path_number.l0 k s 0 0) (fun k => (path_number.mono_l k).2 _ _ _) e (by omega)
  have hf : path_number.j0 6 s false = some r := by rw [number_j0 5, if_neg (by simp)]; exact hl
  by_cases h1 : (s.size : Int) > 1
  · rw [if_pos h1, if_pos (by omega)]
    cases hb : bt s 0 == 48 with
    | true => rw [hj]; exact ⟨-1, rfl, by omega⟩
    | false => rw [hf]; exact ⟨r, rfl, hr⟩
  · rw [if_neg h1, hf]; exact ⟨r, rfl, hr⟩

/-- The number of a step; -1: it is none. -/
def numJ (s : ByteArray) : Int := (path_number.f 6 s).getD (-1)
theorem numJ_tot (s : ByteArray) : path_number.f 6 s = some (numJ s) ∧ -1 ≤ numJ s := by
  obtain ⟨r, e, h⟩ := number_tot s
  unfold numJ
  rw [e]
  exact ⟨rfl, h⟩

/-- The first place of a name, from one on; -1: there is none. -/
def nameAt (s : ByteArray) (l : List ByteArray) : Nat → Nat → Int
  | 0, _ => -1
  | d + 1, i => if (l.getD i ByteArray.empty).toList = s.toList then i else nameAt s l d (i + 1)

/-- The place of a step in a value; -1: there is none. -/
def placeJ (x : S25) (s : ByteArray) : Int :=
  if x.f0 = 5 then (if numJ s < x.f4.length then numJ s else -1) else if x.f0 = 6 then nameAt s x.f3 x.f3.length 0 else -1

theorem place_l0 (x : S25) (s : ByteArray) (hb : x.f3.length ≤ 1000) : ∀ d i : Nat, i + d = x.f3.length → path_place.l0 (d + 1) s (i : Int) x.f0 x.f1 x.f2 x.f3 x.f4 = some (nameAt s x.f3 d i)
  | 0, i, h => by unfold path_place.l0 nameAt; rw [if_neg (by omega)]
  | d + 1, i, h => by
    have w3 : wrap64 ((i : Int) + 1) = ((i + 1 : Nat) : Int) := by unfold wrap64; omega
    unfold path_place.l0 nameAt
    rw [if_pos (by omega), if_pos (by omega), w3, place_l0 x s hb d (i + 1) (by omega)]
    have e : rdOf ByteArray.empty x.f3 (i : Int) = x.f3.getD i ByteArray.empty := rfl
    rw [e]
    split <;> rfl

theorem place_tot (x : S25) (s : ByteArray) (hb : x.f3.length ≤ 1000) : ∃ m, path_place.f m x.f0 x.f1 x.f2 x.f3 x.f4 s = some (placeJ x s) := by
  refine ⟨x.f3.length + 6, ?_⟩
  have hn : path_number.f (x.f3.length + 6) s = some (numJ s) := le_lift (F := fun k => path_number.f k s) (fun k => path_number.mono s k) (numJ_tot s).1 (by omega)
  have hj : path_place.j0 (x.f3.length + 6) s x.f0 x.f1 x.f2 x.f3 x.f4 = some (if x.f0 = 6 then nameAt s x.f3 x.f3.length 0 else -1) := by
    rw [place_j0 (x.f3.length + 5)]
    by_cases h6 : x.f0 = 6
    · rw [if_pos h6, if_pos h6]
      exact le_lift (F := fun k => path_place.l0 k s 0 x.f0 x.f1 x.f2 x.f3 x.f4) (fun k => (path_place.mono_l k).2 _ _ _ _ _ _ _) (by simpa using place_l0 x s hb x.f3.length 0 (by omega)) (by omega)
    · rw [if_neg h6, if_neg h6]
  unfold path_place.f placeJ
  by_cases h5 : x.f0 = 5
  · rw [if_pos h5, if_pos h5, hn, Option.bind_some]
    by_cases hl : numJ s < x.f4.length
    · rw [if_pos hl, if_pos hl]
    · rw [if_neg hl, if_neg hl, hj, if_neg (by omega)]
  · rw [if_neg h5, if_neg h5, hj]

theorem place_any (x : S25) (s : ByteArray) (hb : x.f3.length ≤ 1000) (A3 : Option Addr) (c3 : Nat) (A4 : Option Addr) (c4 : Nat) (w : World) (h : Rd w A3 c3 A4 c4 x) :
    Calls Tryd.prog 116 #[av x A3 c3 A4 c4, .string s] w fun e w' => e = .returned (.int .i64 (placeJ x s)) ∧ Below w.heap.size w w' := by
  obtain ⟨m, e⟩ := place_tot x s hb
  exact path_place.calls m x.f0 x.f1 x.f2 A3 c3 x.f3 A4 c4 x.f4 s (placeJ x s) w h.g3 h.l3 h.g4 h.l4 e

end Go.Proofs.YtehdnjegipcpfaaDoor
