/-
  The state of both clocks as plain lists, and how the map of the one says what the lists of the other say.
-/
import Derived.Test.YtcdcdnochlapgaaC
import Derived.Test.YtcdcdnochlapgaaE
namespace Go.Proofs.Ytcdcdnochlapgaa
open Go.RowKit Go.Maps

/-- The map's datum says what the two lists say. -/
structure Rel (D : Dt) (ts : List Int) (ls : List Bool) : Prop where
  has : ∀ id : Int, Maps.has D (id64 id) = alive ls id
  at_ : ∀ (id x : Int), alive ls id = true → ts[(id - 1).toNat]? = some x → D.atKey (id64 id) (u64d 0) = u64d x

theorem id64_ne {a b : Int} (h : a ≠ b) : id64 a ≠ id64 b := fun e => h (by injection e)

theorem alive_nil (id : Int) : alive [] id = false := by simp [alive]

theorem Rel.start : Rel (.map []) [] [] := ⟨fun id => by rw [alive_nil]; rfl, fun id x h => by rw [alive_nil] at h; cases h⟩

theorem key_lit (id : Int) : WideAt.IsKeyLit (id64 id) := trivial

theorem alive_set {ls : List Bool} {k : Nat} (hk : k < ls.length) (v : Bool) (id : Int) : alive (ls.set k v) id = if id = (k : Int) + 1 then v else alive ls id := by
  unfold alive
  by_cases e : id = (k : Int) + 1
  · subst e
    rw [if_pos rfl]
    have : ((k : Int) + 1 - 1).toNat = k := by omega
    rw [this, List.getElem?_set_self hk]
    simp
    omega
  · rw [if_neg e]
    by_cases h1 : 1 ≤ id
    · rw [List.getElem?_set_ne (by omega)]
    · simp [h1]

theorem alive_snoc (ls : List Bool) (v : Bool) (id : Int) : alive (ls ++ [v]) id = if id = (ls.length : Int) + 1 then v else alive ls id := by
  unfold alive
  by_cases e : id = (ls.length : Int) + 1
  · subst e
    rw [if_pos rfl]
    have : ((ls.length : Int) + 1 - 1).toNat = ls.length := by omega
    rw [this, List.getElem?_append_right (Nat.le_refl _)]
    simp
    omega
  · rw [if_neg e]
    by_cases h1 : 1 ≤ id
    · rcases Nat.lt_or_ge (id - 1).toNat ls.length with h | h
      · rw [List.getElem?_append_left h]
      · rw [List.getElem?_append_right h, List.getElem?_eq_none (l := ls) h, List.getElem?_eq_none (by simp; omega)]
    · simp [h1]

/-- A number that is put: it lives, at the time that is. -/
theorem Rel.put {D : Dt} {ts : List Int} {ls : List Bool} (h : Rel D ts ls) (hm : Maps.IsMap D) {j : Int} {now : Int} {ts' : List Int} {ls' : List Bool}
    (ha : ∀ id, alive ls' id = if id = j then true else alive ls id) (hj : ts'[(j - 1).toNat]? = some now) (ho : ∀ id : Int, 1 ≤ id → id ≠ j → ∀ x, alive ls id = true → ts'[(id - 1).toNat]? = some x → ts[(id - 1).toNat]? = some x) :
    Rel (D.put (id64 j) (u64d now)) ts' ls' := by
  refine ⟨fun id => ?_, fun id x hid hx => ?_⟩
  · rw [ha]
    by_cases e : id = j
    · subst e
      rw [if_pos rfl]
      exact Maps.has_put_same hm (key_lit _) _
    · rw [if_neg e, Maps.has_put_other (id64_ne e)]
      exact h.has id
  · by_cases e : id = j
    · subst e
      rw [hj] at hx
      injection hx with hx
      rw [Maps.atKey_put_same hm (key_lit _), hx]
    · rw [Maps.atKey_put_other (id64_ne e)]
      rw [ha, if_neg e] at hid
      exact h.at_ id x hid (ho id (alive_iff.1 hid).1 e x hid hx)

theorem Rel.del {D : Dt} {ts : List Int} {ls : List Bool} (h : Rel D ts ls) {id : Int} (hid : alive ls id = true) : Rel (D.del (id64 id)) ts (ls.set (id - 1).toNat false) := by
  obtain ⟨h1, h2⟩ := alive_iff.1 hid
  have hk := (List.getElem?_eq_some_iff.1 h2).1
  have hs : ∀ i, alive (ls.set (id - 1).toNat false) i = if i = id then false else alive ls i := fun i => by
    rw [alive_set hk]
    have : (((id - 1).toNat : Nat) : Int) + 1 = id := by omega
    rw [this]
  refine ⟨fun i => ?_, fun i x hi hx => ?_⟩
  · rw [hs]
    by_cases e : i = id
    · subst e
      rw [if_pos rfl]
      exact Maps.has_del_same
    · rw [if_neg e, Maps.has_del_other (id64_ne e)]
      exact h.has i
  · rw [hs] at hi
    by_cases e : i = id
    · rw [if_pos e] at hi; cases hi
    · rw [if_neg e] at hi
      rw [Maps.atKey_del_other (id64_ne e)]
      exact h.at_ i x hi hx

/-- What a state is: the time, the times, who lives. -/
structure St where
  now : Int
  ts : List Int
  ls : List Bool

def St.take (s : St) : St := if free s.ls < s.ls.length then ⟨s.now, s.ts.set (free s.ls) s.now, s.ls.set (free s.ls) true⟩ else ⟨s.now, s.ts ++ [s.now], s.ls ++ [true]⟩
def St.drop (s : St) (id : Int) : St := if alive s.ls id then ⟨s.now, s.ts, s.ls.set (id - 1).toNat false⟩ else s
def St.tick (s : St) : St := if s.now = 18446744073709551615 then s else ⟨s.now + 1, s.ts, s.ls⟩
def St.act (s : St) (k id : Int) : St := if k = 1 then s.tick else if k = 2 then s.take else if k = 3 then s.drop id else s

/-- A state that may be. -/
structure St.Ok (s : St) (N : Nat) : Prop where
  lo : 0 ≤ s.now
  hi : s.now ≤ 18446744073709551615
  len : s.ts.length = s.ls.length
  few : s.ls.length ≤ N
  le : ∀ t ∈ s.ts, t ≤ s.now

theorem St.Ok.tick {s : St} {N : Nat} (h : s.Ok N) : s.tick.Ok N := by
  unfold St.tick
  split
  · exact h
  · rename_i e
    have h1 := h.lo
    have h2 := h.hi
    exact ⟨by show 0 ≤ s.now + 1; omega, by show s.now + 1 ≤ _; omega, h.len, h.few, fun t ht => by have := h.le t ht; show t ≤ s.now + 1; omega⟩

theorem St.Ok.take {s : St} {N : Nat} (h : s.Ok N) : s.take.Ok (N + 1) := by
  have h3 := h.few
  have h4 := h.len
  unfold St.take
  split
  · refine ⟨h.lo, h.hi, by simp [h.len], by simp; omega, fun t ht => ?_⟩
    rcases List.mem_or_eq_of_mem_set ht with ht | rfl
    · exact h.le t ht
    · exact Int.le_refl _
  · refine ⟨h.lo, h.hi, by simp [h.len], by simp; omega, fun t ht => ?_⟩
    rcases List.mem_append.1 ht with ht | ht
    · exact h.le t ht
    · rw [List.mem_singleton.1 ht]; exact Int.le_refl _

theorem St.Ok.drop {s : St} {N : Nat} (h : s.Ok N) (id : Int) : (s.drop id).Ok N := by
  unfold St.drop
  split
  · exact ⟨h.lo, h.hi, by simp [h.len], by simp; exact h.few, h.le⟩
  · exact h

theorem St.Ok.mono {s : St} {N M : Nat} (h : s.Ok N) (hm : N ≤ M) : s.Ok M := ⟨h.lo, h.hi, h.len, Nat.le_trans h.few hm, h.le⟩

theorem Rel.take {D : Dt} {s : St} (h : Rel D s.ts s.ls) (hm : Maps.IsMap D) (hlen : s.ts.length = s.ls.length) : Rel (D.put (id64 ((free s.ls : Int) + 1)) (u64d s.now)) s.take.ts s.take.ls := by
  have hj : ((free s.ls : Int) + 1 - 1).toNat = free s.ls := by omega
  unfold St.take
  by_cases hf : free s.ls < s.ls.length
  · rw [if_pos hf]
    refine h.put hm (fun id => alive_set hf true id) ?_ (fun id h1 hne x _ hx => ?_)
    · rw [hj]
      exact List.getElem?_set_self (by rw [hlen]; exact hf)
    · rw [List.getElem?_set_ne (by omega)] at hx
      exact hx
  · rw [if_neg hf]
    have hff := free_full hf
    rw [hff] at hj ⊢
    refine h.put hm (fun id => alive_snoc s.ls true id) ?_ (fun id h1 hne x hal hx => ?_)
    · rw [hj, ← hlen]
      simp
    · have := (List.getElem?_eq_some_iff.1 (alive_iff.1 hal).2).1
      rw [List.getElem?_append_left (by omega)] at hx
      exact hx

theorem Rel.drop {D : Dt} {s : St} (h : Rel D s.ts s.ls) (id : Int) (hid : alive s.ls id = true) : Rel (D.del (id64 id)) (s.drop id).ts (s.drop id).ls := by
  unfold St.drop
  rw [if_pos hid]
  exact h.del hid

theorem Rel.time {D : Dt} {ts : List Int} {ls : List Bool} (h : Rel D ts ls) (hlen : ts.length = ls.length) {id t : Int} (ht : D.atKey (id64 id) (u64d 0) = u64d t) : t = timeOf ts ls id := by
  unfold timeOf
  cases ha : alive ls id with
  | true =>
    have hk := (List.getElem?_eq_some_iff.1 (alive_iff.1 ha).2).1
    have hx : ts[(id - 1).toNat]? = some (ts[(id - 1).toNat]'(by omega)) := List.getElem?_eq_getElem _
    have := h.at_ id _ ha hx
    rw [this] at ht
    rw [if_pos rfl, hx]
    exact (u64d_inj ht).symm
  | false =>
    have h0 : Maps.has D (id64 id) = false := by rw [h.has, ha]
    rw [Maps.atKey_of_not_has h0] at ht
    simpa using (u64d_inj ht).symm

end Go.Proofs.Ytcdcdnochlapgaa
