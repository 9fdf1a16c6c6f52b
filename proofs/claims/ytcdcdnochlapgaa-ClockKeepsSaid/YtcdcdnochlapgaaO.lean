/-
  The contracts of Live of both clocks: one list, the numbers that live, rising; and of the comparing of two lists.
-/
import Derived.Test.YtcdcdnochlapgaaN
namespace Go.Proofs.Ytcdcdnochlapgaa
open Go.RowKit Go.Maps Go.Sort Go.Shelf

/-- The numbers from n on that live. -/
def liveFrom : List Bool → Nat → List Int
  | [], _ => []
  | b :: r, n => if b then ((n : Int) + 1) :: liveFrom r (n + 1) else liveFrom r (n + 1)
def liveS (ls : List Bool) : List Int := liveFrom ls 0

theorem mem_liveFrom : ∀ (ls : List Bool) (n : Nat) (x : Int), x ∈ liveFrom ls n ↔ ∃ k : Nat, ls[k]? = some true ∧ x = (n : Int) + k + 1
  | [], n, x => by simp [liveFrom]
  | b :: r, n, x => by
    have ih := mem_liveFrom r (n + 1) x
    unfold liveFrom
    constructor
    · intro h
      cases b with
      | true =>
        rw [if_pos rfl] at h
        rcases List.mem_cons.1 h with h | h
        · exact ⟨0, rfl, by omega⟩
        · obtain ⟨k, h1, h2⟩ := ih.1 h
          exact ⟨k + 1, by simpa using h1, by omega⟩
      | false =>
        obtain ⟨k, h1, h2⟩ := ih.1 h
        exact ⟨k + 1, by simpa using h1, by omega⟩
    · rintro ⟨k, h1, h2⟩
      cases k with
      | zero =>
        have hb : b = true := by simpa using h1
        rw [hb, if_pos rfl]
        exact List.mem_cons.2 (.inl (by omega))
      | succ k =>
        have := ih.2 ⟨k, by simpa using h1, by omega⟩
        cases b with
        | true => rw [if_pos rfl]; exact List.mem_cons_of_mem _ this
        | false => exact this

theorem liveFrom_rising : ∀ (ls : List Bool) (n : Nat), (liveFrom ls n).Pairwise (· < ·)
  | [], n => List.Pairwise.nil
  | b :: r, n => by
    have ih := liveFrom_rising r (n + 1)
    unfold liveFrom
    cases b with
    | true =>
      rw [if_pos rfl]
      refine List.pairwise_cons.2 ⟨fun x hx => ?_, ih⟩
      obtain ⟨k, _, h2⟩ := (mem_liveFrom r (n + 1) x).1 hx
      omega
    | false => exact ih

theorem mem_liveS (ls : List Bool) (x : Int) : x ∈ liveS ls ↔ alive ls x = true := by
  unfold liveS
  rw [mem_liveFrom, alive_iff]
  constructor
  · rintro ⟨k, h1, h2⟩
    exact ⟨by omega, by rw [show (x - 1).toNat = k by omega]; exact h1⟩
  · rintro ⟨h1, h2⟩
    exact ⟨(x - 1).toNat, h2, by omega⟩

theorem liveFrom_append : ∀ (ls ms : List Bool) (n : Nat), liveFrom (ls ++ ms) n = liveFrom ls n ++ liveFrom ms (n + ls.length)
  | [], ms, n => by simp [liveFrom]
  | b :: r, ms, n => by
    simp only [List.cons_append, liveFrom]
    rw [liveFrom_append r ms (n + 1)]
    rw [show n + 1 + r.length = n + (b :: r).length by simp; omega]
    cases b <;> simp

theorem liveS_snoc (ls : List Bool) (k : Nat) (b : Bool) (h : ls[k]? = some b) : liveS (ls.take (k + 1)) = liveS (ls.take k) ++ if b then [((k : Int) + 1)] else [] := by
  have hk := (List.getElem?_eq_some_iff.1 h).1
  have : ls.take (k + 1) = ls.take k ++ [b] := by
    rw [List.take_add_one, h]; rfl
  rw [this]
  unfold liveS
  rw [liveFrom_append, List.length_take, Nat.min_eq_left (by omega)]
  simp only [liveFrom, Nat.zero_add]

theorem liveFrom_length : ∀ (ls : List Bool) (n : Nat), (liveFrom ls n).length ≤ ls.length
  | [], _ => Nat.le_refl _
  | b :: r, n => by
    have := liveFrom_length r (n + 1)
    unfold liveFrom
    cases b <;> simp <;> omega

theorem liveS_length (ls : List Bool) : (liveS ls).length ≤ ls.length := liveFrom_length ls 0

/-- What the map's keys are, sorted. -/
theorem keys_live {w : World} {m n : Nat} {D : Dt} {ts : List Int} {ls : List Bool} (hown : w.ownsMap Try.prog 3 (plainElem Try.prog 22) m n D) (hr : Rel D ts ls) {ss : List Int} (hp : ss.Perm (intKeys D)) :
    ss.mergeSort (fun x y => decide (x ≤ y)) = liveS ls := by
  have hc : CollectedI D (fun _ => false) (liveS ls) :=
    ⟨(liveFrom_rising ls 0).imp (fun h => Int.ne_of_lt h), fun x => ⟨fun h => ⟨by rw [hr.has]; exact (mem_liveS ls x).1 h, rfl⟩, fun h => (mem_liveS ls x).2 (by rw [← hr.has]; exact h.1)⟩⟩
  have h2 := hc.perm hown law3 Try.underlying3 (fun _ => rfl)
  have h3 : ss.mergeSort leI = (liveS ls).mergeSort leI := mergeSort_of_perm_i (hp.trans h2.symm)
  have h4 : (liveS ls).mergeSort leI = liveS ls := List.mergeSort_of_pairwise ((liveFrom_rising ls 0).imp (fun h => by simp only [leI, decide_eq_true_eq]; exact Int.le_of_lt h))
  exact h3.trans h4

/-- A new slice that holds a list of numbers. -/
def Holds1 (base : Nat) (xs : List Int) (w : World) (e : Ending) (w' : World) : Prop := ∃ v : Value, e = .returned v ∧ w'.ownsRow base 3 1 v xs.length (xs.map (Value.int .i64)) ∧ Below w.heap.size w w'

theorem live_two {base c m b N : Nat} {s : St} (w : World) (h : Two w base c m b N s) (hN : N ≤ 100000) : Calls Try.prog 17 #[.pointer (some ⟨c, 0, none⟩)] w (Holds1 w.heap.size (liveS s.ls) w) := by
  obtain ⟨h1, h2, h3, h4, h5, n, D, tv, lv, h6, hc, hw, h9⟩ := h
  refine (live_any w hc (by omega)).mono fun e w' ⟨v, ss, he, hp, hrow, hb⟩ => ?_
  have hk := keys_live hc.own h9 hp
  have hl : ss.length = (liveS s.ls).length := by rw [← hk, List.length_mergeSort]
  rw [hk, hl] at hrow
  exact ⟨v, he, hrow, hb⟩

theorem info3 : (Try.prog.info? 3).map (fun i => (i.zero, i.size, i.bytes)) = some (some (.int .i64 0), 1, 8) := by kernel_rfl

set_option maxRecDepth 100000 in
set_option maxHeartbeats 1000000 in
theorem wlive_any {base b : Nat} {s : St} {tv lv : Value} (w : World) (h : WS w base b s.now tv lv s.ts s.ls) (hsz : s.ls.length ≤ 100000) :
    Calls Try.prog 20 #[.pointer (some ⟨b, 0, none⟩)] w (Holds1 w.heap.size (liveS s.ls) w) := by
  obtain ⟨c0, c1, c2, f0, f1, f2⟩ := h.cells
  have hlv : ∃ r c, lv = .slice r s.ls.length c := by
    rcases h.hl.2 with ⟨e, h0⟩ | ⟨g, cap, cur, e, _⟩
    · exact ⟨none, 0, by rw [h0]; exact e⟩
    · exact ⟨_, _, e⟩
  obtain ⟨rl, cl, rfl⟩ := hlv
  have hbl := blk_lt h.cell
  have hh := Lib.hid h; clear h
  have hc2 : ∀ {wr : World}, Below w.heap.size w wr → wr.cell? ⟨b, 2, none⟩ = some (.slice rl s.ls.length cl) := fun hb => (hb.cell hbl).trans c2
  have HC := Lib.hid (fun wr => @hc2 wr); clear hc2 c0 c1 f0 f1 f2 c2
  obtain ⟨i0, hi, hz0, hz1, hz2⟩ := info_parts info3
  go_enter Try.func20, Try.ntmps20
  go_wp2
  go_loopw [3, 4] (fun v3 v4 wr => ∃ k : Nat, k ≤ s.ls.length ∧ v4 = .int .i64 k ∧ wr.ownsRow w.heap.size 3 1 v3 (liveS (s.ls.take k)).length ((liveS (s.ls.take k)).map (Value.int .i64)) ∧ Below w.heap.size w wr) (fun _ v4 _ => s.ls.length - (intOf v4).toNat)
  case atStart => exact ⟨0, Nat.zero_le _, rfl, World.ownsRow_nil _ _ _ _, Below.refl _ _⟩
  case round =>
    obtain ⟨k, hk, rfl, hrow, hB⟩ := hrel
    have c2 := HC.out wr hB
    by_cases hlt : k < s.ls.length
    · have hki : (k : Int) < (s.ls.length : Int) := by omega
      obtain ⟨x, ex⟩ : ∃ x, s.ls[k]? = some x := ⟨_, List.getElem?_eq_getElem hlt⟩
      have hx : ∃ g, rl = some ⟨g, 0, none⟩ ∧ wr.cell? ⟨g, k, none⟩ = some (.bool x) := by
        obtain ⟨g, cap, e, hg, hc, _⟩ := row_form hh.out.hl (by omega)
        simp only [Value.slice.injEq] at e
        exact ⟨g, e.1, by rw [hB.cell (by exact hg), hc k hlt]; unfold bls; rw [List.getElem?_map, ex]; rfl⟩
      obtain ⟨g, rfl, hx⟩ := hx
      have hstep := liveS_snoc s.ls k x ex
      have HS := Lib.hid hstep; clear hstep ex
      have hlen := liveS_length (s.ls.take k)
      rw [List.length_take] at hlen
      have hle : (liveS (s.ls.take k)).length ≤ 100000 := by omega
      clear hlen
      cases x with
      | false =>
        go_wp2
        go_roundw
        case rel => exact ⟨k + 1, by omega, by go_num, by rw [HS.out]; simpa using hrow, hB⟩
        case measure => simp [intOf]; omega
      | true =>
        go_wp2_with (first
          | (at_builtin; refine wpList_append_lies _ rfl _ _ 44 rfl w.heap.size 3 i0 (.int .i64 0) 1 8 Try.underlying44 hi hz0 hz1 hz2 rfl (by decide) _ _ _ rfl (hrow.alloc _) ⟨wr.heap.size, 0, none⟩ 1 1 [.int .i64 ((k : Int) + 1)] rfl rfl (cell_one_new _ _ _) ?c2 (by decide) ?c3 ?c4 ?c5 _ rfl ?_)
          | go_in)
        case c2 => rfl
        case c3 => unfold maxLen; omega
        case c4 => omega
        case c5 => have := hB.size; omega
        intro gl cl' w1 hown1 hg1 hat1 hlt1
        have hB1 : Below w.heap.size w w1 := (hB.alloc hB.size _).grown hg1 (by simp; have := hB.size; omega) (fun j hj => (hrow.lt j hj).1)
        have H1 := Lib.hid hown1; clear hown1
        clear hg1 hat1 hlt1
        go_wp2
        go_roundw
        case rel =>
          refine ⟨k + 1, by omega, by go_num, ?_, hB1⟩
          rw [HS.out]
          simpa using H1.out
        case measure => simp [intOf]; omega
    · obtain rfl : k = s.ls.length := by omega
      rw [List.take_length] at hrow
      go_wp2
      go_ret
      exact ⟨_, rfl, hrow, hB⟩

end Go.Proofs.Ytcdcdnochlapgaa
