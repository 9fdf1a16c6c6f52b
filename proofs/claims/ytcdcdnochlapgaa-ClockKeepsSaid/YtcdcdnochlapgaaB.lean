/-
  The contracts of the clock methods New, Now, Tick, Time and Drop.
-/
import Derived.Test.YtcdcdnochlapgaaA
namespace Go.Proofs.Ytcdcdnochlapgaa
open Go.RowKit Go.Maps

theorem new_any (now : Int) (w : World) :
    Calls Try.prog 9 #[.int .u64 now] w fun e w' => e = .returned (.pointer (some ⟨w.heap.size + 1, 0, none⟩)) ∧ CS w' (w.heap.size + 1) w.heap.size now 0 (.map []) ∧ Below w.heap.size w w' := by
  have hmm := @run_makeMap Try.prog
  go_enter Try.func9, Try.ntmps9
  go_wp2
  go_ret
  refine ⟨rfl, ⟨?_, ?_⟩, ((Below.refl _ _).alloc (Nat.le_refl _) _).alloc (by simp) _⟩
  · have := (MapKept.heap_alloc (w.alloc (.map #[] 0)) (.cells #[.int .u64 now, .map (some w.heap.size)] 51)).1
    simpa using this
  · exact (World.ownsMap_made w Try.prog 3 _).alloc _

theorem now_any {c m : Nat} {now : Int} {n : Nat} {D : Dt} (w : World) (h : CS w c m now n D) :
    Calls Try.prog 10 #[.pointer (some ⟨c, 0, none⟩)] w fun e w' => e = .returned (.int .u64 now) ∧ w = w' := by
  obtain ⟨c0, c1, f0, f1⟩ := h.cells
  have hh := Lib.hid h; clear h
  go_enter Try.func10, Try.ntmps10
  go_wp2
  go_ret
  exact ⟨rfl, rfl⟩

theorem now_nil (w : World) : Calls Try.prog 10 #[.pointer none] w fun e w' => e = .returned (.int .u64 0) ∧ w = w' := by
  go_enter Try.func10, Try.ntmps10
  go_wp2
  go_ret
  exact ⟨rfl, rfl⟩

theorem tick_full {c m : Nat} {n : Nat} {D : Dt} (w : World) (now : Int) (hn : now = 18446744073709551615) (h : CS w c m now n D) :
    Calls Try.prog 14 #[.pointer (some ⟨c, 0, none⟩)] w fun e w' => e = .returned (.tuple #[.int .u64 0, .int .i64 6]) ∧ w = w' := by
  obtain ⟨c0, c1, f0, f1⟩ := h.cells
  have hh := Lib.hid h; clear h
  have ht : (now == 18446744073709551615) = true := by simp [hn]
  have hn' := Lib.hid hn; clear hn
  go_enter Try.func14, Try.ntmps14
  go_wp2
  go_ret2
  exact ⟨rfl, rfl⟩

theorem tick_goes {c m : Nat} {n : Nat} {D : Dt} (w : World) (now : Int) (h0 : 0 ≤ now) (hn : now < 18446744073709551615) (h : CS w c m now n D) :
    Calls Try.prog 14 #[.pointer (some ⟨c, 0, none⟩)] w fun e w' => e = .returned (.tuple #[.int .u64 (now + 1), .int .i64 0]) ∧ CS w' c m (now + 1) n D ∧ Turn (· = c) w w' := by
  obtain ⟨c0, c1, f0, f1⟩ := h.cells
  have hh := Lib.hid h; clear h
  have ht : (now == 18446744073709551615) = false := by simp; omega
  have hw : IntKind.u64.wrap (now + 1) = now + 1 := by simp [IntKind.wrap, IntKind.bits, IntKind.signed]; omega
  have hH := Lib.hid hn; clear hn
  go_enter Try.func14, Try.ntmps14
  go_wp2
  go_ret2
  refine ⟨rfl, ⟨?_, ?_⟩, (Turn.refl (· = c) w).setCell (p := ⟨c, 0, none⟩) rfl _⟩
  · exact Joins.block_setCell hh.out.cell _
  · exact hh.out.own.setCell hh.out.ne _

theorem tick_nil (w : World) : Calls Try.prog 14 #[.pointer none] w fun e w' => e = .returned (.tuple #[.int .u64 0, .int .i64 1]) ∧ w = w' := by
  go_enter Try.func14, Try.ntmps14
  go_wp2
  go_ret2
  exact ⟨rfl, rfl⟩

theorem time_any {c m : Nat} {now : Int} {n : Nat} {D : Dt} (w : World) (h : CS w c m now n D) (id : Int) (hid : (id64 id).wf = true) :
    Calls Try.prog 15 #[.pointer (some ⟨c, 0, none⟩), .int .i64 id] w fun e w' => ∃ t : Int, e = .returned (.tuple #[.int .u64 t, .bool (Maps.has D (id64 id))]) ∧ D.atKey (id64 id) (u64d 0) = u64d t ∧ w = w' := by
  obtain ⟨c0, c1, f0, f1⟩ := h.cells
  have hown := h.own
  have hkey := keyOf_int_mk Try.underlying3 hid
  have hh := Lib.hid h; clear h
  go_enter Try.func15, Try.ntmps15
  go_wp2_with (first
    | (at_lookup; refine wpList_lookup_own_ok_int _ rfl _ _ 49 rfl 3 22 .u64 law3 Try.underlying49 Try.underlying22 (zero22 _) m n D rfl hown _ _ rfl hkey ?_; intro t hat hwc)
    | go_in)
  go_ret2
  exact ⟨t, rfl, hat, rfl⟩

theorem time_nil (w : World) (id : Int) : Calls Try.prog 15 #[.pointer none, .int .i64 id] w fun e w' => e = .returned (.tuple #[.int .u64 0, .bool false]) ∧ w = w' := by
  go_enter Try.func15, Try.ntmps15
  go_wp2
  go_ret2
  exact ⟨rfl, rfl⟩

theorem drop_nil (w : World) (id : Int) : Calls Try.prog 16 #[.pointer none, .int .i64 id] w fun e w' => e = .returned (.bool false) ∧ w = w' := by
  go_enter Try.func16, Try.ntmps16
  go_wp2_with (go_at_call 15; refine (time_nil _ _).mono ?_; rintro e w' ⟨rfl, rfl⟩)
  go_ret
  exact ⟨rfl, rfl⟩

theorem drop_not {c m : Nat} {now : Int} {n : Nat} {D : Dt} (w : World) (h : CS w c m now n D) (id : Int) (hid : (id64 id).wf = true) (hno : Maps.has D (id64 id) = false) :
    Calls Try.prog 16 #[.pointer (some ⟨c, 0, none⟩), .int .i64 id] w fun e w' => e = .returned (.bool false) ∧ w = w' := by
  have hC := time_any w h id hid
  rw [hno] at hC
  have hH := Lib.hid hno; clear hno
  go_enter Try.func16, Try.ntmps16
  go_wp2_with (go_at_call 15; refine hC.mono ?_; rintro e w' ⟨t, rfl, ht, rfl⟩)
  go_ret
  exact ⟨rfl, rfl⟩

theorem drop_yes {c m : Nat} {now : Int} {n : Nat} {D : Dt} (w : World) (h : CS w c m now n D) (id : Int) (hid : (id64 id).wf = true) (hno : Maps.has D (id64 id) = true) :
    Calls Try.prog 16 #[.pointer (some ⟨c, 0, none⟩), .int .i64 id] w fun e w' => e = .returned (.bool true) ∧ CS w' c m now n (D.del (id64 id)) ∧ Turn (· = m) w w' := by
  obtain ⟨c0, c1, f0, f1⟩ := h.cells
  have hown := h.own
  have hkey := keyOf_int_mk Try.underlying3 hid
  have hC := time_any w h id hid
  rw [hno] at hC
  have hH := Lib.hid hno; clear hno
  have hh := Lib.hid h; clear h
  go_enter Try.func16, Try.ntmps16
  go_wp2_with (first
    | (go_at_call 15; refine hC.mono ?_; rintro e w' ⟨t, rfl, ht, rfl⟩)
    | (at_delete; refine wpList_delete_own _ rfl _ _ 49 3 rfl 22 law3 Try.underlying49 _ m n D rfl hown _ _ rfl hkey ?_; intro w1 hown1 hturn1))
  go_ret
  have ht : Turn (· = m) w w1 := Turn.of_grown hturn1.grown (fun k hk => by cases hk; rfl)
  exact ⟨rfl, ⟨(ht.block c (blk_lt hh.out.cell) (fun e => hh.out.ne e.symm)).trans hh.out.cell, hown1⟩, ht⟩

end Go.Proofs.Ytcdcdnochlapgaa
