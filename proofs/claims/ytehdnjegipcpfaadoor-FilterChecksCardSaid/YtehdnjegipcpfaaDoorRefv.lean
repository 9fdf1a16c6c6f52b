/-
  The reference's Valid tells which texts are valid UTF-8: the contracts of its broken and Valid; texts of few bytes.
-/
import Derived.Test.YtehdnjegipcpfaaDoorBase
import Derived.Lib.OthersKept
import Derived.Lib.MapLaws
import Derived.Lib.ValidLaws
import Derived.Lib.TrimUEq
import Derived.Laws.Cover4
import Derived.Laws.RangeString
import Derived.WalkLawsBesides
namespace Go.Proofs.YtehdnjegipcpfaaDoor
open Go.RowKit Go.Proofs.YtehdnjegipcpfaaDoorW.PrintWords Go.Proofs.YtehdnjegipcpfaaDoorW.PrintLast Go.Proofs.YtehdnjegipcpfaaDoorW.PrintMore
open PFilterHolds Go.Shelf

set_option maxRecDepth 100000 in
theorem encode_eq (r : Nat) (h : r < 55296 ∨ 57343 < r) (h' : r ≤ 1114111) : (Utf8.encode (r : Int)).data.toList = Lib.encodeRune (r : Int) := by
  have hv : Utf8.valid (r : Int) = true := by unfold Utf8.valid; simp; omega
  unfold Utf8.encode Lib.encodeRune Lib.encodeRuneZ
  rw [hv]
  simp only [if_true, Int.toNat_natCast]
  by_cases c1 : r < 128
  · rw [if_pos c1, if_pos (show 0 ≤ (r : Int) ∧ (r : Int) ≤ 127 by omega)]
    simp
  rw [if_neg c1, if_neg (show ¬ (0 ≤ (r : Int) ∧ (r : Int) ≤ 127) by omega)]
  by_cases c2 : r < 2048
  · rw [if_pos c2, if_pos (show 128 ≤ (r : Int) ∧ (r : Int) ≤ 2047 by omega)]
    simp only [List.map_cons, List.map_nil]
    rw [show (192 + (r : Int) / 64).toNat = 192 + r / 64 by omega, show (128 + (r : Int) % 64).toNat = 128 + r % 64 by omega]
  rw [if_neg c2, if_neg (show ¬ (128 ≤ (r : Int) ∧ (r : Int) ≤ 2047) by omega)]
  by_cases c3 : r < 65536
  · rw [if_pos c3, if_pos (show (2048 ≤ (r : Int) ∧ (r : Int) < 55296) ∨ (57343 < (r : Int) ∧ (r : Int) ≤ 65535) by omega)]
    simp only [List.map_cons, List.map_nil]
    rw [show (224 + (r : Int) / 4096).toNat = 224 + r / 4096 by omega, show (128 + (r : Int) / 64 % 64).toNat = 128 + r / 64 % 64 by omega, show (128 + (r : Int) % 64).toNat = 128 + r % 64 by omega]
  · rw [if_neg c3, if_neg (show ¬ ((2048 ≤ (r : Int) ∧ (r : Int) < 55296) ∨ (57343 < (r : Int) ∧ (r : Int) ≤ 65535)) by omega), if_pos (show 65536 ≤ (r : Int) ∧ (r : Int) ≤ 1114111 by omega)]
    simp only [List.map_cons, List.map_nil]
    rw [show (240 + (r : Int) / 262144).toNat = 240 + r / 262144 by omega, show (128 + (r : Int) / 4096 % 64).toNat = 128 + r / 4096 % 64 by omega, show (128 + (r : Int) / 64 % 64).toNat = 128 + r / 64 % 64 by omega, show (128 + (r : Int) % 64).toNat = 128 + r % 64 by omega]

/-- The runes of a text, from a place on. -/
def rz (s : ByteArray) : Nat → Nat → List Int
  | 0, _ => []
  | b + 1, i => if i < s.size then ((Utf8.decode s i).1 : Int) :: rz s b (i + (Utf8.decode s i).2) else []

theorem runesFrom_eq (s : ByteArray) : ∀ (b i : Nat) (acc : Array Value), (Conv.runesFrom s b i acc).toList = acc.toList ++ (rz s b i).map (Value.int .i32)
  | 0, i, acc => by simp [Conv.runesFrom, rz]
  | b + 1, i, acc => by
    unfold Conv.runesFrom rz
    by_cases h : i < s.size
    · rw [if_pos h, if_pos h]
      simp only
      rw [runesFrom_eq s b]
      simp
    · rw [if_neg h, if_neg h]
      simp

theorem runesBytes_list : ∀ (ns : List Int) (s : ByteArray), (ns.foldl (fun r n => r ++ Utf8.encode n) s).data.toList = s.data.toList ++ ns.flatMap (fun n => (Utf8.encode n).data.toList)
  | [], s => by simp
  | n :: ns, s => by
    rw [List.foldl_cons, runesBytes_list ns]
    simp

theorem rune_range (l : List UInt8) : ((Lib.decodeL l).1 < 55296 ∨ 57343 < (Lib.decodeL l).1) ∧ (Lib.decodeL l).1 ≤ 1114111 := by
  rw [Lib.decodeL_N]
  have k0 := (l.getD 0 0).toNat_lt
  rcases Lib.decodeN_shape l.length (l.getD 0 0).toNat (l.getD 1 0).toNat (l.getD 2 0).toNat (l.getD 3 0).toNat with ⟨c, e⟩ | ⟨c1, c2, c3, cv, e⟩ | ⟨c1, c2, c3, c4, cv, cs, e⟩ | ⟨c1, c2, c3, c4, c5, cv, cw, e⟩ | e
  all_goals rw [e]
  all_goals dsimp only
  all_goals omega

theorem valid_runes (s : ByteArray) : ∀ (b i : Nat), s.size - i ≤ b → Lib.validD (s.data.toList.drop i) = true → (rz s b i).flatMap (fun n => (Utf8.encode n).data.toList) = s.data.toList.drop i
  | 0, i, hb, _ => by
    rw [List.drop_of_length_le (by have : s.data.toList.length = s.size := by simp
                                   omega)]
    rfl
  | b + 1, i, hb, hv => by
    have hsz : s.data.toList.length = s.size := by simp
    unfold rz
    by_cases h : i < s.size
    · rw [if_pos h]
      have hne : s.data.toList.drop i ≠ [] := by
        intro e
        have := congrArg List.length e
        rw [List.length_drop, hsz] at this
        simp at this
        omega
      rw [Lib.validD_step _ hne] at hv
      by_cases hbad : (Lib.decodeL (s.data.toList.drop i)).1 = 65533 ∧ (Lib.decodeL (s.data.toList.drop i)).2 = 1
      · rw [if_pos hbad] at hv; cases hv
      · rw [if_neg hbad] at hv
        have hr := rune_range (s.data.toList.drop i)
        have he := Lib.encode_decode _ hne hbad
        rw [List.drop_drop] at hv
        rw [Lib.decodeL_drop] at hv hr he
        have hp := Lib.width_pos s i
        rw [List.flatMap_cons, valid_runes s b _ (by omega) hv, encode_eq _ hr.1 hr.2, he, ← List.drop_drop, List.take_append_drop]
    · rw [if_neg h, List.drop_of_length_le (by omega)]
      rfl

theorem valid_round (s : ByteArray) (hv : vstr s = true) : runesBytes (rz s s.size 0) = s := by
  have h1 := runesBytes_list (rz s s.size 0) ByteArray.empty
  have h2 := valid_runes s s.size 0 (by omega) hv
  rw [h2] at h1
  have h3 : (runesBytes (rz s s.size 0)).data.toList = s.data.toList := by
    unfold runesBytes
    rw [h1]
    simp
  cases hr : runesBytes (rz s s.size 0) with
  | mk d =>
    cases s with
    | mk d' =>
      rw [hr] at h3
      have : d = d' := Array.toList_inj.1 h3
      rw [this]

theorem bad_iff (s : ByteArray) (i : Nat) (hi : i < s.size) (hr : (Utf8.decode s i).1 = 65533) : (Utf8.decode s i).2 = 1 ↔ (s.size < i + 3 ∨ ¬ (s.extract i (i + 3)).data.toList = [239, 191, 189]) := by
  have hsz : s.data.toList.length = s.size := by simp
  have hdl := Lib.decodeL_drop s i
  have hx : (s.extract i (i + 3)).data.toList = (s.data.toList.drop i).take 3 := by
    simp [ByteArray.data_extract, List.take_drop]
  rw [hx, ← hdl]
  rw [← hdl] at hr
  have hl : (s.data.toList.drop i).length = s.size - i := by rw [List.length_drop, hsz]
  generalize s.data.toList.drop i = l at hr hl
  rw [Lib.decodeL_N] at hr ⊢
  rcases Lib.decodeN_shape l.length (l.getD 0 0).toNat (l.getD 1 0).toNat (l.getD 2 0).toNat (l.getD 3 0).toNat with ⟨c, e⟩ | ⟨c1, c2, c3, cv, e⟩ | ⟨c1, c2, c3, c4, cv, cs, e⟩ | ⟨c1, c2, c3, c4, c5, cv, cw, e⟩ | e
  · rw [e] at hr; dsimp only at hr; omega
  · rw [e] at hr; dsimp only at hr; omega
  · rw [e] at hr ⊢
    dsimp only at hr ⊢
    constructor
    · intro h; omega
    · rintro (h | h)
      · omega
      · exfalso
        apply h
        rw [Lib.takeC l c2]
        have k0 := (l.getD 0 0).toNat_lt
        have k1 := (l.getD 1 0).toNat_lt
        have k2 := (l.getD 2 0).toNat_lt
        have e0 : (l.getD 0 0) = 239 := UInt8.toNat_inj.1 (by show _ = 239; omega)
        have e1 : (l.getD 1 0) = 191 := UInt8.toNat_inj.1 (by show _ = 191; omega)
        have e2 : (l.getD 2 0) = 189 := UInt8.toNat_inj.1 (by show _ = 189; omega)
        rw [e0, e1, e2]
  · rw [e] at hr; dsimp only at hr; omega
  · rw [e]
    dsimp only
    refine ⟨fun _ => ?_, fun _ => rfl⟩
    by_cases h3 : s.size < i + 3
    · exact .inl h3
    · right
      intro h
      have h2 : 2 < l.length := by omega
      rw [Lib.takeC l h2] at h
      injection h with a0 h
      injection h with a1 h
      injection h with a2 _
      rw [a0, a1, a2] at e
      have : Lib.decodeN l.length (239 : UInt8).toNat (191 : UInt8).toNat (189 : UInt8).toNat (l.getD 3 0).toNat = (65533, 3) := by
        unfold Lib.decodeN
        simp
        omega
      rw [this] at e
      cases e

theorem broken_step (s : ByteArray) (i : Nat) (hi : i < s.size) : Lib.validD (s.data.toList.drop i) = if (Utf8.decode s i).1 = 65533 ∧ (Utf8.decode s i).2 = 1 then false else Lib.validD (s.data.toList.drop (i + (Utf8.decode s i).2)) := by
  have hsz : s.data.toList.length = s.size := by simp
  have hne : s.data.toList.drop i ≠ [] := by
    intro e
    have := congrArg List.length e
    rw [List.length_drop, hsz] at this
    simp at this
    omega
  rw [Lib.validD_step _ hne, Lib.decodeL_drop, List.drop_drop]

set_option maxRecDepth 100000 in
set_option maxHeartbeats 4000000 in
theorem broken_any (s : ByteArray) (hs : s.size ≤ 1000000) (w : World) : Calls Tryd.prog 145 #[.string s] w fun e w' => e = .returned (.bool (!vstr s)) ∧ Below w.heap.size w w' := by
  obtain ⟨ANS, hA⟩ : ∃ a, vstr s = a := ⟨_, rfl⟩
  rw [hA]
  have HA := Lib.hid hA; clear hA
  go_enter Tryd.func145, Tryd.ntmps145
  go_wp2
  go_loopw [3, 4] (fun v3 v4 wr => ∃ pos : Nat, wr.heap[w.heap.size]? = some (.stringIter s pos) ∧ Below w.heap.size w wr ∧ ANS = Lib.validD (s.data.toList.drop pos)) (fun _ _ wr => s.size - wr.iterPos w.heap.size)
  case atStart => exact ⟨0, World.iter_heap w s 0, (Below.refl _ w).alloc (Nat.le_refl _) _, HA.out.symm⟩
  case round =>
    obtain ⟨pos, hit, hB, hV⟩ := hrel
    have HV := Lib.hid hV; clear hV
    have HB := Lib.hid hB; clear hB
    by_cases hp : pos < s.size
    · have hnx : ∀ ty, (Instr.next (.pointer (some ⟨w.heap.size, 0, none⟩)) true ty).run Tryd.prog wr = _ := fun ty => Lib.run_next_any_at wr w.heap.size s pos ty hit hp
      have hstep := broken_step s pos hp
      have hbad := bad_iff s pos hp
      have hit2 := Lib.iterAt_heap wr w.heap.size s pos (pos + (Utf8.decode s pos).2) hit
      have hB2 := Lib.below_iterAt HB.out (k := w.heap.size) (Nat.le_refl _) s (pos + (Utf8.decode s pos).2)
      have hwd := Lib.width_pos s pos
      obtain ⟨r, hr⟩ : ∃ r, (Utf8.decode s pos).1 = r := ⟨_, rfl⟩
      obtain ⟨n, hn⟩ : ∃ n, (Utf8.decode s pos).2 = n := ⟨_, rfl⟩
      rw [hr, hn] at hstep hbad
      rw [hr, hn] at hnx
      rw [hn] at hit2 hB2 hwd
      have HST := Lib.hid hstep; clear hstep
      have HBAD := Lib.hid hbad; clear hbad
      have HIT2 := Lib.hid hit2; clear hit2
      have HB2 := Lib.hid hB2; clear hB2
      have HIT := Lib.hid hit; clear hit
      clear hr hn
      have hcs : s.toList = s.data.toList := Lib.toList_data s
      have hce : (s.extract pos (pos + 3)).toList = (s.extract pos (pos + 3)).data.toList := Lib.toList_data _
      clear hcs
      cases b1 : ((r : Int) == 65533) with
      | false =>
        have hne : ¬ (r = 65533 ∧ n = 1) := fun e => by rw [e.1] at b1; cases b1
        have HNE := Lib.hid hne; clear hne hce
        go_wp2_with fail
        go_roundw
        case rel => exact ⟨pos + n, HIT2.out, HB2.out, by rw [HV.out, HST.out, if_neg HNE.out]⟩
        case measure =>
          simp only [World.iterPos, HIT2.out, HIT.out]
          omega
      | true =>
        have hr : r = 65533 := by have := beq_iff_eq.1 b1; omega
        have HR := Lib.hid hr; clear hr
        by_cases h3 : s.size < pos + 3
        · have b2 : decide ((s.size : Int) < (pos : Int) + 3) = true := decide_eq_true (by omega)
          have hans : ANS = false := by rw [HV.out, HST.out, if_pos ⟨HR.out, (HBAD.out HR.out).2 (.inl h3)⟩]
          subst hans
          clear hce
          go_wp2_with fail
          go_ret
          exact ⟨rfl, HB2.out⟩
        · have b2 : decide ((s.size : Int) < (pos : Int) + 3) = false := decide_eq_false (by omega)
          have b3 : (pos : Int) + 3 ≤ (s.size : Int) := by omega
          cases b4 : ((s.extract pos (pos + 3)).toList == [239, 191, 189]) with
          | false =>
            have hans : ANS = false := by
              rw [HV.out, HST.out, if_pos ⟨HR.out, (HBAD.out HR.out).2 (.inr (by rw [← hce]; simpa using b4))⟩]
            subst hans
            clear hce
            go_wp2_with fail
            go_ret
            exact ⟨rfl, HB2.out⟩
          | true =>
            have hne : ¬ (r = 65533 ∧ n = 1) := by
              rintro ⟨_, hn⟩
              rcases (HBAD.out HR.out).1 hn with h | h
              · exact h3 h
              · rw [← hce] at h
                apply h
                simpa using b4
            have HNE := Lib.hid hne; clear hne hce
            go_wp2_with fail
            go_roundw
            case rel => exact ⟨pos + n, HIT2.out, HB2.out, by rw [HV.out, HST.out, if_neg HNE.out]⟩
            case measure =>
              simp only [World.iterPos, HIT2.out, HIT.out]
              omega
    · have hnx : ∀ ty, (Instr.next (.pointer (some ⟨w.heap.size, 0, none⟩)) true ty).run Tryd.prog wr = _ := fun ty => Lib.run_next_end_at wr w.heap.size s pos ty hit hp
      have hans : ANS = true := by
        rw [HV.out, List.drop_of_length_le (by have : s.data.toList.length = s.size := by simp
                                               omega)]
        rfl
      subst hans
      go_wp2_with fail
      go_ret
      exact ⟨rfl, HB.out⟩

theorem rz_len (s : ByteArray) : ∀ b i, (rz s b i).length ≤ b
  | 0, _ => by simp [rz]
  | b + 1, i => by
    unfold rz
    split
    · simp only [List.length_cons]
      have := rz_len s b (i + (Utf8.decode s i).2)
      omega
    · simp

theorem conv_runes (s : ByteArray) (hs : s.size ≤ 1000000) (w : World) : ∃ (cap : Nat) (cs : Array Value), (convert 9 144 (.string s)).run Tryd.prog w = .ok (.slice (some ⟨w.heap.size, 0, none⟩) (rz s s.size 0).length cap) (w.drew.alloc (.cells cs 21)) ∧
    (convert 144 9 (.slice (some ⟨w.heap.size, 0, none⟩) (rz s s.size 0).length cap)).run Tryd.prog (w.alloc (.cells cs 21)).drew = .ok (.string (runesBytes (rz s s.size 0))) (w.alloc (.cells cs 21)).drew := by
  have hl : (Conv.runesFrom s s.size 0 #[]).toList = (rz s s.size 0).map (Value.int .i32) := by
    have := runesFrom_eq s s.size 0 #[]
    simpa using this
  have hsz : (Conv.runesFrom s s.size 0 #[]).size = (rz s s.size 0).length := by
    have := congrArg List.length hl
    simpa using this
  have hb := rz_len s s.size 0
  have h1 := run_runes_of_string (P := Tryd.prog) w 9 144 21 s Tryd.underlying9 Tryd.underlying144 Tryd.underlying21 (by rw [hsz]; omega)
  rw [hsz] at h1
  refine ⟨_, _, h1, ?_⟩
  generalize hcs : (Conv.runesFrom s s.size 0 #[] ++ Array.replicate (grownCap w (rz s s.size 0).length 0 21 - (rz s s.size 0).length) (Value.int .i32 0)) = cs
  have hblk : (w.drew.alloc (.cells cs 21)).heap[w.heap.size]? = some (.cells cs 21 (0, 0)) := new_blk w.drew _
  have h2 := run_convert_runes (P := Tryd.prog) (w.drew.alloc (.cells cs 21)) 144 9 21 ⟨w.heap.size, 0, none⟩ (rz s s.size 0).length (grownCap w (rz s s.size 0).length 0 21) (rz s s.size 0) (Nat.le_refl _) Tryd.underlying144 Tryd.underlying21 Tryd.underlying9 (fun j hj => by
    rw [Addr.add_lit, Nat.zero_add, blk_cell hblk, ← hcs, Array.getElem?_append_left (by rw [hsz]; exact hj), ← Array.getElem?_toList, hl, List.getElem?_map, List.getD_eq_getElem?_getD, List.getElem?_eq_getElem hj]
    rfl)
  rw [List.take_length] at h2
  exact h2

set_option maxRecDepth 100000 in
set_option maxHeartbeats 4000000 in
theorem valid_ref (s : ByteArray) (hs : s.size ≤ 1000000) (w : World) : Calls Tryd.prog 125 #[.string s] w fun e w' => e = .returned (.bool (vstr s)) ∧ Below w.heap.size w w' := by
  obtain ⟨cap, cs, h1, h2⟩ := conv_runes s hs w
  have hbr := broken_any s hs (w.alloc (.cells cs 21)).drew
  have hb : Below w.heap.size w (w.alloc (.cells cs 21)).drew := (below_alloc (Below.refl _ w) _).drew
  have hround := valid_round s
  obtain ⟨v, hv⟩ : ∃ v, vstr s = v := ⟨_, rfl⟩
  rw [hv] at hbr hround ⊢
  generalize runesBytes (rz s s.size 0) = rb at h2 hround
  have HB := Lib.hid hb; clear hb
  have HV := Lib.hid hv; clear hv
  have HRD := Lib.hid hround; clear hround
  cases b1 : (rb.toList == s.toList) with
  | false =>
    have : v = false := by
      cases v with
      | false => rfl
      | true => rw [HRD.out rfl] at b1; simp at b1
    subst this
    clear hbr
    go_enter Tryd.func125, Tryd.ntmps125
    go_wp2_with fail
    go_ret
    exact ⟨rfl, HB.out⟩
  | true =>
    go_enter Tryd.func125, Tryd.ntmps125
    go_wp2_with fail
    refine hbr.mono ?_; rintro e w1 ⟨rfl, hb⟩
    have HB1 := Lib.hid hb; clear hb hbr
    go_wp2_with fail
    go_ret
    exact ⟨by simp, HB.out.trans (HB1.out.mono HB.out.size)⟩

theorem text_ref (s : ByteArray) (w : World) :
    Calls Tryd.prog 81 #[.string s] w fun e w' => e = .returned (.bool (textJ s)) ∧ Below w.heap.size w w' := by
  unfold textJ
  by_cases h : s.size ≤ 60
  · have hX := valid_ref s (by omega) w
    generalize vstr s = r at hX ⊢
    have hi : (s.size : Int) ≤ 60 := by omega
    go_enter Tryd.func81, Tryd.ntmps81
    go_wp2_with fail
    refine hX.mono ?_; rintro e w' ⟨rfl, hb⟩
    go_wp2
    go_ret
    exact ⟨by simp [h], hb⟩
  · have hi : ¬ (s.size : Int) ≤ 60 := by omega
    go_enter Tryd.func81, Tryd.ntmps81
    go_wp2
    go_ret
    exact ⟨by simp, Below.refl _ _⟩

end Go.Proofs.YtehdnjegipcpfaaDoor
