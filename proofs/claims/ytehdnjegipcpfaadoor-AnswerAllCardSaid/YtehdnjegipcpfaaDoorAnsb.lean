/-
  The order of an answer's documents is total: plain.
  No step draws back: the count of the draws never falls; of the machine alone, no program in sight.
  The contract of slices.SortFunc at documents, in a row of the call's own, under Run's closure.
  Run's row of documents: how the documents lie that come in; the row that is made.
  Run's row, cut: the documents as they lie in a block of the call's own.
  The contract of answer.Project at a query without fields.
-/
import Derived.Test.YtehdnjegipcpfaaDoorAns6
import Derived.Test.YtehdnjegipcpfaaDoorShelfc
import Derived.Calls
import Derived.RunT
import Derived.Laws.OwnMore
import Derived.Sort.OwnSorted
import Derived.Deep.AppendLies
namespace Go.Proofs.YtehdnjegipcpfaaDoor
open Go.RowKit Go.Proofs.YtehdnjegipcpfaaDoorW.PrintWords Go.Proofs.YtehdnjegipcpfaaDoorW.PrintLast Go.Proofs.YtehdnjegipcpfaaDoorW.PrintMore
open PFilterHolds PAns Go.Shelf Go.Sort
theorem atJ_neg (p : ByteArray) (a b : S25) : atJ p b a = - atJ p a b := by
  unfold atJ
  cases ha : (getJ a p).isSome <;> cases hb : (getJ b p).isSome
  · rfl
  · rfl
  · rfl
  · simp only [if_true]
    exact cmpF_neg 6 _ _ (getD_formed ha) (getD_formed hb)
theorem atJ_trans (p : ByteArray) (a b c : S25) (h1 : atJ p a b ≤ 0) (h2 : atJ p b c ≤ 0) : atJ p a c ≤ 0 := by
  unfold atJ at h1 h2 ⊢
  cases ha : (getJ a p).isSome <;> cases hb : (getJ b p).isSome <;> cases hc : (getJ c p).isSome <;>
    simp only [ha, hb, hc, if_true] at h1 h2 ⊢ <;> first | (exact cmpF_trans 6 _ _ _ (getD_formed ha) (getD_formed hb) (getD_formed hc) h1 h2) | simp at h1 h2 ⊢
theorem ordJ_neg (o : S84) (a b : S25) : ordJ o b a = - ordJ o a b := by
  unfold ordJ
  rw [atJ_neg o.f0 a b]
  split <;> rfl
theorem ordJ_trans (o : S84) (a b c : S25) (h1 : ordJ o a b ≤ 0) (h2 : ordJ o b c ≤ 0) : ordJ o a c ≤ 0 := by
  unfold ordJ at h1 h2 ⊢
  split at h1
  · rename_i ho
    rw [if_pos ho] at h2 ⊢
    rw [← atJ_neg] at h1 h2 ⊢
    exact atJ_trans o.f0 c b a h2 h1
  · rename_i ho
    rw [if_neg ho] at h2 ⊢
    exact atJ_trans o.f0 a b c h1 h2
theorem compJ_lex (o : S84) (l : List S84) (a b : S42) : compJ (o :: l) a b = lex (ordJ o a.f1 b.f1) (compJ l a b) := by
  unfold lex
  rw [compJ]
  by_cases h : ordJ o a.f1 b.f1 = 0
  · rw [if_neg (by rw [h]; decide), if_neg (fun e => e h)]
  · rw [if_pos (by rw [bne_iff_ne]; exact h), if_pos h]
theorem compJ_neg : ∀ (l : List S84) (a b : S42), compJ l b a = - compJ l a b
  | [], a, b => cmpS_neg _ _
  | o :: l, a, b => by rw [compJ_lex, compJ_lex, ordJ_neg, compJ_neg l a b, lex_neg]
theorem compJ_trans : ∀ (l : List S84) (a b c : S42), compJ l a b ≤ 0 → compJ l b c ≤ 0 → compJ l a c ≤ 0
  | [], a, b, c, h1, h2 => cmpS_trans _ _ _ h1 h2
  | o :: l, a, b, c, h1, h2 => by
    rw [compJ_lex] at h1 h2 ⊢
    exact lex_trans (ordJ_neg o a.f1 b.f1) (ordJ_neg o b.f1 c.f1) (ordJ_neg o a.f1 c.f1) (ordJ_trans o _ _ _) (ordJ_trans o _ _ _) (ordJ_trans o _ _ _) (fun _ _ _ => compJ_trans l a b c) h1 h2
theorem compJ_zero : ∀ (l : List S84) (a b : S42), compJ l a b = 0 → cmpS a.f0 b.f0 = 0
  | [], _, _, h => h
  | o :: l, a, b, h => by
    rw [compJ_lex] at h
    exact compJ_zero l a b (lex_zero.1 h).2
theorem swo_of {α : Type} [Inhabited α] (cf : α → α → Int) (hn : ∀ a b, cf b a = - cf a b) (ht : ∀ a b c, cf a b ≤ 0 → cf b c ≤ 0 → cf a c ≤ 0) : SWO (ltOf cf) where
  irrefl x := by
    have := hn x x
    unfold ltOf
    exact decide_eq_false (by omega)
  trans x y z h1 h2 := by
    unfold ltOf at *
    have h1 := of_decide_eq_true h1
    have h2 := of_decide_eq_true h2
    refine decide_eq_true ?_
    apply Classical.byContradiction
    intro h
    have a1 := ht x y z (by omega) (by omega)
    have a2 := hn x z
    have a3 := ht z x y (by omega) (by omega)
    have a4 := hn y z
    omega
  ntrans x y z h1 h2 := by
    unfold ltOf at *
    have h1 := of_decide_eq_false h1
    have h2 := of_decide_eq_false h2
    refine decide_eq_false ?_
    have a1 := hn x y
    have a2 := hn y z
    have a3 := hn x z
    have a4 := ht z y x (by omega) (by omega)
    omega
end Go.Proofs.YtehdnjegipcpfaaDoor

namespace Go.Proofs.YtehdnjegipcpfaaDoor.Mono
open Go
theorem ask_drawn {α : Type} : ∀ (a : Ask α) (w : World), w.drawn ≤ (w.ask a).2.drawn
  | .done a, w => Nat.le_refl _
  | .ask what range k, w => by
    unfold World.ask
    simp only
    split
    · exact ask_drawn (k 0) w
    · exact Nat.le_trans (Nat.le_succ _) (ask_drawn (k _) { w with drawn := w.drawn + 1 })
theorem sys_drawn (w : World) (c : Sys) : w.drawn ≤ (w.sys c).2.drawn := by
  have h := ask_drawn (Kernel.perform c w.os) w
  unfold World.sys
  split
  · exact Nat.le_refl _
  · rename_i heq
    rw [heq] at h
    exact h
def rw' {α : Type} : Result α → World
  | .ok _ w => w
  | .halt _ w => w
theorem viewStore_drawn {p : Program} {w w' : World} {at_ : Addr} {u : TypeId} {k : Addr} {v : Value} {b : Bool} {l : List Addr} (h : w.viewStore p at_ u k v b = .ok (w', l)) : w'.drawn = w.drawn := by
  unfold World.viewStore at h
  simp only [bind, Except.bind, pure, Except.pure] at h
  repeat' split at h
  all_goals first | (cases h; done) | skip
  all_goals (injection h with h; injection h with h1 _; rw [← h1])
theorem farStore_drawn {p : Program} {w w' : World} {a : Addr} {v : Value} {b : Bool} {l : List Addr} (h : w.farStore p a v b = .ok (w', l)) : w'.drawn = w.drawn := by
  unfold World.farStore at h
  split at h
  · split at h
    · rename_i heq
      injection h with h
      subst h
      exact viewStore_drawn heq
    · cases h
  · cases h
theorem run_drawn {α : Type} (p : Program) : ∀ (s : Sem α) (w : World), w.drawn ≤ (rw' (s.run p w)).drawn := by
  intro s
  induction s with
  | pure a => intro w; exact Nat.le_refl _
  | load m a k ih =>
    intro w
    unfold Sem.run
    split
    · exact ih _ _
    · split
      · exact ih _ _
      · exact Nat.le_refl _
  | store m a v k ih =>
    intro w
    cases v <;> unfold Sem.run <;> first
      | exact Nat.le_refl _
      | (split
         · split
           · exact Nat.le_refl _
           · exact ih (w.setCell a _)
         · split
           · rename_i heq
             exact Nat.le_trans (Nat.le_of_eq (farStore_drawn heq).symm) (ih _)
           · exact Nat.le_refl _)
  | new o k ih => intro w; unfold Sem.run; exact ih _ { w with heap := w.heap.push o }
  | shape r k ih => intro w; unfold Sem.run; exact ih _ _
  | freeze a n k ih =>
    intro w
    unfold Sem.run
    have e : (w.freeze a n).drawn = w.drawn := by unfold World.freeze; split <;> rfl
    exact Nat.le_trans (Nat.le_of_eq e.symm) (ih (w.freeze a n))
  | frozen a k ih => intro w; unfold Sem.run; exact ih _ _
  | getObj r k ih =>
    intro w
    unfold Sem.run
    split
    · exact Nat.le_refl _
    · exact ih _ _
    · exact Nat.le_refl _
  | setObj r o k ih =>
    intro w
    unfold Sem.run
    split
    · exact Nat.le_refl _
    · exact ih { w with heap := w.heap.setIfInBounds r o }
    · exact Nat.le_refl _
  | choose q k ih =>
    intro w
    unfold Sem.run
    split
    · exact ih _ _
    · exact Nat.le_trans (Nat.le_succ _) (ih _ { w with drawn := w.drawn + 1 })
  | sys c k ih => intro w; unfold Sem.run; exact Nat.le_trans (sys_drawn w c) (ih _ _)
  | program k ih => intro w; unfold Sem.run; exact ih _ _
  | mark m k ih => intro w; unfold Sem.run; exact ih _
  | halt h => intro w; exact Nat.le_refl _
theorem runT_drawn {α : Type} (p : Program) (s : Sem α) (w : World) (es : Array Event) : w.drawn ≤ (rw' (s.runT p w es).1).drawn := by
  rw [Sem.runT_fst]
  exact run_drawn p s w
def gw : GStep → World
  | .go _ w _ => w
  | .comm _ _ _ _ w _ => w
  | .spawn _ _ w _ => w
  | .count _ w _ => w
  | .timer _ _ w _ => w
  | .alone _ _ w _ => w
  | .newcoro _ _ _ w _ => w
  | .coroswitch _ _ _ w _ => w
  | .collect _ w _ => w
  | .watch _ w _ => w
  | .ended _ w _ => w
theorem gw_after (es : Array Event) (s : GStep) : gw (s.after es) = gw s := by cases s <;> rfl
theorem doReturn_gw (p : Program) (main : Bool) (fr : Frame) (callers : List Frame) (dying : Option Dying) (v : Value) (w : World) : gw (doReturn p main fr callers dying v w) = w := by
  unfold doReturn
  repeat' split
  all_goals rfl
theorem endPrinting_gw (p : Program) (fr : Frame) (v : Value) (w : World) : gw (endPrinting p fr v w) = w := by
  unfold endPrinting
  dsimp only
  split
  · rfl
  · rfl
theorem endWith_le (w : World) (fd : Nat) (t : ByteArray) (o : Outcome) : w.drawn ≤ (gw (endWith w fd t o)).drawn := by
  have h := sys_drawn w (.write fd t)
  unfold endWith
  dsimp only
  generalize w.sys (.write fd t) = r at h ⊢
  obtain ⟨r, w'⟩ := r
  cases r
  all_goals (dsimp only; repeat' split)
  all_goals exact h
theorem endFatal_le (p : Program) (fr : Frame) (callers : List Frame) (dying : Option Dying) (m : String) (w : World) : w.drawn ≤ (gw (endFatal p fr callers dying m w)).drawn := by
  unfold endFatal
  dsimp only
  split
  all_goals
    rename_i heq
    have h := congrArg (fun r => (rw' r).drawn) heq
    exact Nat.le_trans (run_drawn p _ w) (Nat.le_of_eq h)
theorem writeOn_le (p : Program) (fr : Frame) (d : Dying) (f : Fatal) (w : World) : w.drawn ≤ (gw (writeOn p fr d f w)).drawn := by
  unfold writeOn
  dsimp only
  split
  · exact Nat.le_refl _
  · split
    all_goals
      rename_i heq
      have h := congrArg (fun r => (rw' r.1).drawn) heq
      exact Nat.le_trans (runT_drawn p _ w #[]) (Nat.le_of_eq h)
theorem die_le (p : Program) (fr : Frame) (d : Dying) (w : World) : w.drawn ≤ (gw (die p fr d w)).drawn := by
  unfold die
  split
  · exact writeOn_le p fr d _ w
  · split
    · split
      · exact Nat.le_refl _
      · exact endWith_le _ _ _ _
    · dsimp only
      split
      · exact Nat.le_refl _
      · split
        all_goals
          rename_i heq
          have h := congrArg (fun r => (rw' r).drawn) heq
          exact Nat.le_trans (run_drawn p _ w) (Nat.le_of_eq h)
      · rename_i t recv name _
        have h := runT_drawn p (invoke (.fn (.method name) #[]) #[.iface t recv]) w #[]
        generalize (invoke (.fn (.method name) #[]) #[.iface t recv]).runT p w #[] = r at h ⊢
        obtain ⟨r, es⟩ := r
        dsimp only
        rw [gw_after]
        split
        · exact h
        · exact h
        · exact h
        · rw [endPrinting_gw]; exact h
        · exact Nat.le_refl _
      · exact Nat.le_refl _
theorem early_le (p : Program) (fr : Frame) (callers : List Frame) (dying : Option Dying) (g : Nat) (w : World) : w.drawn ≤ (gw (early p fr callers dying g w)).drawn := by
  unfold early
  dsimp only
  repeat' split
  all_goals first
    | exact Nat.le_refl _
    | (have h := congrArg (fun r => (rw' r).drawn) (‹Sem.run p (choose (Question.early g)) w = _›)
       exact Nat.le_trans (run_drawn p _ w) (Nat.le_of_eq h))
theorem callDeferred_le (p : Program) (fr : Frame) (callers : List Frame) (dying : Option Dying) (d : Deferred) (w : World) : w.drawn ≤ (gw (callDeferred p fr callers dying d w)).drawn := by
  unfold callDeferred
  refine iteInduction (motive := fun s => w.drawn ≤ (gw s).drawn) (fun _ => ?_) (fun _ => ?_)
  · exact Nat.le_refl _
  · have h := runT_drawn p (invoke d.target d.args) w #[]
    generalize (invoke d.target d.args).runT p w #[] = r at h ⊢
    obtain ⟨r, es⟩ := r
    dsimp only
    rw [gw_after]
    cases r with
    | ok n w' =>
      cases n with
      | coroswitch c e => cases e <;> exact h
      | alone b v => cases b <;> exact h
      | recover =>
        dsimp only
        repeat' split
        all_goals exact h
      | _ => exact h
    | halt x w' =>
      cases x
      all_goals first
        | exact h
        | exact Nat.le_trans h (endFatal_le _ _ _ _ _ _)
theorem unwind_le (p : Program) (main : Bool) (fr : Frame) (callers : List Frame) (dying : Option Dying) (w : World) : w.drawn ≤ (gw (unwind p main fr callers dying w)).drawn := by
  unfold unwind
  split
  · rename_i block _ ds _
    have h := runT_drawn p (Instr.takeDeferred block) w #[]
    generalize (Instr.takeDeferred block).runT p w #[] = r at h ⊢
    obtain ⟨r, es⟩ := r
    dsimp only
    rw [gw_after]
    cases r <;> exact h
  · exact callDeferred_le _ _ _ _ _ _
  · split
    · exact Nat.le_refl _
    · split
      · exact Nat.le_refl _
      · split
        · exact Nat.le_refl _
        · split
          · split
            · exact Nat.le_refl _
            · split
              all_goals
                rename_i heq
                have h := congrArg (fun r => (rw' r).drawn) heq
                exact Nat.le_trans (run_drawn p _ w) (Nat.le_of_eq h)
          · split
            · rw [endPrinting_gw]; exact Nat.le_refl _
            · exact Nat.le_refl _
    · split
      · rw [doReturn_gw]; exact Nat.le_refl _
      · rename_i fn _
        have h := runT_drawn p (results fn fr.tmps) w #[]
        generalize (results fn fr.tmps).runT p w #[] = r at h ⊢
        obtain ⟨r, es⟩ := r
        dsimp only
        rw [gw_after]
        cases r with
        | ok v w' => rw [doReturn_gw]; exact h
        | halt x w' => cases x <;> exact h
theorem apply_le (p : Program) (listen : Bool) (fr : Frame) (callers : List Frame) (dying : Option Dying) (s : Sem Next) (w : World) : w.drawn ≤ (gw (stepG.apply p listen fr callers dying s w)).drawn := by
  unfold stepG.apply
  have h : w.drawn ≤ (rw' (if listen then s.runT p w #[] else (s.run p w, #[])).1).drawn := by
    split
    · exact runT_drawn p s w #[]
    · exact run_drawn p s w
  generalize (if listen then s.runT p w #[] else (s.run p w, #[])) = r at h ⊢
  obtain ⟨r, es⟩ := r
  dsimp only
  rw [gw_after]
  cases r with
  | ok n w' =>
    cases n
    all_goals (try dsimp only)
    all_goals (repeat' split)
    all_goals exact h
  | halt x w' =>
    cases x
    all_goals first
      | exact h
      | exact Nat.le_trans h (endFatal_le _ _ _ _ _ _)
      | (rename_i u; cases u <;> first | exact h | exact Nat.le_trans h (early_le _ _ _ _ _ _))
theorem oper_le (p : Program) (listen : Bool) (fr : Frame) (callers : List Frame) (dying : Option Dying) (w : World) : w.drawn ≤ (gw (stepG.oper p listen fr callers dying w)).drawn := by
  unfold stepG.oper
  split
  · exact Nat.le_refl _
  · split
    · exact apply_le _ _ _ _ _ _ _
    · exact apply_le _ _ _ _ _ _ _
theorem exec_le (p : Program) (main : Bool) (listen : Bool) (fr : Frame) (callers : List Frame) (dying : Option Dying) (w : World) : w.drawn ≤ (gw (stepG.exec p main listen fr callers dying w)).drawn := by
  have hl : ∀ jump : Option Code, w.drawn ≤ (gw (match fr.roundOf with
      | none => if jump matches none | some .ret then .go { frame := { fr with mode := .returning }, callers, status := .running, dying } w else .ended (.stuck "exit, goto: no such block or label" (fr.pos p)) w
      | some l =>
        let (r, es) := (Instr.endRound l jump).runT p w #[]
        GStep.after (seen p fr.fn es) <| match r with
        | .ok v w => doReturn p main fr callers dying v w
        | .halt _ w => .ended (.stuck "range over a function: no such loop" (fr.pos p)) w)).drawn := by
    intro jump
    split
    · refine iteInduction (motive := fun s => w.drawn ≤ (gw s).drawn) (fun _ => ?_) (fun _ => ?_) <;> exact Nat.le_refl _
    · rename_i l _
      have h := runT_drawn p (Instr.endRound l jump) w #[]
      generalize (Instr.endRound l jump).runT p w #[] = r at h ⊢
      obtain ⟨r, es⟩ := r
      dsimp only
      rw [gw_after]
      cases r with
      | ok v w' => dsimp only; rw [doReturn_gw]; exact h
      | halt x w' => exact h
  unfold stepG.exec
  dsimp only
  split
  · exact hl none
  · exact hl (some .ret)
  · exact Nat.le_refl _
  · exact Nat.le_refl _
  · exact Nat.le_refl _
  · exact Nat.le_refl _
  · exact Nat.le_refl _
  · split <;> exact Nat.le_refl _
  · exact Nat.le_refl _
  · exact Nat.le_refl _
  · exact Nat.le_refl _
  · exact Nat.le_refl _
  · rename_i id k _
    cases exitTo id k with
    | none => exact hl (some (.exit id))
    | some t => exact Nat.le_refl _
  · rename_i l k _
    cases gotoIn l k with
    | none => exact hl (some (.goto l))
    | some t => exact Nat.le_refl _
  · rename_i f params assign body k _
    rw [gw_after]
    have h := runT_drawn p (Instr.enterLoop fr.fn fr.tmps params assign body fr.roundOf) w #[]
    generalize (Instr.enterLoop fr.fn fr.tmps params assign body fr.roundOf).runT p w #[] = r at h ⊢
    obtain ⟨r, es⟩ := r
    cases r with
    | ok v w' => exact Nat.le_trans h (apply_le ..)
    | halt x w' => exact h
  · exact Nat.le_refl _
  · exact apply_le ..
  · rename_i l k _
    rw [gw_after]
    have h := runT_drawn p (Instr.endLoop l) w #[]
    generalize (Instr.endLoop l).runT p w #[] = r at h ⊢
    obtain ⟨r, es⟩ := r
    cases r with
    | ok v w' => exact h
    | halt x w' => cases x <;> exact h
  · exact Nat.le_refl _
  · exact apply_le ..
  · rename_i row args _ _
    cases Extern.next row with
    | none => exact Nat.le_refl _
    | some e => exact apply_le ..
  · rename_i id ops draw k _
    split
    · exact Nat.le_refl _
    · have h := run_drawn p (choose (.order fr.fn id)) w
      generalize (choose (.order fr.fn id)).run p w = r at h ⊢
      cases r with
      | ok v w' => exact h
      | halt x w' => exact h
  · exact Nat.le_refl _
  · split
    · exact oper_le ..
    · exact Nat.le_refl _
theorem stepG_le (p : Program) (main : Bool) (g : Goroutine) (w : World) (listen : Bool) : w.drawn ≤ (gw (stepG p main g w listen)).drawn := by
  unfold stepG
  dsimp only
  split
  · exact die_le ..
  · exact exec_le ..
  · exact unwind_le ..
theorem run_ok_le {α : Type} {p : Program} {s : Sem α} {w w' : World} {v : α} (h : s.run p w = .ok v w') : w.drawn ≤ w'.drawn := by
  have h2 := run_drawn p s w
  rw [h] at h2
  exact h2
theorem run_halt_le {α : Type} {p : Program} {s : Sem α} {w w' : World} {x : Halt} (h : s.run p w = .halt x w') : w.drawn ≤ w'.drawn := by
  have h2 := run_drawn p s w
  rw [h] at h2
  exact h2
def Nx (d : Nat) : Stepped → Prop
  | .next m => d ≤ m.world.drawn
  | .ended .. => True
theorem Nx.le {d e : Nat} {s : Stepped} (h : Nx e s) (hd : d ≤ e) : Nx d s := by
  cases s with
  | next m => exact Nat.le_trans hd h
  | ended o w => trivial
theorem iteNx {d : Nat} {c : Prop} [Decidable c] {x y : Stepped} (hx : Nx d x) (hy : Nx d y) : Nx d (if c then x else y) := by
  split
  · exact hx
  · exact hy
theorem look_nx (p : Program) (gs : Array Goroutine) (rest : Rest) (w : World) : Nx w.drawn (look p gs rest w) := by
  unfold look
  dsimp only
  split
  · refine iteNx trivial ?_
    split
    · exact trivial
    · split
      · rename_i h
        have hh := run_ok_le h
        exact hh
      · exact trivial
      · exact trivial
  · exact trivial
theorem waitingAt_drawn {rest : Rest} {cases : Array CommCase} {w w' : World} (h : waitingAt rest cases w = some w') : w'.drawn = w.drawn := by
  unfold waitingAt at h
  split at h
  · split at h
    · cases h; rfl
    · cases h
  · cases h; rfl
theorem communicate_nx (p : Program) (rest : Rest) (gs : Array Goroutine) (i : Nat) (g : Goroutine) (cases : Array CommCase) (blocking : Bool) (shape : CommShape) (w : World) :
    Nx w.drawn (communicate p rest gs i g cases blocking shape w).1 := by
  unfold communicate
  dsimp only
  split
  · trivial
  split
  · split
    · split
      · rename_i w' h
        exact Nat.le_of_eq (waitingAt_drawn h).symm
      · trivial
    · exact Nat.le_refl _
  · split
    · trivial
    · rename_i k c way w' h
      have hh : w.drawn ≤ w'.drawn := run_ok_le h
      clear h
      split
      · split
        · rename_i v w2 h
          have h2 : w'.drawn ≤ w2.drawn := run_halt_le h
          exact Nat.le_trans hh h2
        · trivial
      · exact hh
      · exact hh
      · split
        · exact hh
        · split
          · rename_i h
            have h2 := run_ok_le h
            exact Nat.le_trans hh h2
          · trivial
      · exact hh
      · exact hh
      · trivial
theorem drain_drawn (w : World) (c : Nat) : (drain w c).2.drawn = w.drawn := by
  unfold drain
  split <;> rfl
theorem retime_drawn (m : Machine) (k : Nat) (t : Timer) (a b : Nat) : (retime m k t a b).2.world.drawn = m.world.drawn := by
  unfold retime
  split
  rename_i had world h
  dsimp only
  split at h
  · rename_i c _
    have h2 := drain_drawn m.world c
    rw [h] at h2
    exact h2
  · cases h; rfl
theorem named_drawn {m m0 m' : Machine} {var : Addr} {f : Nat → Timer → Value × Machine} {v : Value} (hf : ∀ k t, (f k t).2.world.drawn = m0.world.drawn)
    (h : timerOp.named m var f = .ok (v, m')) : m'.world.drawn = m0.world.drawn := by
  unfold timerOp.named at h
  split at h
  · rename_i k _
    have h2 := hf k (m.rest.timers.getD k default)
    cases h1 : f k (m.rest.timers.getD k default) with
    | mk a b =>
      rw [h1] at h h2
      cases h
      exact h2
  · cases h
theorem opened_drawn {m m' : Machine} {var : Addr} (h : timerOp.opened m var = some m') : m'.world.drawn = m.world.drawn := by
  unfold timerOp.opened at h
  split at h
  · split at h
    · cases h; rfl
    · cases h
  · cases h; rfl
theorem timerOp_le {m m' : Machine} {op : TimerOp} {v : Value} (h : timerOp m op = .ok (v, m')) : m'.world.drawn = m.world.drawn := by
  unfold timerOp at h
  split at h
  · split at h
    · cases h; rfl
    · split at h
      · split at h
        · cases h
        · cases h; rfl
      · cases h
  · exact named_drawn (fun k t => retime_drawn m k t 0 _) h
  · split at h
    · rename_i a b c m2 h2
      rw [← opened_drawn h2]
      exact named_drawn (fun k t => retime_drawn m2 k t _ _) h
    · cases h
  · cases h; rfl
theorem serve_nx (p : Program) (m : Machine) (k : Nat) : Nx m.world.drawn (serve p m k) := by
  unfold serve
  split
  · trivial
  · exact Nat.le_refl _
  · dsimp only
    split
    · trivial
    · exact Nat.le_refl _
theorem runT_nx (p : Program) (m : Machine) (i : Nat) (listen : Bool) : Nx m.world.drawn (runT p m i listen).1 := by
  unfold runT
  dsimp only
  generalize m.gs.swapAt! i _ = gg
  obtain ⟨g, gs⟩ := gg
  dsimp only
  have h := stepG_le p (i == 0) g m.world listen
  generalize stepG p (i == 0) g m.world listen = s at h ⊢
  cases s with
  | ended o w es => trivial
  | comm g cases blocking shape w es => exact (communicate_nx ..).le h
  | go g w es => exact h
  | spawn g c w es => exact h
  | count g w es => exact iteNx trivial h
  | alone g on w es => exact h
  | collect g w es => exact (look_nx ..).le h
  | watch g w es => exact h
  | newcoro g c d w es => exact h
  | coroswitch g c exit w es =>
    dsimp only
    split
    · exact h
    · exact h
    · trivial
  | timer g op w es =>
    dsimp only
    split
    · rename_i v m2 h2
      exact Nat.le_trans h (Nat.le_of_eq (timerOp_le h2).symm)
    · exact h
    · trivial
    · trivial
def Mx (d : Nat) : Move → Prop
  | .goroutine m _ => d ≤ m.world.drawn
  | .machine s _ => Nx d s
theorem Mx.le {d e : Nat} {s : Move} (h : Mx e s) (hd : d ≤ e) : Mx d s := by
  cases s with
  | goroutine m i => exact Nat.le_trans hd h
  | machine s o => exact Nx.le h hd
theorem askOn_mx (p : Program) (m : Machine) : Mx m.world.drawn (askOn p m) := by
  have hp : ∀ (mm : Machine) (rs : List Nat), Mx mm.world.drawn (match (choose (.sched rs.length)).run p mm.world with
      | .halt _ w => Move.machine (.ended (.stuck "sched" "") w)
      | .ok k world =>
        if rs.length ≤ 1 then .goroutine { mm with world } (rs.getD k 0) else
        match (choose (.extern "sched.slice" 65536)).run p world with
        | .halt _ w => .machine (.ended (.stuck "sched.slice" "") w)
        | .ok n world => .goroutine { mm with world, rest := { mm.rest with slice := if n = 0 then none else some (rs.getD k 0, n) } } (rs.getD k 0)) := by
    intro mm rs
    split
    · trivial
    · rename_i k w h
      have hh : mm.world.drawn ≤ w.drawn := run_ok_le h
      split
      · exact hh
      · split
        · trivial
        · rename_i n w2 h
          have h2 : w.drawn ≤ w2.drawn := run_ok_le h
          exact Nat.le_trans hh h2
  unfold askOn
  dsimp only
  split
  · trivial
  · rename_i k w h
    have hh : m.world.drawn ≤ w.drawn := run_ok_le h
    split
    · exact (serve_nx p { m with world := w } _).le hh
    · split
      · split
        · exact hh
        · split
          · exact hh
          · split
            · trivial
            · trivial
      · split
        · exact (hp { m with world := w } _).le hh
        · split
          · trivial
          · rename_i w2 h
            have h2 : w.drawn ≤ w2.drawn := run_ok_le h
            exact (hp { m with world := w2 } _).le (Nat.le_trans hh h2)
          · rename_i w2 h
            have h2 : w.drawn ≤ w2.drawn := run_ok_le h
            exact Nat.le_trans hh h2
          · rename_i w2 h
            have h2 : w.drawn ≤ w2.drawn := run_ok_le h
            exact (hp ({ m with world := w2 }.advanceTo _) _).le (Nat.le_trans hh h2)
theorem ask_mx (p : Program) (m : Machine) : Mx m.world.drawn (ask p m) := by
  unfold ask
  split
  · split
    · trivial
    · rename_i w h
      have hh : m.world.drawn ≤ w.drawn := run_ok_le h
      have hl := look_nx p m.gs m.rest w
      split
      · rename_i m2 h2
        rw [h2] at hl
        exact (askOn_mx p m2).le (Nat.le_trans hh hl)
      · exact Nx.le hl hh
    · rename_i w _ h
      have hh : m.world.drawn ≤ w.drawn := run_ok_le h
      exact (askOn_mx p { m with world := w }).le hh
  · exact askOn_mx p m
theorem move_mx (p : Program) (m : Machine) : Mx m.world.drawn (move p m) := by
  unfold move
  split
  · split
    · exact Nat.le_refl _
    · trivial
  · split
    · split
      · exact Nat.le_refl _
      · exact ask_mx p { m with rest := { m.rest with slice := none } }
    · exact ask_mx p m
theorem step_nx (p : Program) (m : Machine) : Nx m.world.drawn (step p m) := by
  unfold step stepT
  have h := move_mx p m
  generalize move p m = mv at h ⊢
  cases mv with
  | goroutine m2 i => exact (runT_nx p m2 i true).le h
  | machine s ops => exact h
theorem runN_nx (p : Program) : ∀ (n : Nat) (m : Machine), Nx m.world.drawn (runN p n m)
  | 0, m => Nat.le_refl _
  | n + 1, m => by
    unfold runN
    have h := step_nx p m
    generalize step p m = s at h ⊢
    cases s with
    | next m2 => exact (runN_nx p n m2).le h
    | ended o w => trivial
theorem steps_le {p : Program} {m m' : Machine} (h : Steps p m m') : m.world.drawn ≤ m'.world.drawn := by
  obtain ⟨n, h⟩ := h
  have := runN_nx p n m
  rw [h] at this
  exact this
theorem calls_drawn {P : Program} {f : FuncId} {args : Array Value} {w : World} {R : Ending → World → Prop} (h : Calls P f args w R) :
    Calls P f args w (fun e w' => R e w' ∧ (e = .outgrown ∨ w.drawn ≤ w'.drawn)) := by
  intro cs
  obtain ⟨e, w', fr, hr, hc, hf, hl⟩ := h cs
  refine ⟨e, w', fr, ⟨hr, ?_⟩, hc, hf, hl⟩
  cases e with
  | outgrown => exact .inl rfl
  | returned v => exact .inr (steps_le (m' := lone fr cs w') hc)
  | panicked ch => exact .inr (steps_le (m' := lone fr cs w') hc)
end Go.Proofs.YtehdnjegipcpfaaDoor.Mono

namespace Go.Proofs.YtehdnjegipcpfaaDoor
open Go.RowKit Go.Proofs.YtehdnjegipcpfaaDoorW.PrintWords Go.Proofs.YtehdnjegipcpfaaDoorW.PrintLast Go.Proofs.YtehdnjegipcpfaaDoorW.PrintMore
open PFilterHolds PAns Go.Shelf Go.Sort
theorem below_grow {w w' : World} (h : Below w.heap.size w w') (hd : w.drawn ≤ w'.drawn) : ∃ q os, w' = grow (w.drewN q) os := by
  refine ⟨w'.drawn - w.drawn, w'.heap.extract w.heap.size w'.heap.size, ?_⟩
  obtain ⟨h1, h2, h3, h4, h5⟩ := h
  obtain ⟨hp, tp, dr, os, ou⟩ := w
  obtain ⟨hp', tp', dr', os', ou'⟩ := w'
  simp only at h1 h2 h3 h4 h5 hd
  subst h1 h2 h3
  have e1 : hp' = hp ++ hp'.extract hp.size hp'.size := by
    apply Array.ext_getElem?
    intro i
    by_cases hi : i < hp.size
    · rw [h5 i hi, Array.getElem?_append_left hi]
    · rw [Array.getElem?_append_right (by omega), Array.getElem?_extract]
      by_cases hj : i < hp'.size
      · rw [if_pos (by omega), show hp.size + (i - hp.size) = i by omega]
      · rw [if_neg (by omega), Array.getElem?_eq_none (by omega)]
  have e2 : dr' = dr + (dr' - dr) := by omega
  unfold grow World.drewN
  simp only
  rw [← e1, ← e2]
structure Dc where
  d : S42
  A3 : Option Addr
  c3 : Nat
  A4 : Option Addr
  c4 : Nat
def encD (x : Dc) : List Value := [.string x.d.f0, .int .i64 x.d.f1.f0, .int .i64 x.d.f1.f1, .string x.d.f1.f2, .slice x.A3 x.d.f1.f3.length x.c3, .slice x.A4 x.d.f1.f4.length x.c4]
abbrev flatD (l : List Dc) : List Value := l.flatMap encD
def Gd (w : World) (x : Dc) : Prop := Rd w x.A3 x.c3 x.A4 x.c4 x.d.f1
theorem flat_len {α : Type} (enc : α → List Value) (k : Nat) (hk : ∀ x, (enc x).length = k) : ∀ l : List α, (l.flatMap enc).length = l.length * k
  | [] => by simp
  | x :: l => by rw [List.flatMap_cons, List.length_append, hk, flat_len enc k hk l, List.length_cons, Nat.succ_mul, Nat.add_comm]
theorem flat_get {α : Type} [Inhabited α] (enc : α → List Value) (k : Nat) (h0 : 0 < k) (hk : ∀ x, (enc x).length = k) : ∀ (l : List α) (t : Nat), t < l.length * k → (l.flatMap enc)[t]? = (enc l[t / k]!)[t % k]?
  | [], t, h => by simp at h
  | x :: l, t, h => by
    rw [List.flatMap_cons]
    by_cases ht : t < k
    · rw [List.getElem?_append_left (by rw [hk]; exact ht), Nat.div_eq_of_lt ht, Nat.mod_eq_of_lt ht]
      rfl
    · obtain ⟨u, rfl⟩ : ∃ u, t = u + k := ⟨t - k, by omega⟩
      have hu : u < l.length * k := by rw [List.length_cons, Nat.succ_mul] at h; omega
      rw [List.getElem?_append_right (by rw [hk]; omega), hk, Nat.add_sub_cancel, flat_get enc k h0 hk l u hu, Nat.add_div_right _ h0, Nat.add_mod_right]
      rfl
theorem flat_array {α : Type} [Inhabited α] (enc : α → List Value) (k : Nat) (h0 : 0 < k) (hk : ∀ x, (enc x).length = k) (l : List α) : flatK enc k l.toArray = (l.flatMap enc).toArray := by
  apply ext_get!
  · rw [size_flatK, List.size_toArray, List.size_toArray, flat_len enc k hk]
  · intro t ht
    rw [size_flatK, List.size_toArray] at ht
    rw [get_flatK _ _ _ _ (by rw [List.size_toArray]; exact ht)]
    have h := flat_get enc k h0 hk l t ht
    simp only [List.getElem!_toArray, List.getElem!_eq_getElem?_getD] at h ⊢
    rw [h]
theorem holds_row {w : World} {base e k n g cap : Nat} {xs : List Value} (h : w.ownsRow base e k (.slice (some ⟨g, 0, none⟩) n cap) n xs) : Holds id w g 0 xs.toArray := by
  intro j hj
  rw [List.size_toArray] at hj
  rw [Nat.zero_add]
  refine ⟨?_, h.frozenAt j⟩
  rw [h.cellAt j (by rw [← h.1]; exact hj), List.getElem!_toArray, List.getElem?_eq_getElem hj, List.getElem!_eq_getElem?_getD, List.getElem?_eq_getElem hj]
  rfl
theorem take_put (cur : Array Value) (ts : List Value) (h : ts.length ≤ cur.size) : (putCells id 0 ts.toArray cur).toList.take ts.length = ts := by
  apply List.ext_getElem?
  intro j
  by_cases hj : j < ts.length
  · rw [List.getElem?_take_of_lt hj, Array.getElem?_toList]
    simp [putCells, hj, show j < cur.size by omega]
  · rw [List.getElem?_take_eq_none (by omega), List.getElem?_eq_none (by omega)]
theorem grownBy_put {w : World} {g n : Nat} {os : Array Obj} (d : Array Value) : w.grownBy (grow (putRow id (Sort.ahead w n) g 0 d) os) (some g) := by
  refine ⟨rfl, rfl, rfl, by simp, fun k hk hne => ?_⟩
  rw [heap_grow_old _ _ (by simpa using hk)]
  have : g ≠ k := fun e => hne (by rw [e])
  simp [putRow, mapBlock, Sort.ahead, Array.getElem?_modify, this]
theorem heap_put {w : World} {g n : Nat} {os : Array Obj} {cur : Array Value} {e : TypeId} {fz : Nat × Nat} (d : Array Value) (hb : w.heap[g]? = some (.cells cur e fz)) : (grow (putRow id (Sort.ahead w n) g 0 d) os).heap[g]? = some (.cells (putCells id 0 d cur) e fz) := by
  have hg : g < w.heap.size := (Array.getElem?_eq_some_iff.1 hb).1
  rw [heap_grow_old _ _ (by simpa using hg)]
  simp [putRow, mapBlock, Sort.ahead, Array.getElem?_modify, hb, onCells]
theorem owns_put {w : World} {base g cap n m k : Nat} {e : TypeId} {os : Array Obj} {xs ts : List Value} (h : w.ownsRow base e k (.slice (some ⟨g, 0, none⟩) m cap) m xs) (hl : ts.length = xs.length) :
    (grow (putRow id (Sort.ahead w n) g 0 ts.toArray) os).ownsRow base e k (.slice (some ⟨g, 0, none⟩) m cap) m ts := by
  obtain ⟨h0, h⟩ := h
  rcases h with ⟨h, _⟩ | ⟨g', cap', cur, hv, hbase, hb, h1, h2, h3, h4⟩
  · cases h
  cases hv
  have hle : m * k ≤ cap * k := Nat.mul_le_mul_right k h1
  refine ⟨by rw [hl, h0], .inr ⟨g, cap, _, rfl, hbase, heap_put _ hb, h1, h2, by simp [putCells, h3], ?_⟩⟩
  rw [← h0, ← hl]
  exact take_put cur ts (by omega)
theorem clo_lays (q : Qy) (z : Qa) (w0 w : World) (g blk size : Nat) (hq : RdQ w0 q z) (hbd : BdQ q) (hT : Tabs w0) (hB : Below w0.heap.size w0 w) (hbk : w0.heap.size ≤ blk) (hg : w.heap[g]? = some (.cells (cs38 q z) 38 (0, 0))) (hne : g ≠ blk) [Inhabited {x : Dc // Gd w0 x}] :
    CmpLays Tryd.prog 48 #[.pointer (some ⟨g, 0, none⟩)] (fun x : {x : Dc // Gd w0 x} => encD x.1) 6 (fun x y => compJ q.sort x.1.d y.1.d) blk 0 size w := by
  intro m os dk _ x y
  obtain ⟨W, hW⟩ : ∃ W, sortWorldK (fun x : {x : Dc // Gd w0 x} => encD x.1) 6 w blk 0 m dk os = W := ⟨_, rfl⟩
  have hgr : w.grownBy W (some blk) := by rw [← hW]; exact grownBy_put _
  rw [hW]
  have hlt := blk_lt hg
  have hBW : Below w0.heap.size w0 W := hB.grown hgr hB.size (fun k hk => by cases hk; exact hbk)
  have hgW : W.heap[g]? = some (.cells (cs38 q z) 38 (0, 0)) := (hgr.block g hlt (fun e => hne (by cases e; rfl))).trans hg
  have h := clo_any q z x.1.d y.1.d x.1.A3 x.1.c3 x.1.A4 x.1.c4 y.1.A3 y.1.c3 y.1.A4 y.1.c4 W (hq.below hBW) hbd (x.2.below hBW) (y.2.below hBW) (hT.below hBW) g hgW
  refine (Mono.calls_drawn h).mono ?_
  rintro e w' ⟨⟨rfl, hb⟩, hd⟩
  rcases hd with hd | hd
  · cases hd
  · exact ⟨rfl, below_grow hb hd⟩
theorem sort_docs (q : Qy) (z : Qa) (w0 w : World) (g : Nat) (v : Value) (l : List Dc) (hq : RdQ w0 q z) (hbd : BdQ q) (hT : Tabs w0) (hB : Below w0.heap.size w0 w) (hg : w.heap[g]? = some (.cells (cs38 q z) 38 (0, 0))) (hl : ∀ x ∈ l, Gd w0 x)
    (hown : w.ownsRow w0.heap.size 42 6 v l.length (flatD l)) (hne : v.ownBlock ≠ some g) (hsz : l.length ≤ 1000) :
    Calls Tryd.prog 47 #[v, .func (.func 48) #[] #[.pointer (some ⟨g, 0, none⟩)]] w fun e w' => e = .returned (.tuple #[]) ∧ ∃ l' : List Dc, l'.Perm l ∧ l'.Pairwise (fun a b => ¬ compJ q.sort b.d a.d < 0) ∧ w'.ownsRow w0.heap.size 42 6 v l.length (flatD l') ∧ w.grownBy w' v.ownBlock := by
  rcases hown.2 with ⟨rfl, h0⟩ | ⟨b, cap, cur, rfl, hbase, hb, h1, h2, h3, h4⟩
  · have hnil : l = [] := List.length_eq_zero_iff.1 h0
    subst hnil
    refine (AnyF.slices_SortFunc_none Tryd.laysSortF none 0 _ w).mono ?_
    rintro e w' ⟨rfl, rfl⟩
    exact ⟨rfl, [], .nil, .nil, World.ownsRow_nil _ _ _ _, World.grownBy.refl _ _⟩
  · cases l with
    | nil =>
      refine (AnyF.slices_SortFunc_none Tryd.laysSortF (some ⟨b, 0, none⟩) cap _ w).mono ?_
      rintro e w' ⟨rfl, rfl⟩
      exact ⟨rfl, [], .nil, .nil, hown, World.grownBy.refl _ _⟩
    | cons x0 l0 =>
      obtain ⟨l, hl1⟩ : ∃ l, x0 :: l0 = l := ⟨_, rfl⟩
      have hx0 : Gd w0 x0 := hl x0 (List.mem_cons_self ..)
      rw [hl1] at hl hown hsz ⊢
      clear hl1
      letI : Inhabited {x : Dc // Gd w0 x} := ⟨⟨x0, hx0⟩⟩
      obtain ⟨ds, hds⟩ : ∃ ds : List {x : Dc // Gd w0 x}, ds.map Subtype.val = l := ⟨l.pmap Subtype.mk hl, by rw [List.map_pmap]; exact List.pmap_eq_map .. |>.trans (List.map_id _)⟩
      have hsd : ds.length = l.length := by rw [← hds, List.length_map]
      have hk : ∀ x : {x : Dc // Gd w0 x}, (encD x.1).length = 6 := fun _ => rfl
      have hfl : flatD l = ds.flatMap fun x => encD x.1 := by
        rw [← hds]
        unfold flatD
        rw [List.flatMap_map]
      have hne' : g ≠ b := fun e => hne (by rw [e]; rfl)
      have hbl : b < w.heap.size := blk_lt hb
      have hH : HoldsK (fun x : {x : Dc // Gd w0 x} => encD x.1) 6 w b 0 ds.toArray := by
        unfold HoldsK
        rw [flat_array _ 6 (by omega) hk, ← hfl]
        exact holds_row hown
      have h := AnyQ.slices_SortFunc Tryd.laysSortF 6 Tryd.isAgg42 Tryd.sizeOf42 (fun x : {x : Dc // Gd w0 x} => encD x.1) hk
        (fun x v hv => by
          simp only [encD, List.mem_cons, List.not_mem_nil, or_false] at hv
          rcases hv with rfl | rfl | rfl | rfl | rfl | rfl <;> rfl)
        (fun x y => compJ q.sort x.1.d y.1.d) (swo_of _ (fun a b => compJ_neg q.sort a.1.d b.1.d) (fun a b c => compJ_trans q.sort a.1.d b.1.d c.1.d)) 48 #[.pointer (some ⟨g, 0, none⟩)] b 0 cap ds.toArray w
        (enters_of Tryd.func48 (by kernel_rfl) rfl) (clo_lays q z w0 w g b _ hq hbd hT hB hbase hg hne') hH hbl (by rw [List.size_toArray, hsd]; omega)
      rw [List.size_toArray, hsd] at h
      refine h.mono ?_
      rintro e w' ⟨rfl, d', n, os, hp, hs, rfl⟩
      obtain ⟨ds', rfl⟩ : ∃ ds' : List {x : Dc // Gd w0 x}, ds'.toArray = d' := ⟨d'.toList, by simp⟩
      obtain ⟨p1, _, p3⟩ := hp
      simp only [List.size_toArray] at p1
      have p4 : ds'.Perm ds := by
        have a1 : (ds'.toArray.extract 0 l.length).toList = ds' := by
          have e : ds'.length ≤ l.length := by omega
          simp [List.take_of_length_le e]
        have a2 : (ds.toArray.extract 0 l.length).toList = ds := by
          have e : ds.length ≤ l.length := by omega
          simp [List.take_of_length_le e]
        rw [a1, a2] at p3
        exact p3
      refine ⟨rfl, ds'.map Subtype.val, ?_, ?_, ?_, ?_⟩
      · rw [← hds]
        exact p4.map _
      · rw [List.pairwise_map, List.pairwise_iff_getElem]
        intro i j hi hj hij
        have h3 := hs i j (Nat.zero_le _) hij (by omega)
        rw [List.getElem!_toArray, List.getElem!_toArray, getElem!_pos _ j hj, getElem!_pos _ i hi] at h3
        exact of_decide_eq_false h3
      · unfold sortWorldK putRowK
        rw [flat_array _ 6 (by omega) hk]
        have e1 : flatD (ds'.map Subtype.val) = ds'.flatMap fun x => encD x.1 := by
          unfold flatD
          rw [List.flatMap_map]
        rw [e1]
        exact owns_put hown (by rw [flat_len _ 6 hk, hfl, flat_len _ 6 hk, p1])
      · exact grownBy_put _
end Go.Proofs.YtehdnjegipcpfaaDoor

namespace Go.Proofs.YtehdnjegipcpfaaDoor
open Go.RowKit Go.Proofs.YtehdnjegipcpfaaDoorW.PrintWords Go.Proofs.YtehdnjegipcpfaaDoorW.PrintLast Go.Proofs.YtehdnjegipcpfaaDoorW.PrintMore
open PFilterHolds PAns Go.Shelf Go.Sort
structure RdD (w : World) (A : Option Addr) (docs : List Dc) : Prop where
  get : ∀ j x, docs[j]? = some x → ∃ b o, A = some ⟨b, o, none⟩ ∧ b < w.heap.size ∧ w.cell? ⟨b, o + j * 6, none⟩ = some (.string x.d.f0) ∧ w.cell? ⟨b, o + j * 6 + 1, none⟩ = some (.int .i64 x.d.f1.f0) ∧ w.cell? ⟨b, o + j * 6 + 2, none⟩ = some (.int .i64 x.d.f1.f1) ∧
    w.cell? ⟨b, o + j * 6 + 3, none⟩ = some (.string x.d.f1.f2) ∧ w.cell? ⟨b, o + j * 6 + 4, none⟩ = some (.slice x.A3 x.d.f1.f3.length x.c3) ∧ w.cell? ⟨b, o + j * 6 + 5, none⟩ = some (.slice x.A4 x.d.f1.f4.length x.c4) ∧ Gd w x
theorem RdD.below {w w' : World} {A : Option Addr} {docs : List Dc} (h : RdD w A docs) (hb : Below w.heap.size w w') : RdD w' A docs := ⟨fun j x hx => by
  obtain ⟨b, o, e, hlt, h0, h1, h2, h3, h4, h5, hR⟩ := h.get j x hx
  exact ⟨b, o, e, Nat.lt_of_lt_of_le hlt hb.size, (hb.cell hlt).trans h0, (hb.cell hlt).trans h1, (hb.cell hlt).trans h2, (hb.cell hlt).trans h3, (hb.cell hlt).trans h4, (hb.cell hlt).trans h5, hR.below hb⟩⟩
theorem doc_of {w : World} {A : Option Addr} {n : Nat} {xs : List S42} (h : Kd.C k42 w A n xs) (hn : n = xs.length) (i : Nat) (x : S42) (hx : xs[i]? = some x) :
    ∃ b o A3 c3 A4 c4, A = some ⟨b, o, none⟩ ∧ b < w.heap.size ∧ w.cell? ⟨b, o + i * 6, none⟩ = some (.string x.f0) ∧ w.cell? ⟨b, o + i * 6 + 1, none⟩ = some (.int .i64 x.f1.f0) ∧ w.cell? ⟨b, o + i * 6 + 2, none⟩ = some (.int .i64 x.f1.f1) ∧
      w.cell? ⟨b, o + i * 6 + 3, none⟩ = some (.string x.f1.f2) ∧ w.cell? ⟨b, o + i * 6 + 4, none⟩ = some (.slice A3 x.f1.f3.length c3) ∧ w.cell? ⟨b, o + i * 6 + 5, none⟩ = some (.slice A4 x.f1.f4.length c4) ∧ Rd w A3 c3 A4 c4 x.f1 := by
  obtain ⟨hi, rfl⟩ := List.getElem?_eq_some_iff.1 hx
  obtain ⟨ad0, _, _, _, _, e0, k0, _⟩ := at_T42 h (0 : Int) (by omega) (by omega)
  obtain ⟨ad, A3, c3, A4, c4, e, h0, h1, h2, h3, h4, h5, l3, g3, l4, g4⟩ := at_T42 h (i : Int) (by omega) (by omega)
  obtain rfl : ad0 = ad := by rw [e0] at e; injection e
  have hr : rd_T42 xs (i : Int) = xs[i] := by unfold rd_T42; simp [hi]
  rw [hr] at h0 h1 h2 h3 h4 h5 l3 g3 l4 g4
  obtain ⟨b, o, s⟩ := ad0
  have hs : s = none := by simpa [Addr.add] using World.cell?_spot k0
  subst hs
  rw [Int.toNat_natCast, Addr.add_lit] at h0 h1 h2 h3 h4 h5
  exact ⟨b, o, A3, c3, A4, c4, e, World.block_lt_of_cell? w _ h1, h0, h1, h2, h3, h4, h5, ⟨l3, g3, l4, g4⟩⟩
theorem docs_of {w : World} {A : Option Addr} {xs : List S42} (h : Kd.C k42 w A xs.length xs) : ∃ docs : List Dc, docs.map Dc.d = xs ∧ RdD w A docs := by
  have hD : ∀ i : Fin xs.length, ∃ y : Dc, y.d = xs[i] ∧ ∃ b o, A = some ⟨b, o, none⟩ ∧ b < w.heap.size ∧ w.cell? ⟨b, o + i.1 * 6, none⟩ = some (.string y.d.f0) ∧ w.cell? ⟨b, o + i.1 * 6 + 1, none⟩ = some (.int .i64 y.d.f1.f0) ∧ w.cell? ⟨b, o + i.1 * 6 + 2, none⟩ = some (.int .i64 y.d.f1.f1) ∧
      w.cell? ⟨b, o + i.1 * 6 + 3, none⟩ = some (.string y.d.f1.f2) ∧ w.cell? ⟨b, o + i.1 * 6 + 4, none⟩ = some (.slice y.A3 y.d.f1.f3.length y.c3) ∧ w.cell? ⟨b, o + i.1 * 6 + 5, none⟩ = some (.slice y.A4 y.d.f1.f4.length y.c4) ∧ Gd w y := fun i => by
    obtain ⟨b, o, A3, c3, A4, c4, e, hlt, h0, h1, h2, h3, h4, h5, hR⟩ := doc_of h rfl i.1 xs[i] (List.getElem?_eq_getElem i.2)
    exact ⟨⟨xs[i], A3, c3, A4, c4⟩, rfl, b, o, e, hlt, h0, h1, h2, h3, h4, h5, hR⟩
  have hc := Classical.axiomOfChoice hD
  obtain ⟨f, hf⟩ := hc
  refine ⟨List.ofFn f, ?_, ⟨fun j x hx => ?_⟩⟩
  · apply List.ext_getElem (by simp)
    intro i h1 h2
    rw [List.getElem_map, List.getElem_ofFn]
    exact (hf ⟨i, h2⟩).1
  · obtain ⟨hj, rfl⟩ := List.getElem?_eq_some_iff.1 hx
    rw [List.getElem_ofFn]
    rw [List.length_ofFn] at hj
    exact (hf ⟨j, hj⟩).2
def scanJ : List ByteArray → List Dc → Bool
  | _, [] => false
  | ids, x :: l => (!docJ x.d || memB ids x.d.f0) || scanJ (ids ++ [x.d.f0]) l
structure Rs (w : World) (q : Qy) (z : Qa) (m : Nat) (V : Value) (out : List Dc) (ids : List ByteArray) (W : World) : Prop where
  row : W.ownsRow w.heap.size 42 6 V out.length (flatD out)
  bl : Below w.heap.size w W
  kq : W.heap[w.heap.size]? = some (.cells (cs38 q z) 38 (0, 0))
  sn : Seen W m ids
  ne1 : V.ownBlock ≠ some w.heap.size
  ne2 : V.ownBlock ≠ some m
  hm : w.heap.size < m
theorem Rs.below {w : World} {q : Qy} {z : Qa} {m : Nat} {V : Value} {out : List Dc} {ids : List ByteArray} {W W' : World} (h : Rs w q z m V out ids W) (hb : Below W.heap.size W W') : Rs w q z m V out ids W' := by
  have hg : W.grownBy W' none := ⟨hb.os, hb.tape, hb.output, hb.size, fun k hk _ => hb.block k hk⟩
  exact ⟨pw_own_below h.row hb, h.bl.trans (hb.mono h.bl.size), (hb.block _ (blk_lt h.kq)).trans h.kq, h.sn.kept hg (by simp), h.ne1, h.ne2, h.hm⟩
theorem Rs.put {w : World} {q : Qy} {z : Qa} {m : Nat} {V : Value} {out : List Dc} {ids ids' : List ByteArray} {W W' : World} (h : Rs w q z m V out ids W) (hs : Seen W' m ids') (hg : W.grownBy W' (some m)) : Rs w q z m V out ids' W' :=
  ⟨h.row.kept hg (.inr h.ne2), h.bl.grown hg h.bl.size (fun k hk => by cases hk; exact Nat.le_of_lt h.hm), (hg.block _ (blk_lt h.kq) (fun e => by have := h.hm; cases e; omega)).trans h.kq, hs, h.ne1, h.ne2, h.hm⟩
theorem Rs.app {w : World} {q : Qy} {z : Qa} {m : Nat} {V : Value} {out : List Dc} {ids : List ByteArray} {W W' : World} {g c : Nat} {x : Dc} (h : Rs w q z m V out ids W) (ho : W'.ownsRow w.heap.size 42 6 (.slice (some ⟨g, 0, none⟩) (out.length + 1) c) (out.length + 1) (flatD out ++ encD x)) (hg : W.grownBy W' V.ownBlock) (ha : V.ownBlock = some g ∨ g = W.heap.size) :
    Rs w q z m (.slice (some ⟨g, 0, none⟩) (out ++ [x]).length c) (out ++ [x]) ids W' := by
  have e1 : (out ++ [x]).length = out.length + 1 := by simp
  have hml := h.sn.lt
  have hql := blk_lt h.kq
  refine ⟨?_, h.bl.grown hg h.bl.size (fun k hk => (h.row.lt k hk).1), (hg.block _ hql (fun e => h.ne1 e.symm)).trans h.kq, h.sn.kept hg (fun e => h.ne2 e.symm), ?_, ?_, h.hm⟩
  · rw [e1]
    unfold flatD at ho ⊢
    rw [List.flatMap_append, List.flatMap_singleton]
    exact ho
  · intro e
    have e : g = w.heap.size := by simpa [Value.ownBlock] using e
    rcases ha with ha | ha
    · exact h.ne1 (by rw [ha, e])
    · omega
  · intro e
    have e : g = m := by simpa [Value.ownBlock] using e
    rcases ha with ha | ha
    · exact h.ne2 (by rw [ha, e])
    · omega
end Go.Proofs.YtehdnjegipcpfaaDoor

namespace Go.Proofs.YtehdnjegipcpfaaDoor
open Go.RowKit Go.Proofs.YtehdnjegipcpfaaDoorW.PrintWords Go.Proofs.YtehdnjegipcpfaaDoorW.PrintLast Go.Proofs.YtehdnjegipcpfaaDoorW.PrintMore
open PFilterHolds PAns Go.Shelf Go.Sort
theorem cut_low (r : Option Addr) (n k m : Nat) (hm : m ≤ n) (W : World) :
    (Instr.slice 39 (.slice r n k) (some (.int .i64 (m : Int))) none none).run Tryd.prog W = .ok (.slice (if k = m then r else r.map (·.add (m * 6))) (n - m) (k - m)) W := by
  have hu : Tryd.prog.underlying 39 = some (.slice (Tryd.prog.elem 39)) := by
    have := Tryd.underlying39
    rw [this]
    simp [Program.elem, this]
  have hel : Tryd.prog.elem 39 = 42 := by simp [Program.elem, Tryd.underlying39]
  rw [run_slice_l W 39 r n k hu .i64 (m : Int) (Int.natCast_nonneg _) (by omega), hel]
  have hz := Tryd.sizeOf42 W
  simp [hz, sliced, Result.andThen]
theorem cut_high (r : Option Addr) (n k m : Nat) (hm : m ≤ k) (W : World) :
    (Instr.slice 39 (.slice r n k) none (some (.int .i64 (m : Int))) none).run Tryd.prog W = .ok (.slice r m k) W := by
  have hu : Tryd.prog.underlying 39 = some (.slice (Tryd.prog.elem 39)) := by
    have := Tryd.underlying39
    rw [this]
    simp [Program.elem, this]
  have hel : Tryd.prog.elem 39 = 42 := by simp [Program.elem, Tryd.underlying39]
  rw [run_slice_h W 39 r n k hu .i64 (m : Int) (Int.natCast_nonneg _) (by omega), hel]
  have hz := Tryd.sizeOf42 W
  simp only [hz, sliced, Result.andThen, Int.toNat_natCast, Nat.zero_mul, Nat.sub_zero]
  have : (if k = 0 then r else r.map (·.add 0)) = r := by
    split
    · rfl
    · cases r <;> simp [Addr.add]
  rw [this]
instance : Inhabited Dc := ⟨⟨z42, none, 0, none, 0⟩⟩
structure Lo (w : World) (q : Qy) (z : Qa) (A : Option Addr) (l : List Dc) (W : World) : Prop where
  bl : Below w.heap.size w W
  kq : W.heap[w.heap.size]? = some (.cells (cs38 q z) 38 (0, 0))
  get : ∀ j x, l[j]? = some x → ∃ b o cs, A = some ⟨b, o, none⟩ ∧ w.heap.size < b ∧ W.heap[b]? = some (.cells cs 42 (0, 0)) ∧ ∀ t u, (encD x)[t]? = some u → cs[o + j * 6 + t]? = some u
  gd : ∀ x ∈ l, ∀ W', W.grownBy W' (A.map Addr.block) → Gd W' x
theorem Lo.below {w : World} {q : Qy} {z : Qa} {A : Option Addr} {l : List Dc} {W W' : World} (h : Lo w q z A l W) (hb : Below W.heap.size W W') : Lo w q z A l W' := by
  have hg : ∀ row, W.grownBy W' row := fun row => ⟨hb.os, hb.tape, hb.output, hb.size, fun k hk _ => hb.block k hk⟩
  refine ⟨h.bl.trans (hb.mono h.bl.size), (hb.block _ (blk_lt h.kq)).trans h.kq, fun j x hx => ?_, fun x hx W'' hg' => h.gd x hx W'' ((hg _).trans hg')⟩
  obtain ⟨b, o, cs, e, h1, h2, h3⟩ := h.get j x hx
  exact ⟨b, o, cs, e, h1, (hb.block _ (blk_lt h2)).trans h2, h3⟩
theorem lo_of {w : World} {q : Qy} {z : Qa} {r : Option Addr} {k m : Nat} {l : List Dc} {W : World} (hrow : W.ownsRow w.heap.size 42 6 (.slice r l.length k) l.length (flatD l)) (hbl : Below w.heap.size w W) (hkq : W.heap[w.heap.size]? = some (.cells (cs38 q z) 38 (0, 0))) (hne : (Value.slice r l.length k).ownBlock ≠ some w.heap.size)
    (hgd : ∀ x ∈ l, Gd w x) : Lo w q z (if k = m then r else r.map (·.add (m * 6))) (l.drop m) W := by
  refine ⟨hbl, hkq, fun j x hx => ?_, fun x hx W' hg => ?_⟩
  · rw [List.getElem?_drop] at hx
    obtain ⟨hlt, hx1⟩ := List.getElem?_eq_some_iff.1 hx
    rcases hrow.2 with ⟨_, h0⟩ | ⟨g, cap, cur, hv, hbase, hb, h1, h2, h3, h4⟩
    · omega
    cases hv
    have hgn : g ≠ w.heap.size := fun e => hne (by rw [e]; rfl)
    refine ⟨g, m * 6, cur, ?_, by omega, hb, fun t u hu => ?_⟩
    · rw [if_neg (by omega)]
      simp [Addr.add]
      omega
    · have ht : t < 6 := (List.getElem?_eq_some_iff.1 hu).1
      have hf := flat_get encD 6 (by omega) (fun _ => rfl) l (m * 6 + j * 6 + t) (by omega)
      rw [show (m * 6 + j * 6 + t) / 6 = m + j by omega, show (m * 6 + j * 6 + t) % 6 = t by omega, getElem!_pos l (m + j) hlt, hx1, hu] at hf
      rw [← Array.getElem?_toList]
      rw [show l.flatMap encD = _ from h4.symm, List.getElem?_take] at hf
      rw [if_pos (by omega)] at hf
      exact hf
  · refine (hgd x (List.mem_of_mem_drop hx)).below (hbl.grown hg hbl.size fun k hk => ?_)
    rcases hrow.2 with ⟨h0, _⟩ | ⟨g, cap, cur, hv, hbase, hb, h1, h2, h3, h4⟩
    · injection h0 with a1 _ _
      subst a1
      split at hk <;> simp at hk
    · cases hv
      have : g = k := by
        split at hk
        · simpa using hk
        · by_cases hm : m * 6 = 0
          · simp only [Option.map_some, Addr.add, hm, if_true] at hk
            simpa using hk
          · simp only [Option.map_some, Addr.add, hm, if_false] at hk
            simpa using hk
      omega
theorem Lo.take {w : World} {q : Qy} {z : Qa} {A : Option Addr} {l : List Dc} {W : World} (h : Lo w q z A l W) (m : Nat) : Lo w q z A (l.take m) W :=
  ⟨h.bl, h.kq, fun j x hx => h.get j x (by
    rw [List.getElem?_take] at hx
    split at hx
    · exact hx
    · cases hx), fun x hx => h.gd x (List.mem_of_mem_take hx)⟩
abbrev set5 (W : World) (b o : Nat) (y : Dc) : World :=
  ((((W.setCell ⟨b, o + 1, none⟩ (.int .i64 y.d.f1.f0)).setCell ⟨b, o + 2, none⟩ (.int .i64 y.d.f1.f1)).setCell ⟨b, o + 3, none⟩ (.string y.d.f1.f2)).setCell ⟨b, o + 4, none⟩ (.slice y.A3 y.d.f1.f3.length y.c3)).setCell ⟨b, o + 5, none⟩ (.slice y.A4 y.d.f1.f4.length y.c4)
theorem set_grown (W : World) (b i : Nat) (u : Value) : W.grownBy (W.setCell ⟨b, i, none⟩ u) (some b) :=
  ⟨rfl, rfl, rfl, by simp [World.setCell], fun k _ hne => Below.heap_setCell _ _ _ _ (fun e => hne (by rw [e]))⟩
theorem set5_grown (W : World) (b o : Nat) (y : Dc) : W.grownBy (set5 W b o y) (some b) :=
  ((((set_grown W b _ _).trans (set_grown _ b _ _)).trans (set_grown _ b _ _)).trans (set_grown _ b _ _)).trans (set_grown _ b _ _)
theorem Lo.set {w : World} {q : Qy} {z : Qa} {A : Option Addr} {l : List Dc} {W : World} (h : Lo w q z A l W) {b o j : Nat} {x y : Dc} (hA : A = some ⟨b, o, none⟩) (hx : l[j]? = some x) (h0 : y.d.f0 = x.d.f0) (hy : ∀ W', W.grownBy W' (some b) → Gd W' y) : Lo w q z A (l.set j y) (set5 W b (o + j * 6) y) := by
  have hg := set5_grown W b (o + j * 6) y
  subst hA
  obtain ⟨b', o', cs, e, hb1, hb2, hcs⟩ := h.get j x hx
  obtain ⟨rfl, rfl⟩ : b = b' ∧ o = o' := by simpa using e
  have hb6 : (set5 W b (o + j * 6) y).heap[b]? = _ := blk_set (blk_set (blk_set (blk_set (blk_set hb2 (o + j * 6 + 1) (.int .i64 y.d.f1.f0)) (o + j * 6 + 2) (.int .i64 y.d.f1.f1)) (o + j * 6 + 3) (.string y.d.f1.f2)) (o + j * 6 + 4) (.slice y.A3 y.d.f1.f3.length y.c3)) (o + j * 6 + 5) (.slice y.A4 y.d.f1.f4.length y.c4)
  generalize set5 W b (o + j * 6) y = W5 at hg hb6 ⊢
  refine ⟨h.bl.grown hg h.bl.size (fun k hk => by cases hk; omega), (hg.block _ (blk_lt h.kq) (fun e => by cases e; omega)).trans h.kq, fun i u hu => ?_, fun u hu W' hg' => ?_⟩
  · refine ⟨b, o, _, rfl, hb1, hb6, fun t v hv => ?_⟩
    clear hb6 hg hy
    have ht : t < 6 := (List.getElem?_eq_some_iff.1 hv).1
    by_cases hij : i = j
    · subst hij
      have hlt : i < l.length := (List.getElem?_eq_some_iff.1 hx).1
      rw [List.getElem?_set_self hlt] at hu
      obtain rfl : y = u := Option.some.inj hu
      have hsz : ∀ s, s < 6 → o + i * 6 + s < cs.size := fun s hs => by
        have hs' : s < (encD x).length := hs
        have := hcs s ((encD x)[s]'hs') (List.getElem?_eq_getElem hs')
        exact (Array.getElem?_eq_some_iff.1 this).1
      have s0 := hsz 0 (by omega)
      have s1 := hsz 1 (by omega)
      have s2 := hsz 2 (by omega)
      have s3 := hsz 3 (by omega)
      have s4 := hsz 4 (by omega)
      have s5 := hsz 5 (by omega)
      rcases (show t = 0 ∨ t = 1 ∨ t = 2 ∨ t = 3 ∨ t = 4 ∨ t = 5 by omega) with rfl | rfl | rfl | rfl | rfl | rfl
      · have := hcs 0 v (by rw [← hv]; simp [encD, h0])
        simpa [Array.getElem?_setIfInBounds] using this
      all_goals
        simp only [encD, List.getElem?_cons_zero, List.getElem?_cons_succ, Option.some.injEq] at hv
        subst hv
        simp [Array.getElem?_setIfInBounds]
        omega
    · rw [List.getElem?_set_ne (fun e => hij e.symm)] at hu
      obtain ⟨b2, o2, cs2, e2, _, hb3, hc2⟩ := h.get i u hu
      obtain ⟨rfl, rfl⟩ : b = b2 ∧ o = o2 := by simpa using e2
      have : cs = cs2 := by
        rw [hb2] at hb3
        injection hb3 with hb3
        injection hb3
      subst this
      have := hc2 t v hv
      simp only [Array.getElem?_setIfInBounds]
      rw [if_neg (by omega), if_neg (by omega), if_neg (by omega), if_neg (by omega), if_neg (by omega)]
      exact this
  · have hg2 := hg.trans hg'
    rcases List.mem_or_eq_of_mem_set hu with hu | hu
    · exact h.gd u hu W' hg2
    · subst hu
      exact hy W' hg2
end Go.Proofs.YtehdnjegipcpfaaDoor

namespace Go.Proofs.YtehdnjegipcpfaaDoor
open Go.RowKit Go.Proofs.YtehdnjegipcpfaaDoorW.PrintWords Go.Proofs.YtehdnjegipcpfaaDoorW.PrintLast Go.Proofs.YtehdnjegipcpfaaDoorW.PrintMore
open PFilterHolds PAns Go.Shelf Go.Sort
set_option maxRecDepth 100000 in
set_option maxHeartbeats 1000000 in
theorem proj_nil (q : Qy) (z : Qa) (x : S25) (A3 : Option Addr) (c3 : Nat) (A4 : Option Addr) (c4 : Nat) (w : World) (hf : q.flds = []) :
    Calls Tryd.prog 50 #[qv q z, av x A3 c3 A4 c4] w fun e w' => e = .returned (av x A3 c3 A4 c4) ∧ Below w.heap.size w w' := by
  obtain ⟨⟨x0, x1, x2, x3, x4⟩, srt, fl, sk, lm⟩ := q
  obtain ⟨F3, f3, F4, f4, So, so, Fi, fi⟩ := z
  obtain ⟨v0, v1, v2, v3, v4⟩ := x
  simp only at hf
  subst hf
  simp only [qv, List.length_nil]
  go_enter Tryd.func50, Tryd.ntmps50
  go_wp2_with fail
  refine bodyPost_ret (v := .agg #[.int .i64 v0, .int .i64 v1, .string v2, .slice A3 v3.length c3, .slice A4 v4.length c4]) ?_ rfl ?_
  · simp [results, Tryd.results50, go_sem]
  · exact ⟨rfl, tri w _ _ _⟩
def Proj (w : World) (q : Qy) (z : Qa) (pj : S25 → S25) (docs : List Dc) : Prop :=
  ∀ (x : Dc) (W : World) (b : Nat), (∃ x0 ∈ docs, x0.d = x.d) → Below w.heap.size w W → w.heap.size < b → b < W.heap.size → Gd W x →
    (∀ W', W.grownBy W' (some b) → Gd W' x) →
    Calls Tryd.prog 50 #[qv q z, av x.d.f1 x.A3 x.c3 x.A4 x.c4] W fun e w' => ∃ y : Dc, y.d.f0 = x.d.f0 ∧ y.d.f1 = pj x.d.f1 ∧ e = .returned (av y.d.f1 y.A3 y.c3 y.A4 y.c4) ∧ Below W.heap.size W w' ∧ ∀ W', w'.grownBy W' (some b) → Gd W' y
theorem proj_none (w : World) (q : Qy) (z : Qa) (docs : List Dc) (hf : q.flds = []) : Proj w q z id docs := by
  intro x W b _ _ _ _ hx hk
  refine (proj_nil q z x.d.f1 x.A3 x.c3 x.A4 x.c4 W hf).mono ?_
  rintro e w' ⟨rfl, hb⟩
  have hg : W.grownBy w' (some b) := ⟨hb.os, hb.tape, hb.output, hb.size, fun k hk _ => hb.block k hk⟩
  exact ⟨x, rfl, rfl, rfl, hb, fun W' h => hk W' (hg.trans h)⟩
end Go.Proofs.YtehdnjegipcpfaaDoor
