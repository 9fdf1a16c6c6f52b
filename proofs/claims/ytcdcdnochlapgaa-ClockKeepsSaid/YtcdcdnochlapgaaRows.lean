/-
  No cell of these rows narrows 'for every input' (looked for: loops, veiled, ifaces, maps, wideKeys, modest, calm, conditions, laid).
  DERIVED. THE GIVEN ROWS OF THIS SEAT. 5 by the template 'for every input the law returns true; each argument reads behind the call as it read before'; 0 by the template 'total and deterministic' (their statements: YtcdcdnochlapgaaTotals.lean).
  GIVEN WITH THE SEED: the statements are not yours to turn. If you find one false, say at which input.
  Laid BY PROGRAM, IN A SANDBOX (cutbox-rows.mjs): the forced cells as the released guide's own fill.sh prints them over the translation 2c04b4d346db1d2c… (all of the seat's roots in one cut). By AI agents, Wed Nov 11 2026. No macro, syntax, notation, axiom, sorry.
-/
import Derived.Test.YtcdcdnochlapgaaChecked
import GoSem.Claim
import GoSem.ClaimJoined
import GoSem.ClaimMapViews
import Derived.JoinedTies
import Derived.KernelRfl
namespace Go.Proofs.Ytcdcdnochlapgaa
/- THE CELL 'sum', in the pinned program and in every row, IS THE sha256 OF THE DUMP (.gsa) THAT YtcdcdnochlapgaaProg.lean LOADS. Nothing in Lean hashes anything: it is a label: what it is worth is what the hold of that sum in a sandbox is worth. -/
noncomputable def Try.pinned : Pinned := { name := "ytcdcdnochlapgaa", sum := "2c04b4d346db1d2ccde2545c0e802c4ce1b50f33e4f85798f51142300c7e7bd1", checked := Try.checked }
namespace Rows
def none {H : Type} : Left H := { results := [], args := [] }

/-- 'munimentlaw13.ClockRises': WHATEVER THE INPUT: true; the input reads as it did. -/
def clockRisesSpec : ChangeSpec := { name := "clockRises", fn := fun _ => fun
  | [d1, d2] => { results := [.lit (.bool true)], args := [d1, d2] }
  | _ => none }
def clockRisesRow : OpenClaim := { program := "ytcdcdnochlapgaa", sum := "2c04b4d346db1d2ccde2545c0e802c4ce1b50f33e4f85798f51142300c7e7bd1", func := "muniment/munimentlaw13.ClockRises", spec := "clockRises", apart := false }
def ClockRisesSaid : Prop := clockRisesRow.holds Try.pinned (OpenSpec.ofChange clockRisesSpec)

/-- ITS FALSE NEIGHBOUR: 'it returns false'. Refute it at one input. -/
def clockRisesWrong : ChangeSpec := { name := "clockRises", fn := fun _ => fun
  | [d1, d2] => { results := [.lit (.bool false)], args := [d1, d2] }
  | _ => none }
def ClockRisesWrongFalsely : Prop := clockRisesRow.holds Try.pinned (OpenSpec.ofChange clockRisesWrong)

/-- 'munimentlaw13.ClockNumbers': WHATEVER THE INPUT: true; the input reads as it did. -/
def clockNumbersSpec : ChangeSpec := { name := "clockNumbers", fn := fun _ => fun
  | [d1, d2] => { results := [.lit (.bool true)], args := [d1, d2] }
  | _ => none }
def clockNumbersRow : OpenClaim := { program := "ytcdcdnochlapgaa", sum := "2c04b4d346db1d2ccde2545c0e802c4ce1b50f33e4f85798f51142300c7e7bd1", func := "muniment/munimentlaw13.ClockNumbers", spec := "clockNumbers", unfollowed := true, recurses := true, apart := false }
def ClockNumbersSaid : Prop := clockNumbersRow.holds Try.pinned (OpenSpec.ofChange clockNumbersSpec)

/-- ITS FALSE NEIGHBOUR: 'it returns false'. Refute it at one input. -/
def clockNumbersWrong : ChangeSpec := { name := "clockNumbers", fn := fun _ => fun
  | [d1, d2] => { results := [.lit (.bool false)], args := [d1, d2] }
  | _ => none }
def ClockNumbersWrongFalsely : Prop := clockNumbersRow.holds Try.pinned (OpenSpec.ofChange clockNumbersWrong)

/-- 'munimentlaw13.ClockPlays': WHATEVER THE INPUT: true; the input reads as it did. -/
def clockPlaysSpec : ChangeSpec := { name := "clockPlays", fn := fun _ => fun
  | [d1, d2] => { results := [.lit (.bool true)], args := [d1, d2] }
  | _ => none }
def clockPlaysRow : OpenClaim := { program := "ytcdcdnochlapgaa", sum := "2c04b4d346db1d2ccde2545c0e802c4ce1b50f33e4f85798f51142300c7e7bd1", func := "muniment/munimentlaw13.ClockPlays", spec := "clockPlays", unfollowed := true, recurses := true, apart := false }
def ClockPlaysSaid : Prop := clockPlaysRow.holds Try.pinned (OpenSpec.ofChange clockPlaysSpec)

/-- ITS FALSE NEIGHBOUR: 'it returns false'. Refute it at one input. -/
def clockPlaysWrong : ChangeSpec := { name := "clockPlays", fn := fun _ => fun
  | [d1, d2] => { results := [.lit (.bool false)], args := [d1, d2] }
  | _ => none }
def ClockPlaysWrongFalsely : Prop := clockPlaysRow.holds Try.pinned (OpenSpec.ofChange clockPlaysWrong)

/-- 'munimentlaw13.ClockKeeps': WHATEVER THE INPUT: true; the input reads as it did. -/
def clockKeepsSpec : ChangeSpec := { name := "clockKeeps", fn := fun _ => fun
  | [d1, d2] => { results := [.lit (.bool true)], args := [d1, d2] }
  | _ => none }
def clockKeepsRow : OpenClaim := { program := "ytcdcdnochlapgaa", sum := "2c04b4d346db1d2ccde2545c0e802c4ce1b50f33e4f85798f51142300c7e7bd1", func := "muniment/munimentlaw13.ClockKeeps", spec := "clockKeeps", unfollowed := true, recurses := true, apart := false }
def ClockKeepsSaid : Prop := clockKeepsRow.holds Try.pinned (OpenSpec.ofChange clockKeepsSpec)

/-- ITS FALSE NEIGHBOUR: 'it returns false'. Refute it at one input. -/
def clockKeepsWrong : ChangeSpec := { name := "clockKeeps", fn := fun _ => fun
  | [d1, d2] => { results := [.lit (.bool false)], args := [d1, d2] }
  | _ => none }
def ClockKeepsWrongFalsely : Prop := clockKeepsRow.holds Try.pinned (OpenSpec.ofChange clockKeepsWrong)

/-- 'munimentlaw13.ClockNil': WHATEVER THE INPUT: true; the input reads as it did. -/
def clockNilSpec : ChangeSpec := { name := "clockNil", fn := fun _ => fun
  | [d] => { results := [.lit (.bool true)], args := [d] }
  | _ => none }
def clockNilRow : OpenClaim := { program := "ytcdcdnochlapgaa", sum := "2c04b4d346db1d2ccde2545c0e802c4ce1b50f33e4f85798f51142300c7e7bd1", func := "muniment/munimentlaw13.ClockNil", spec := "clockNil", unfollowed := true, recurses := true, apart := false }
def ClockNilSaid : Prop := clockNilRow.holds Try.pinned (OpenSpec.ofChange clockNilSpec)

/-- ITS FALSE NEIGHBOUR: 'it returns false'. Refute it at one input. -/
def clockNilWrong : ChangeSpec := { name := "clockNil", fn := fun _ => fun
  | [d] => { results := [.lit (.bool false)], args := [d] }
  | _ => none }
def ClockNilWrongFalsely : Prop := clockNilRow.holds Try.pinned (OpenSpec.ofChange clockNilWrong)

/- THE SECOND FORM. 'bulk': how many values and letters a reading holds, each counted each time it is reached (what is shared counts as often as it is met; a slice's spare places count too). A statement '..UptoSaid' is the law's where the arguments, and the package variables that the reading takes, are together of bulk at most 1048576: NARROWER than '..Said'. Prove '..Said' where nothing that the law and all that it calls make is longer than what came in: it says more and counts as full. Else prove '..UptoSaid'. A law counts once. -/
mutual
def uptoBulk {H : Type} : DataW H → Nat
  | .lit (.string bytes) => bytes.length + 1
  | .lit _ => 1
  | .nil => 1
  | .ptr d => uptoBulk d + 1
  | .slice elems spare => uptoBulkAll elems + uptoBulkAll spare + 1
  | .agg parts => uptoBulkAll parts + 1
  | .iface _ d => uptoBulk d + 1
  | .map entries => uptoBulkEntries entries + 1
  | .held _ => 1
def uptoBulkAll {H : Type} : List (DataW H) → Nat
  | [] => 0
  | d :: r => uptoBulk d + uptoBulkAll r
def uptoBulkEntries {H : Type} : List (Lit × DataW H) → Nat
  | [] => 0
  | x :: r => uptoBulkEntry x + uptoBulkEntries r
def uptoBulkEntry {H : Type} : Lit × DataW H → Nat
  | (.string bytes, d) => bytes.length + uptoBulk d + 1
  | (_, d) => uptoBulk d + 1
 end
def uptoSmall : (H : Type) → List (DataW H) → Bool := fun _ ds => decide (uptoBulkAll ds ≤ 1048576)
def OpenSpec.upto (s : _root_.Go.ChangeSpec) : _root_.Go.OpenSpec := { _root_.Go.OpenSpec.ofChange s with cond := some uptoSmall }

/-- 'munimentlaw13.ClockRises', WHERE WHAT IT READS IS OF BULK AT MOST 1048576: true; the input reads as it did. -/
def clockRisesUptoRow : OpenClaim := { program := "ytcdcdnochlapgaa", sum := "2c04b4d346db1d2ccde2545c0e802c4ce1b50f33e4f85798f51142300c7e7bd1", func := "muniment/munimentlaw13.ClockRises", spec := "clockRises", apart := false, narrowed := true }
def ClockRisesUptoSaid : Prop := clockRisesUptoRow.holds Try.pinned (OpenSpec.upto clockRisesSpec)

/-- 'munimentlaw13.ClockNumbers', WHERE WHAT IT READS IS OF BULK AT MOST 1048576: true; the input reads as it did. -/
def clockNumbersUptoRow : OpenClaim := { program := "ytcdcdnochlapgaa", sum := "2c04b4d346db1d2ccde2545c0e802c4ce1b50f33e4f85798f51142300c7e7bd1", func := "muniment/munimentlaw13.ClockNumbers", spec := "clockNumbers", unfollowed := true, recurses := true, apart := false, narrowed := true }
def ClockNumbersUptoSaid : Prop := clockNumbersUptoRow.holds Try.pinned (OpenSpec.upto clockNumbersSpec)

/-- 'munimentlaw13.ClockPlays', WHERE WHAT IT READS IS OF BULK AT MOST 1048576: true; the input reads as it did. -/
def clockPlaysUptoRow : OpenClaim := { program := "ytcdcdnochlapgaa", sum := "2c04b4d346db1d2ccde2545c0e802c4ce1b50f33e4f85798f51142300c7e7bd1", func := "muniment/munimentlaw13.ClockPlays", spec := "clockPlays", unfollowed := true, recurses := true, apart := false, narrowed := true }
def ClockPlaysUptoSaid : Prop := clockPlaysUptoRow.holds Try.pinned (OpenSpec.upto clockPlaysSpec)

/-- 'munimentlaw13.ClockKeeps', WHERE WHAT IT READS IS OF BULK AT MOST 1048576: true; the input reads as it did. -/
def clockKeepsUptoRow : OpenClaim := { program := "ytcdcdnochlapgaa", sum := "2c04b4d346db1d2ccde2545c0e802c4ce1b50f33e4f85798f51142300c7e7bd1", func := "muniment/munimentlaw13.ClockKeeps", spec := "clockKeeps", unfollowed := true, recurses := true, apart := false, narrowed := true }
def ClockKeepsUptoSaid : Prop := clockKeepsUptoRow.holds Try.pinned (OpenSpec.upto clockKeepsSpec)

/-- 'munimentlaw13.ClockNil', WHERE WHAT IT READS IS OF BULK AT MOST 1048576: true; the input reads as it did. -/
def clockNilUptoRow : OpenClaim := { program := "ytcdcdnochlapgaa", sum := "2c04b4d346db1d2ccde2545c0e802c4ce1b50f33e4f85798f51142300c7e7bd1", func := "muniment/munimentlaw13.ClockNil", spec := "clockNil", unfollowed := true, recurses := true, apart := false, narrowed := true }
def ClockNilUptoSaid : Prop := clockNilUptoRow.holds Try.pinned (OpenSpec.upto clockNilSpec)

end Rows
end Go.Proofs.Ytcdcdnochlapgaa
