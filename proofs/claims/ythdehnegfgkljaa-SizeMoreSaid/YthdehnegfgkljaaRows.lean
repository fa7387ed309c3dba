/-
  No cell of these rows narrows 'for every input' (looked for: loops, veiled, ifaces, maps, wideKeys, modest, calm, conditions, laid).
  DERIVED. THE GIVEN ROWS OF THIS SEAT. 5 by the template 'for every input the law returns true; each argument reads behind the call as it read before'; 0 by the template 'total and deterministic' (their statements: YthdehnegfgkljaaTotals.lean).
  GIVEN WITH THE SEED: the statements are not yours to turn. If you find one false, say at which input.
  Laid BY PROGRAM, IN A SANDBOX (cutbox-rows.mjs): the forced cells as the released guide's own fill.sh prints them over the translation b0a0dddba465a08b… (all of the seat's roots in one cut). By AI agents, Wed Nov 11 2026. No macro, syntax, notation, axiom, sorry.
-/
import Derived.Test.YthdehnegfgkljaaChecked
import GoSem.Claim
import GoSem.ClaimJoined
import GoSem.ClaimMapViews
import Derived.JoinedTies
import Derived.KernelRfl
namespace Go.Proofs.Ythdehnegfgkljaa
/- THE CELL 'sum', in the pinned program and in every row, IS THE sha256 OF THE DUMP (.gsa) THAT YthdehnegfgkljaaProg.lean LOADS. Nothing in Lean hashes anything: it is a label: what it is worth is what the hold of that sum in a sandbox is worth. -/
noncomputable def Try.pinned : Pinned := { name := "ythdehnegfgkljaa", sum := "b0a0dddba465a08b7b3a2e1f68a56746c96e73faf58dd5f8e5853c59b8946556", checked := Try.checked }
namespace Rows
def none {H : Type} : Left H := { results := [], args := [] }

/-- 'sennitlaw11.SizeRuns': WHATEVER THE INPUT: true; the input reads as it did. -/
def sizeRunsSpec : ChangeSpec := { name := "sizeRuns", fn := fun _ => fun
  | [d] => { results := [.lit (.bool true)], args := [d] }
  | _ => none }
def sizeRunsRow : OpenClaim := { program := "ythdehnegfgkljaa", sum := "b0a0dddba465a08b7b3a2e1f68a56746c96e73faf58dd5f8e5853c59b8946556", func := "sennit/sennitlaw11.SizeRuns", spec := "sizeRuns", apart := false }
def SizeRunsSaid : Prop := sizeRunsRow.holds Try.pinned (OpenSpec.ofChange sizeRunsSpec)

/-- ITS FALSE NEIGHBOUR: 'it returns false'. Refute it at one input. -/
def sizeRunsWrong : ChangeSpec := { name := "sizeRuns", fn := fun _ => fun
  | [d] => { results := [.lit (.bool false)], args := [d] }
  | _ => none }
def SizeRunsWrongFalsely : Prop := sizeRunsRow.holds Try.pinned (OpenSpec.ofChange sizeRunsWrong)

/-- 'sennitlaw11.SizeTells': WHATEVER THE INPUT: true; the input reads as it did. -/
def sizeTellsSpec : ChangeSpec := { name := "sizeTells", fn := fun _ => fun
  | [d1, d2] => { results := [.lit (.bool true)], args := [d1, d2] }
  | _ => none }
def sizeTellsRow : OpenClaim := { program := "ythdehnegfgkljaa", sum := "b0a0dddba465a08b7b3a2e1f68a56746c96e73faf58dd5f8e5853c59b8946556", func := "sennit/sennitlaw11.SizeTells", spec := "sizeTells", apart := false }
def SizeTellsSaid : Prop := sizeTellsRow.holds Try.pinned (OpenSpec.ofChange sizeTellsSpec)

/-- ITS FALSE NEIGHBOUR: 'it returns false'. Refute it at one input. -/
def sizeTellsWrong : ChangeSpec := { name := "sizeTells", fn := fun _ => fun
  | [d1, d2] => { results := [.lit (.bool false)], args := [d1, d2] }
  | _ => none }
def SizeTellsWrongFalsely : Prop := sizeTellsRow.holds Try.pinned (OpenSpec.ofChange sizeTellsWrong)

/-- 'sennitlaw11.SizeFits': WHATEVER THE INPUT: true; the input reads as it did. -/
def sizeFitsSpec : ChangeSpec := { name := "sizeFits", fn := fun _ => fun
  | [d1, d2] => { results := [.lit (.bool true)], args := [d1, d2] }
  | _ => none }
def sizeFitsRow : OpenClaim := { program := "ythdehnegfgkljaa", sum := "b0a0dddba465a08b7b3a2e1f68a56746c96e73faf58dd5f8e5853c59b8946556", func := "sennit/sennitlaw11.SizeFits", spec := "sizeFits", apart := false }
def SizeFitsSaid : Prop := sizeFitsRow.holds Try.pinned (OpenSpec.ofChange sizeFitsSpec)

/-- ITS FALSE NEIGHBOUR: 'it returns false'. Refute it at one input. -/
def sizeFitsWrong : ChangeSpec := { name := "sizeFits", fn := fun _ => fun
  | [d1, d2] => { results := [.lit (.bool false)], args := [d1, d2] }
  | _ => none }
def SizeFitsWrongFalsely : Prop := sizeFitsRow.holds Try.pinned (OpenSpec.ofChange sizeFitsWrong)

/-- 'sennitlaw11.SizeMarks': WHATEVER THE INPUT: true; the input reads as it did. -/
def sizeMarksSpec : ChangeSpec := { name := "sizeMarks", fn := fun _ => fun
  | [d1, d2, d3] => { results := [.lit (.bool true)], args := [d1, d2, d3] }
  | _ => none }
def sizeMarksRow : OpenClaim := { program := "ythdehnegfgkljaa", sum := "b0a0dddba465a08b7b3a2e1f68a56746c96e73faf58dd5f8e5853c59b8946556", func := "sennit/sennitlaw11.SizeMarks", spec := "sizeMarks", apart := false }
def SizeMarksSaid : Prop := sizeMarksRow.holds Try.pinned (OpenSpec.ofChange sizeMarksSpec)

/-- ITS FALSE NEIGHBOUR: 'it returns false'. Refute it at one input. -/
def sizeMarksWrong : ChangeSpec := { name := "sizeMarks", fn := fun _ => fun
  | [d1, d2, d3] => { results := [.lit (.bool false)], args := [d1, d2, d3] }
  | _ => none }
def SizeMarksWrongFalsely : Prop := sizeMarksRow.holds Try.pinned (OpenSpec.ofChange sizeMarksWrong)

/-- 'sennitlaw11.SizeMore': WHATEVER THE INPUT: true; the input reads as it did. -/
def sizeMoreSpec : ChangeSpec := { name := "sizeMore", fn := fun _ => fun
  | [d1, d2] => { results := [.lit (.bool true)], args := [d1, d2] }
  | _ => none }
def sizeMoreRow : OpenClaim := { program := "ythdehnegfgkljaa", sum := "b0a0dddba465a08b7b3a2e1f68a56746c96e73faf58dd5f8e5853c59b8946556", func := "sennit/sennitlaw11.SizeMore", spec := "sizeMore", apart := false }
def SizeMoreSaid : Prop := sizeMoreRow.holds Try.pinned (OpenSpec.ofChange sizeMoreSpec)

/-- ITS FALSE NEIGHBOUR: 'it returns false'. Refute it at one input. -/
def sizeMoreWrong : ChangeSpec := { name := "sizeMore", fn := fun _ => fun
  | [d1, d2] => { results := [.lit (.bool false)], args := [d1, d2] }
  | _ => none }
def SizeMoreWrongFalsely : Prop := sizeMoreRow.holds Try.pinned (OpenSpec.ofChange sizeMoreWrong)

/- THE SECOND FORM. 'bulk': how many values and letters a reading holds, each counted each time it is reached (what is shared counts as often as it is met; a slice's spare places count too). A statement '..UptoSaid' is the law's where the arguments, and the package variables that the reading takes, are together of bulk at most 1048576: NARROWER than '..Said'. Prove '..Said' where nothing that the law and all that it calls make is longer than what came in: it says more and counts as full. Else prove '..UptoSaid'. A law counts once. -/
mutual
def uptoBulk {H : Type} : DataW H → Nat
  | .lit (.string bytes) => bytes.length + 1
  | .lit _ => 1
  | .nil => 1
  | .ptr d => uptoBulk d + 1
  | .slice elems spare => uptoBulkAll elems + uptoBulkAll spare + 1
  | .agg parts => uptoBulkAll parts + 1
  | .iface _ d => uptoBulk d + 1
  | .map entries => uptoBulkEntries entries + 1
  | .held _ => 1
def uptoBulkAll {H : Type} : List (DataW H) → Nat
  | [] => 0
  | d :: r => uptoBulk d + uptoBulkAll r
def uptoBulkEntries {H : Type} : List (Lit × DataW H) → Nat
  | [] => 0
  | x :: r => uptoBulkEntry x + uptoBulkEntries r
def uptoBulkEntry {H : Type} : Lit × DataW H → Nat
  | (.string bytes, d) => bytes.length + uptoBulk d + 1
  | (_, d) => uptoBulk d + 1
 end
def uptoSmall : (H : Type) → List (DataW H) → Bool := fun _ ds => decide (uptoBulkAll ds ≤ 1048576)
def OpenSpec.upto (s : _root_.Go.ChangeSpec) : _root_.Go.OpenSpec := { _root_.Go.OpenSpec.ofChange s with cond := some uptoSmall }

/-- 'sennitlaw11.SizeRuns', WHERE WHAT IT READS IS OF BULK AT MOST 1048576: true; the input reads as it did. -/
def sizeRunsUptoRow : OpenClaim := { program := "ythdehnegfgkljaa", sum := "b0a0dddba465a08b7b3a2e1f68a56746c96e73faf58dd5f8e5853c59b8946556", func := "sennit/sennitlaw11.SizeRuns", spec := "sizeRuns", apart := false, narrowed := true }
def SizeRunsUptoSaid : Prop := sizeRunsUptoRow.holds Try.pinned (OpenSpec.upto sizeRunsSpec)

/-- 'sennitlaw11.SizeTells', WHERE WHAT IT READS IS OF BULK AT MOST 1048576: true; the input reads as it did. -/
def sizeTellsUptoRow : OpenClaim := { program := "ythdehnegfgkljaa", sum := "b0a0dddba465a08b7b3a2e1f68a56746c96e73faf58dd5f8e5853c59b8946556", func := "sennit/sennitlaw11.SizeTells", spec := "sizeTells", apart := false, narrowed := true }
def SizeTellsUptoSaid : Prop := sizeTellsUptoRow.holds Try.pinned (OpenSpec.upto sizeTellsSpec)

/-- 'sennitlaw11.SizeFits', WHERE WHAT IT READS IS OF BULK AT MOST 1048576: true; the input reads as it did. -/
def sizeFitsUptoRow : OpenClaim := { program := "ythdehnegfgkljaa", sum := "b0a0dddba465a08b7b3a2e1f68a56746c96e73faf58dd5f8e5853c59b8946556", func := "sennit/sennitlaw11.SizeFits", spec := "sizeFits", apart := false, narrowed := true }
def SizeFitsUptoSaid : Prop := sizeFitsUptoRow.holds Try.pinned (OpenSpec.upto sizeFitsSpec)

/-- 'sennitlaw11.SizeMarks', WHERE WHAT IT READS IS OF BULK AT MOST 1048576: true; the input reads as it did. -/
def sizeMarksUptoRow : OpenClaim := { program := "ythdehnegfgkljaa", sum := "b0a0dddba465a08b7b3a2e1f68a56746c96e73faf58dd5f8e5853c59b8946556", func := "sennit/sennitlaw11.SizeMarks", spec := "sizeMarks", apart := false, narrowed := true }
def SizeMarksUptoSaid : Prop := sizeMarksUptoRow.holds Try.pinned (OpenSpec.upto sizeMarksSpec)

/-- 'sennitlaw11.SizeMore', WHERE WHAT IT READS IS OF BULK AT MOST 1048576: true; the input reads as it did. -/
def sizeMoreUptoRow : OpenClaim := { program := "ythdehnegfgkljaa", sum := "b0a0dddba465a08b7b3a2e1f68a56746c96e73faf58dd5f8e5853c59b8946556", func := "sennit/sennitlaw11.SizeMore", spec := "sizeMore", apart := false, narrowed := true }
def SizeMoreUptoSaid : Prop := sizeMoreUptoRow.holds Try.pinned (OpenSpec.upto sizeMoreSpec)

end Rows
end Go.Proofs.Ythdehnegfgkljaa
