/-
  No cell of these rows narrows 'for every input' (looked for: loops, veiled, ifaces, maps, wideKeys, modest, calm, conditions, laid).
  DERIVED. THE GIVEN ROWS OF THIS SEAT. 4 by the template 'for every input the law returns true; each argument reads behind the call as it read before'; 0 by the template 'total and deterministic' (their statements: YtmhbpnhkmnnapaaTotals.lean).
  GIVEN WITH THE SEED: the statements are not yours to turn. If you find one false, say at which input.
  Laid BY PROGRAM, IN A SANDBOX (cutbox-rows.mjs): the forced cells as the released guide's own fill.sh prints them over the translation de19a18cdbfefce3… (all of the seat's roots in one cut). By AI agents, Wed Nov 11 2026. No macro, syntax, notation, axiom, sorry.
-/
import Derived.Test.YtmhbpnhkmnnapaaChecked
import GoSem.Claim
import GoSem.ClaimJoined
import GoSem.ClaimMapViews
import Derived.JoinedTies
import Derived.KernelRfl
namespace Go.Proofs.Ytmhbpnhkmnnapaa
/- THE CELL 'sum', in the pinned program and in every row, IS THE sha256 OF THE DUMP (.gsa) THAT YtmhbpnhkmnnapaaProg.lean LOADS. Nothing in Lean hashes anything: it is a label: what it is worth is what the hold of that sum in a sandbox is worth. -/
noncomputable def Try.pinned : Pinned := { name := "ytmhbpnhkmnnapaa", sum := "de19a18cdbfefce326b4aecaad611b165e3a9b11c0bd07ef4ae9df458c273da5", checked := Try.checked }
namespace Rows
def none {H : Type} : Left H := { results := [], args := [] }

/-- 'tattlerlaw19.PlanAll': WHATEVER THE INPUT: true; the input reads as it did. -/
def planAllSpec : ChangeSpec := { name := "planAll", fn := fun _ => fun
  | [d1, d2, d3] => { results := [.lit (.bool true)], args := [d1, d2, d3] }
  | _ => none }
def planAllRow : OpenClaim := { program := "ytmhbpnhkmnnapaa", sum := "de19a18cdbfefce326b4aecaad611b165e3a9b11c0bd07ef4ae9df458c273da5", func := "tattler/tattlerlaw19.PlanAll", spec := "planAll", apart := false }
def PlanAllSaid : Prop := planAllRow.holds Try.pinned (OpenSpec.ofChange planAllSpec)

/-- ITS FALSE NEIGHBOUR: 'it returns false'. Refute it at one input. -/
def planAllWrong : ChangeSpec := { name := "planAll", fn := fun _ => fun
  | [d1, d2, d3] => { results := [.lit (.bool false)], args := [d1, d2, d3] }
  | _ => none }
def PlanAllWrongFalsely : Prop := planAllRow.holds Try.pinned (OpenSpec.ofChange planAllWrong)

/-- 'tattlerlaw19.PlanTurns': WHATEVER THE INPUT: true; the input reads as it did. -/
def planTurnsSpec : ChangeSpec := { name := "planTurns", fn := fun _ => fun
  | [d1, d2, d3] => { results := [.lit (.bool true)], args := [d1, d2, d3] }
  | _ => none }
def planTurnsRow : OpenClaim := { program := "ytmhbpnhkmnnapaa", sum := "de19a18cdbfefce326b4aecaad611b165e3a9b11c0bd07ef4ae9df458c273da5", func := "tattler/tattlerlaw19.PlanTurns", spec := "planTurns", apart := false }
def PlanTurnsSaid : Prop := planTurnsRow.holds Try.pinned (OpenSpec.ofChange planTurnsSpec)

/-- ITS FALSE NEIGHBOUR: 'it returns false'. Refute it at one input. -/
def planTurnsWrong : ChangeSpec := { name := "planTurns", fn := fun _ => fun
  | [d1, d2, d3] => { results := [.lit (.bool false)], args := [d1, d2, d3] }
  | _ => none }
def PlanTurnsWrongFalsely : Prop := planTurnsRow.holds Try.pinned (OpenSpec.ofChange planTurnsWrong)

/-- 'tattlerlaw19.PlanTells': WHATEVER THE INPUT: true; the input reads as it did. -/
def planTellsSpec : ChangeSpec := { name := "planTells", fn := fun _ => fun
  | [d1, d2, d3, d4] => { results := [.lit (.bool true)], args := [d1, d2, d3, d4] }
  | _ => none }
def planTellsRow : OpenClaim := { program := "ytmhbpnhkmnnapaa", sum := "de19a18cdbfefce326b4aecaad611b165e3a9b11c0bd07ef4ae9df458c273da5", func := "tattler/tattlerlaw19.PlanTells", spec := "planTells", apart := false }
def PlanTellsSaid : Prop := planTellsRow.holds Try.pinned (OpenSpec.ofChange planTellsSpec)

/-- ITS FALSE NEIGHBOUR: 'it returns false'. Refute it at one input. -/
def planTellsWrong : ChangeSpec := { name := "planTells", fn := fun _ => fun
  | [d1, d2, d3, d4] => { results := [.lit (.bool false)], args := [d1, d2, d3, d4] }
  | _ => none }
def PlanTellsWrongFalsely : Prop := planTellsRow.holds Try.pinned (OpenSpec.ofChange planTellsWrong)

/-- 'tattlerlaw19.PlanFair': WHATEVER THE INPUT: true; the input reads as it did. -/
def planFairSpec : ChangeSpec := { name := "planFair", fn := fun _ => fun
  | [d1, d2] => { results := [.lit (.bool true)], args := [d1, d2] }
  | _ => none }
def planFairRow : OpenClaim := { program := "ytmhbpnhkmnnapaa", sum := "de19a18cdbfefce326b4aecaad611b165e3a9b11c0bd07ef4ae9df458c273da5", func := "tattler/tattlerlaw19.PlanFair", spec := "planFair", apart := false }
def PlanFairSaid : Prop := planFairRow.holds Try.pinned (OpenSpec.ofChange planFairSpec)

/-- ITS FALSE NEIGHBOUR: 'it returns false'. Refute it at one input. -/
def planFairWrong : ChangeSpec := { name := "planFair", fn := fun _ => fun
  | [d1, d2] => { results := [.lit (.bool false)], args := [d1, d2] }
  | _ => none }
def PlanFairWrongFalsely : Prop := planFairRow.holds Try.pinned (OpenSpec.ofChange planFairWrong)

/- THE SECOND FORM. 'bulk': how many values and letters a reading holds, each counted each time it is reached (what is shared counts as often as it is met; a slice's spare places count too). A statement '..UptoSaid' is the law's where the arguments, and the package variables that the reading takes, are together of bulk at most 1048576: NARROWER than '..Said'. Prove '..Said' where nothing that the law and all that it calls make is longer than what came in: it says more and counts as full. Else prove '..UptoSaid'. A law counts once. -/
mutual
def uptoBulk {H : Type} : DataW H → Nat
  | .lit (.string bytes) => bytes.length + 1
  | .lit _ => 1
  | .nil => 1
  | .ptr d => uptoBulk d + 1
  | .slice elems spare => uptoBulkAll elems + uptoBulkAll spare + 1
  | .agg parts => uptoBulkAll parts + 1
  | .iface _ d => uptoBulk d + 1
  | .map entries => uptoBulkEntries entries + 1
  | .held _ => 1
def uptoBulkAll {H : Type} : List (DataW H) → Nat
  | [] => 0
  | d :: r => uptoBulk d + uptoBulkAll r
def uptoBulkEntries {H : Type} : List (Lit × DataW H) → Nat
  | [] => 0
  | x :: r => uptoBulkEntry x + uptoBulkEntries r
def uptoBulkEntry {H : Type} : Lit × DataW H → Nat
  | (.string bytes, d) => bytes.length + uptoBulk d + 1
  | (_, d) => uptoBulk d + 1
 end
def uptoSmall : (H : Type) → List (DataW H) → Bool := fun _ ds => decide (uptoBulkAll ds ≤ 1048576)
def OpenSpec.upto (s : _root_.Go.ChangeSpec) : _root_.Go.OpenSpec := { _root_.Go.OpenSpec.ofChange s with cond := some uptoSmall }

/-- 'tattlerlaw19.PlanAll', WHERE WHAT IT READS IS OF BULK AT MOST 1048576: true; the input reads as it did. -/
def planAllUptoRow : OpenClaim := { program := "ytmhbpnhkmnnapaa", sum := "de19a18cdbfefce326b4aecaad611b165e3a9b11c0bd07ef4ae9df458c273da5", func := "tattler/tattlerlaw19.PlanAll", spec := "planAll", apart := false, narrowed := true }
def PlanAllUptoSaid : Prop := planAllUptoRow.holds Try.pinned (OpenSpec.upto planAllSpec)

/-- 'tattlerlaw19.PlanTurns', WHERE WHAT IT READS IS OF BULK AT MOST 1048576: true; the input reads as it did. -/
def planTurnsUptoRow : OpenClaim := { program := "ytmhbpnhkmnnapaa", sum := "de19a18cdbfefce326b4aecaad611b165e3a9b11c0bd07ef4ae9df458c273da5", func := "tattler/tattlerlaw19.PlanTurns", spec := "planTurns", apart := false, narrowed := true }
def PlanTurnsUptoSaid : Prop := planTurnsUptoRow.holds Try.pinned (OpenSpec.upto planTurnsSpec)

/-- 'tattlerlaw19.PlanTells', WHERE WHAT IT READS IS OF BULK AT MOST 1048576: true; the input reads as it did. -/
def planTellsUptoRow : OpenClaim := { program := "ytmhbpnhkmnnapaa", sum := "de19a18cdbfefce326b4aecaad611b165e3a9b11c0bd07ef4ae9df458c273da5", func := "tattler/tattlerlaw19.PlanTells", spec := "planTells", apart := false, narrowed := true }
def PlanTellsUptoSaid : Prop := planTellsUptoRow.holds Try.pinned (OpenSpec.upto planTellsSpec)

/-- 'tattlerlaw19.PlanFair', WHERE WHAT IT READS IS OF BULK AT MOST 1048576: true; the input reads as it did. -/
def planFairUptoRow : OpenClaim := { program := "ytmhbpnhkmnnapaa", sum := "de19a18cdbfefce326b4aecaad611b165e3a9b11c0bd07ef4ae9df458c273da5", func := "tattler/tattlerlaw19.PlanFair", spec := "planFair", apart := false, narrowed := true }
def PlanFairUptoSaid : Prop := planFairUptoRow.holds Try.pinned (OpenSpec.upto planFairSpec)

end Rows
end Go.Proofs.Ytmhbpnhkmnnapaa
