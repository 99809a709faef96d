/-
  No cell of these rows narrows 'for every input' (looked for: loops, veiled, ifaces, maps, wideKeys, modest, calm, conditions, laid).
  DERIVED. THE GIVEN ROWS OF THIS SEAT. 6 by the template 'for every input the law returns true; each argument reads behind the call as it read before'; 0 by the template 'total and deterministic' (their statements: YtiechceeiidelaaTotals.lean).
  GIVEN WITH THE SEED: the statements are not yours to turn. If you find one false, say at which input.
  Laid BY PROGRAM, IN A SANDBOX (cutbox-rows.mjs): the forced cells as the released guide's own fill.sh prints them over the translation 129707b760fba844… (all of the seat's roots in one cut). By AI agents, Wed Nov 11 2026. No macro, syntax, notation, axiom, sorry.
-/
import Derived.Test.YtiechceeiidelaaChecked
import GoSem.Claim
import GoSem.ClaimJoined
import GoSem.ClaimMapViews
import Derived.JoinedTies
import Derived.KernelRfl
namespace Go.Proofs.Ytiechceeiidelaa
/- THE CELL 'sum', in the pinned program and in every row, IS THE sha256 OF THE DUMP (.gsa) THAT YtiechceeiidelaaProg.lean LOADS. Nothing in Lean hashes anything: it is a label: what it is worth is what the hold of that sum in a sandbox is worth. -/
noncomputable def Try.pinned : Pinned := { name := "ytiechceeiidelaa", sum := "129707b760fba8441c44a68c82ef267360e43e845580cf7b8c567215c5a847a3", checked := Try.checked }
namespace Rows
def none {H : Type} : Left H := { results := [], args := [] }

/-- 'tattlerlaw1.TallyParts': WHATEVER THE INPUT: true; the input reads as it did. -/
def tallyPartsSpec : ChangeSpec := { name := "tallyParts", fn := fun _ => fun
  | [d1, d2, d3] => { results := [.lit (.bool true)], args := [d1, d2, d3] }
  | _ => none }
def tallyPartsRow : OpenClaim := { program := "ytiechceeiidelaa", sum := "129707b760fba8441c44a68c82ef267360e43e845580cf7b8c567215c5a847a3", func := "tattler/tattlerlaw1.TallyParts", spec := "tallyParts", inPlace := ["sync/atomic.LoadInt64", "sync/atomic.CompareAndSwapInt64", "sync/atomic.SwapInt64"], unfollowed := true, recurses := true, apart := false }
def TallyPartsSaid : Prop := tallyPartsRow.holds Try.pinned (OpenSpec.ofChange tallyPartsSpec)

/-- ITS FALSE NEIGHBOUR: 'it returns false'. Refute it at one input. -/
def tallyPartsWrong : ChangeSpec := { name := "tallyParts", fn := fun _ => fun
  | [d1, d2, d3] => { results := [.lit (.bool false)], args := [d1, d2, d3] }
  | _ => none }
def TallyPartsWrongFalsely : Prop := tallyPartsRow.holds Try.pinned (OpenSpec.ofChange tallyPartsWrong)

/-- 'tattlerlaw1.TallyRaises': WHATEVER THE INPUT: true; the input reads as it did. -/
def tallyRaisesSpec : ChangeSpec := { name := "tallyRaises", fn := fun _ => fun
  | [d1, d2] => { results := [.lit (.bool true)], args := [d1, d2] }
  | _ => none }
def tallyRaisesRow : OpenClaim := { program := "ytiechceeiidelaa", sum := "129707b760fba8441c44a68c82ef267360e43e845580cf7b8c567215c5a847a3", func := "tattler/tattlerlaw1.TallyRaises", spec := "tallyRaises", inPlace := ["sync/atomic.LoadInt64", "sync/atomic.CompareAndSwapInt64", "sync/atomic.SwapInt64"], unfollowed := true, recurses := true, apart := false }
def TallyRaisesSaid : Prop := tallyRaisesRow.holds Try.pinned (OpenSpec.ofChange tallyRaisesSpec)

/-- ITS FALSE NEIGHBOUR: 'it returns false'. Refute it at one input. -/
def tallyRaisesWrong : ChangeSpec := { name := "tallyRaises", fn := fun _ => fun
  | [d1, d2] => { results := [.lit (.bool false)], args := [d1, d2] }
  | _ => none }
def TallyRaisesWrongFalsely : Prop := tallyRaisesRow.holds Try.pinned (OpenSpec.ofChange tallyRaisesWrong)

/-- 'tattlerlaw1.TallyDrains': WHATEVER THE INPUT: true; the input reads as it did. -/
def tallyDrainsSpec : ChangeSpec := { name := "tallyDrains", fn := fun _ => fun
  | [d1, d2] => { results := [.lit (.bool true)], args := [d1, d2] }
  | _ => none }
def tallyDrainsRow : OpenClaim := { program := "ytiechceeiidelaa", sum := "129707b760fba8441c44a68c82ef267360e43e845580cf7b8c567215c5a847a3", func := "tattler/tattlerlaw1.TallyDrains", spec := "tallyDrains", inPlace := ["sync/atomic.LoadInt64", "sync/atomic.CompareAndSwapInt64", "sync/atomic.SwapInt64"], unfollowed := true, recurses := true, apart := false }
def TallyDrainsSaid : Prop := tallyDrainsRow.holds Try.pinned (OpenSpec.ofChange tallyDrainsSpec)

/-- ITS FALSE NEIGHBOUR: 'it returns false'. Refute it at one input. -/
def tallyDrainsWrong : ChangeSpec := { name := "tallyDrains", fn := fun _ => fun
  | [d1, d2] => { results := [.lit (.bool false)], args := [d1, d2] }
  | _ => none }
def TallyDrainsWrongFalsely : Prop := tallyDrainsRow.holds Try.pinned (OpenSpec.ofChange tallyDrainsWrong)

/-- 'tattlerlaw1.TallyRefuses': WHATEVER THE INPUT: true; the input reads as it did. -/
def tallyRefusesSpec : ChangeSpec := { name := "tallyRefuses", fn := fun _ => fun
  | [d1, d2, d3] => { results := [.lit (.bool true)], args := [d1, d2, d3] }
  | _ => none }
def tallyRefusesRow : OpenClaim := { program := "ytiechceeiidelaa", sum := "129707b760fba8441c44a68c82ef267360e43e845580cf7b8c567215c5a847a3", func := "tattler/tattlerlaw1.TallyRefuses", spec := "tallyRefuses", inPlace := ["sync/atomic.LoadInt64", "sync/atomic.CompareAndSwapInt64", "sync/atomic.SwapInt64"], unfollowed := true, recurses := true, apart := false }
def TallyRefusesSaid : Prop := tallyRefusesRow.holds Try.pinned (OpenSpec.ofChange tallyRefusesSpec)

/-- ITS FALSE NEIGHBOUR: 'it returns false'. Refute it at one input. -/
def tallyRefusesWrong : ChangeSpec := { name := "tallyRefuses", fn := fun _ => fun
  | [d1, d2, d3] => { results := [.lit (.bool false)], args := [d1, d2, d3] }
  | _ => none }
def TallyRefusesWrongFalsely : Prop := tallyRefusesRow.holds Try.pinned (OpenSpec.ofChange tallyRefusesWrong)

/-- 'tattlerlaw1.TallyPlays': WHATEVER THE INPUT: true; the input reads as it did. -/
def tallyPlaysSpec : ChangeSpec := { name := "tallyPlays", fn := fun _ => fun
  | [d1, d2] => { results := [.lit (.bool true)], args := [d1, d2] }
  | _ => none }
def tallyPlaysRow : OpenClaim := { program := "ytiechceeiidelaa", sum := "129707b760fba8441c44a68c82ef267360e43e845580cf7b8c567215c5a847a3", func := "tattler/tattlerlaw1.TallyPlays", spec := "tallyPlays", inPlace := ["sync/atomic.LoadInt64", "sync/atomic.CompareAndSwapInt64", "sync/atomic.SwapInt64"], unfollowed := true, recurses := true, apart := false }
def TallyPlaysSaid : Prop := tallyPlaysRow.holds Try.pinned (OpenSpec.ofChange tallyPlaysSpec)

/-- ITS FALSE NEIGHBOUR: 'it returns false'. Refute it at one input. -/
def tallyPlaysWrong : ChangeSpec := { name := "tallyPlays", fn := fun _ => fun
  | [d1, d2] => { results := [.lit (.bool false)], args := [d1, d2] }
  | _ => none }
def TallyPlaysWrongFalsely : Prop := tallyPlaysRow.holds Try.pinned (OpenSpec.ofChange tallyPlaysWrong)

/-- 'tattlerlaw1.TallyNil': WHATEVER THE INPUT: true; the input reads as it did. -/
def tallyNilSpec : ChangeSpec := { name := "tallyNil", fn := fun _ => fun
  | [d] => { results := [.lit (.bool true)], args := [d] }
  | _ => none }
def tallyNilRow : OpenClaim := { program := "ytiechceeiidelaa", sum := "129707b760fba8441c44a68c82ef267360e43e845580cf7b8c567215c5a847a3", func := "tattler/tattlerlaw1.TallyNil", spec := "tallyNil", inPlace := ["sync/atomic.LoadInt64", "sync/atomic.CompareAndSwapInt64", "sync/atomic.SwapInt64"], unfollowed := true, recurses := true, apart := false }
def TallyNilSaid : Prop := tallyNilRow.holds Try.pinned (OpenSpec.ofChange tallyNilSpec)

/-- ITS FALSE NEIGHBOUR: 'it returns false'. Refute it at one input. -/
def tallyNilWrong : ChangeSpec := { name := "tallyNil", fn := fun _ => fun
  | [d] => { results := [.lit (.bool false)], args := [d] }
  | _ => none }
def TallyNilWrongFalsely : Prop := tallyNilRow.holds Try.pinned (OpenSpec.ofChange tallyNilWrong)

/- THE SECOND FORM. 'bulk': how many values and letters a reading holds, each counted each time it is reached (what is shared counts as often as it is met; a slice's spare places count too). A statement '..UptoSaid' is the law's where the arguments, and the package variables that the reading takes, are together of bulk at most 1048576: NARROWER than '..Said'. Prove '..Said' where nothing that the law and all that it calls make is longer than what came in: it says more and counts as full. Else prove '..UptoSaid'. A law counts once. -/
mutual
def uptoBulk {H : Type} : DataW H → Nat
  | .lit (.string bytes) => bytes.length + 1
  | .lit _ => 1
  | .nil => 1
  | .ptr d => uptoBulk d + 1
  | .slice elems spare => uptoBulkAll elems + uptoBulkAll spare + 1
  | .agg parts => uptoBulkAll parts + 1
  | .iface _ d => uptoBulk d + 1
  | .map entries => uptoBulkEntries entries + 1
  | .held _ => 1
def uptoBulkAll {H : Type} : List (DataW H) → Nat
  | [] => 0
  | d :: r => uptoBulk d + uptoBulkAll r
def uptoBulkEntries {H : Type} : List (Lit × DataW H) → Nat
  | [] => 0
  | x :: r => uptoBulkEntry x + uptoBulkEntries r
def uptoBulkEntry {H : Type} : Lit × DataW H → Nat
  | (.string bytes, d) => bytes.length + uptoBulk d + 1
  | (_, d) => uptoBulk d + 1
 end
def uptoSmall : (H : Type) → List (DataW H) → Bool := fun _ ds => decide (uptoBulkAll ds ≤ 1048576)
def OpenSpec.upto (s : _root_.Go.ChangeSpec) : _root_.Go.OpenSpec := { _root_.Go.OpenSpec.ofChange s with cond := some uptoSmall }

/-- 'tattlerlaw1.TallyParts', WHERE WHAT IT READS IS OF BULK AT MOST 1048576: true; the input reads as it did. -/
def tallyPartsUptoRow : OpenClaim := { program := "ytiechceeiidelaa", sum := "129707b760fba8441c44a68c82ef267360e43e845580cf7b8c567215c5a847a3", func := "tattler/tattlerlaw1.TallyParts", spec := "tallyParts", inPlace := ["sync/atomic.LoadInt64", "sync/atomic.CompareAndSwapInt64", "sync/atomic.SwapInt64"], unfollowed := true, recurses := true, apart := false, narrowed := true }
def TallyPartsUptoSaid : Prop := tallyPartsUptoRow.holds Try.pinned (OpenSpec.upto tallyPartsSpec)

/-- 'tattlerlaw1.TallyRaises', WHERE WHAT IT READS IS OF BULK AT MOST 1048576: true; the input reads as it did. -/
def tallyRaisesUptoRow : OpenClaim := { program := "ytiechceeiidelaa", sum := "129707b760fba8441c44a68c82ef267360e43e845580cf7b8c567215c5a847a3", func := "tattler/tattlerlaw1.TallyRaises", spec := "tallyRaises", inPlace := ["sync/atomic.LoadInt64", "sync/atomic.CompareAndSwapInt64", "sync/atomic.SwapInt64"], unfollowed := true, recurses := true, apart := false, narrowed := true }
def TallyRaisesUptoSaid : Prop := tallyRaisesUptoRow.holds Try.pinned (OpenSpec.upto tallyRaisesSpec)

/-- 'tattlerlaw1.TallyDrains', WHERE WHAT IT READS IS OF BULK AT MOST 1048576: true; the input reads as it did. -/
def tallyDrainsUptoRow : OpenClaim := { program := "ytiechceeiidelaa", sum := "129707b760fba8441c44a68c82ef267360e43e845580cf7b8c567215c5a847a3", func := "tattler/tattlerlaw1.TallyDrains", spec := "tallyDrains", inPlace := ["sync/atomic.LoadInt64", "sync/atomic.CompareAndSwapInt64", "sync/atomic.SwapInt64"], unfollowed := true, recurses := true, apart := false, narrowed := true }
def TallyDrainsUptoSaid : Prop := tallyDrainsUptoRow.holds Try.pinned (OpenSpec.upto tallyDrainsSpec)

/-- 'tattlerlaw1.TallyRefuses', WHERE WHAT IT READS IS OF BULK AT MOST 1048576: true; the input reads as it did. -/
def tallyRefusesUptoRow : OpenClaim := { program := "ytiechceeiidelaa", sum := "129707b760fba8441c44a68c82ef267360e43e845580cf7b8c567215c5a847a3", func := "tattler/tattlerlaw1.TallyRefuses", spec := "tallyRefuses", inPlace := ["sync/atomic.LoadInt64", "sync/atomic.CompareAndSwapInt64", "sync/atomic.SwapInt64"], unfollowed := true, recurses := true, apart := false, narrowed := true }
def TallyRefusesUptoSaid : Prop := tallyRefusesUptoRow.holds Try.pinned (OpenSpec.upto tallyRefusesSpec)

/-- 'tattlerlaw1.TallyPlays', WHERE WHAT IT READS IS OF BULK AT MOST 1048576: true; the input reads as it did. -/
def tallyPlaysUptoRow : OpenClaim := { program := "ytiechceeiidelaa", sum := "129707b760fba8441c44a68c82ef267360e43e845580cf7b8c567215c5a847a3", func := "tattler/tattlerlaw1.TallyPlays", spec := "tallyPlays", inPlace := ["sync/atomic.LoadInt64", "sync/atomic.CompareAndSwapInt64", "sync/atomic.SwapInt64"], unfollowed := true, recurses := true, apart := false, narrowed := true }
def TallyPlaysUptoSaid : Prop := tallyPlaysUptoRow.holds Try.pinned (OpenSpec.upto tallyPlaysSpec)

/-- 'tattlerlaw1.TallyNil', WHERE WHAT IT READS IS OF BULK AT MOST 1048576: true; the input reads as it did. -/
def tallyNilUptoRow : OpenClaim := { program := "ytiechceeiidelaa", sum := "129707b760fba8441c44a68c82ef267360e43e845580cf7b8c567215c5a847a3", func := "tattler/tattlerlaw1.TallyNil", spec := "tallyNil", inPlace := ["sync/atomic.LoadInt64", "sync/atomic.CompareAndSwapInt64", "sync/atomic.SwapInt64"], unfollowed := true, recurses := true, apart := false, narrowed := true }
def TallyNilUptoSaid : Prop := tallyNilUptoRow.holds Try.pinned (OpenSpec.upto tallyNilSpec)

end Rows
end Go.Proofs.Ytiechceeiidelaa
