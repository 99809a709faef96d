/-
  No cell of these rows narrows 'for every input' (looked for: loops, veiled, ifaces, maps, wideKeys, modest, calm, conditions, laid).
  DERIVED. THE GIVEN ROWS OF THIS SEAT. 5 by the template 'for every input the law returns true; each argument reads behind the call as it read before'; 0 by the template 'total and deterministic' (their statements: YtkbjfnmejhjodaaTotals.lean).
  GIVEN WITH THE SEED: the statements are not yours to turn. If you find one false, say at which input.
  Laid BY PROGRAM, IN A SANDBOX (cutbox-rows.mjs): the forced cells as the released guide's own fill.sh prints them over the translation 7bb27aeb23521fcd… (all of the seat's roots in one cut). By AI agents, Wed Nov 11 2026. No macro, syntax, notation, axiom, sorry.
-/
import Derived.Test.YtkbjfnmejhjodaaChecked
import GoSem.Claim
import GoSem.ClaimJoined
import GoSem.ClaimMapViews
import Derived.JoinedTies
import Derived.KernelRfl
namespace Go.Proofs.Ytkbjfnmejhjodaa
/- THE CELL 'sum', in the pinned program and in every row, IS THE sha256 OF THE DUMP (.gsa) THAT YtkbjfnmejhjodaaProg.lean LOADS. Nothing in Lean hashes anything: it is a label: what it is worth is what the hold of that sum in a sandbox is worth. -/
noncomputable def Try.pinned : Pinned := { name := "ytkbjfnmejhjodaa", sum := "7bb27aeb23521fcddc5aeb9b9467c38e1386746f79e3b80a01d072e8937ea6c7", checked := Try.checked }
namespace Rows
def none {H : Type} : Left H := { results := [], args := [] }

/-- 'tattlerlaw17.BucketBounds': WHATEVER THE INPUT: true; the input reads as it did. -/
def bucketBoundsSpec : ChangeSpec := { name := "bucketBounds", fn := fun _ => fun
  | [d1, d2, d3, d4, d5] => { results := [.lit (.bool true)], args := [d1, d2, d3, d4, d5] }
  | _ => none }
def bucketBoundsRow : OpenClaim := { program := "ytkbjfnmejhjodaa", sum := "7bb27aeb23521fcddc5aeb9b9467c38e1386746f79e3b80a01d072e8937ea6c7", func := "tattler/tattlerlaw17.BucketBounds", spec := "bucketBounds", inPlace := ["sync/atomic.LoadInt64", "sync/atomic.CompareAndSwapInt64", "sync/atomic.AddInt64"], unfollowed := true, recurses := true, apart := false }
def BucketBoundsSaid : Prop := bucketBoundsRow.holds Try.pinned (OpenSpec.ofChange bucketBoundsSpec)

/-- ITS FALSE NEIGHBOUR: 'it returns false'. Refute it at one input. -/
def bucketBoundsWrong : ChangeSpec := { name := "bucketBounds", fn := fun _ => fun
  | [d1, d2, d3, d4, d5] => { results := [.lit (.bool false)], args := [d1, d2, d3, d4, d5] }
  | _ => none }
def BucketBoundsWrongFalsely : Prop := bucketBoundsRow.holds Try.pinned (OpenSpec.ofChange bucketBoundsWrong)

/-- 'tattlerlaw17.BucketSlow': WHATEVER THE INPUT: true; the input reads as it did. -/
def bucketSlowSpec : ChangeSpec := { name := "bucketSlow", fn := fun _ => fun
  | [d1, d2, d3] => { results := [.lit (.bool true)], args := [d1, d2, d3] }
  | _ => none }
def bucketSlowRow : OpenClaim := { program := "ytkbjfnmejhjodaa", sum := "7bb27aeb23521fcddc5aeb9b9467c38e1386746f79e3b80a01d072e8937ea6c7", func := "tattler/tattlerlaw17.BucketSlow", spec := "bucketSlow", inPlace := ["sync/atomic.LoadInt64", "sync/atomic.CompareAndSwapInt64", "sync/atomic.AddInt64"], unfollowed := true, recurses := true, apart := false }
def BucketSlowSaid : Prop := bucketSlowRow.holds Try.pinned (OpenSpec.ofChange bucketSlowSpec)

/-- ITS FALSE NEIGHBOUR: 'it returns false'. Refute it at one input. -/
def bucketSlowWrong : ChangeSpec := { name := "bucketSlow", fn := fun _ => fun
  | [d1, d2, d3] => { results := [.lit (.bool false)], args := [d1, d2, d3] }
  | _ => none }
def BucketSlowWrongFalsely : Prop := bucketSlowRow.holds Try.pinned (OpenSpec.ofChange bucketSlowWrong)

/-- 'tattlerlaw17.BucketPlays': WHATEVER THE INPUT: true; the input reads as it did. -/
def bucketPlaysSpec : ChangeSpec := { name := "bucketPlays", fn := fun _ => fun
  | [d1, d2, d3] => { results := [.lit (.bool true)], args := [d1, d2, d3] }
  | _ => none }
def bucketPlaysRow : OpenClaim := { program := "ytkbjfnmejhjodaa", sum := "7bb27aeb23521fcddc5aeb9b9467c38e1386746f79e3b80a01d072e8937ea6c7", func := "tattler/tattlerlaw17.BucketPlays", spec := "bucketPlays", inPlace := ["sync/atomic.LoadInt64", "sync/atomic.CompareAndSwapInt64", "sync/atomic.AddInt64"], unfollowed := true, recurses := true, apart := false }
def BucketPlaysSaid : Prop := bucketPlaysRow.holds Try.pinned (OpenSpec.ofChange bucketPlaysSpec)

/-- ITS FALSE NEIGHBOUR: 'it returns false'. Refute it at one input. -/
def bucketPlaysWrong : ChangeSpec := { name := "bucketPlays", fn := fun _ => fun
  | [d1, d2, d3] => { results := [.lit (.bool false)], args := [d1, d2, d3] }
  | _ => none }
def BucketPlaysWrongFalsely : Prop := bucketPlaysRow.holds Try.pinned (OpenSpec.ofChange bucketPlaysWrong)

/-- 'tattlerlaw17.BucketNil': WHATEVER THE INPUT: true; the input reads as it did. -/
def bucketNilSpec : ChangeSpec := { name := "bucketNil", fn := fun _ => fun
  | [] => { results := [.lit (.bool true)], args := [] }
  | _ => none }
def bucketNilRow : OpenClaim := { program := "ytkbjfnmejhjodaa", sum := "7bb27aeb23521fcddc5aeb9b9467c38e1386746f79e3b80a01d072e8937ea6c7", func := "tattler/tattlerlaw17.BucketNil", spec := "bucketNil", inPlace := ["sync/atomic.LoadInt64", "sync/atomic.CompareAndSwapInt64", "sync/atomic.AddInt64"], unfollowed := true, recurses := true, apart := false }
def BucketNilSaid : Prop := bucketNilRow.holds Try.pinned (OpenSpec.ofChange bucketNilSpec)

/-- ITS FALSE NEIGHBOUR: 'it returns false'. Refute it at one input. -/
def bucketNilWrong : ChangeSpec := { name := "bucketNil", fn := fun _ => fun
  | [] => { results := [.lit (.bool false)], args := [] }
  | _ => none }
def BucketNilWrongFalsely : Prop := bucketNilRow.holds Try.pinned (OpenSpec.ofChange bucketNilWrong)

/-- 'tattlerlaw17.BucketFills': WHATEVER THE INPUT: true; the input reads as it did. -/
def bucketFillsSpec : ChangeSpec := { name := "bucketFills", fn := fun _ => fun
  | [d1, d2, d3] => { results := [.lit (.bool true)], args := [d1, d2, d3] }
  | _ => none }
def bucketFillsRow : OpenClaim := { program := "ytkbjfnmejhjodaa", sum := "7bb27aeb23521fcddc5aeb9b9467c38e1386746f79e3b80a01d072e8937ea6c7", func := "tattler/tattlerlaw17.BucketFills", spec := "bucketFills", inPlace := ["sync/atomic.LoadInt64", "sync/atomic.CompareAndSwapInt64", "sync/atomic.AddInt64"], unfollowed := true, recurses := true, apart := false }
def BucketFillsSaid : Prop := bucketFillsRow.holds Try.pinned (OpenSpec.ofChange bucketFillsSpec)

/-- ITS FALSE NEIGHBOUR: 'it returns false'. Refute it at one input. -/
def bucketFillsWrong : ChangeSpec := { name := "bucketFills", fn := fun _ => fun
  | [d1, d2, d3] => { results := [.lit (.bool false)], args := [d1, d2, d3] }
  | _ => none }
def BucketFillsWrongFalsely : Prop := bucketFillsRow.holds Try.pinned (OpenSpec.ofChange bucketFillsWrong)

/- THE SECOND FORM. 'bulk': how many values and letters a reading holds, each counted each time it is reached (what is shared counts as often as it is met; a slice's spare places count too). A statement '..UptoSaid' is the law's where the arguments, and the package variables that the reading takes, are together of bulk at most 1048576: NARROWER than '..Said'. Prove '..Said' where nothing that the law and all that it calls make is longer than what came in: it says more and counts as full. Else prove '..UptoSaid'. A law counts once. -/
mutual
def uptoBulk {H : Type} : DataW H → Nat
  | .lit (.string bytes) => bytes.length + 1
  | .lit _ => 1
  | .nil => 1
  | .ptr d => uptoBulk d + 1
  | .slice elems spare => uptoBulkAll elems + uptoBulkAll spare + 1
  | .agg parts => uptoBulkAll parts + 1
  | .iface _ d => uptoBulk d + 1
  | .map entries => uptoBulkEntries entries + 1
  | .held _ => 1
def uptoBulkAll {H : Type} : List (DataW H) → Nat
  | [] => 0
  | d :: r => uptoBulk d + uptoBulkAll r
def uptoBulkEntries {H : Type} : List (Lit × DataW H) → Nat
  | [] => 0
  | x :: r => uptoBulkEntry x + uptoBulkEntries r
def uptoBulkEntry {H : Type} : Lit × DataW H → Nat
  | (.string bytes, d) => bytes.length + uptoBulk d + 1
  | (_, d) => uptoBulk d + 1
 end
def uptoSmall : (H : Type) → List (DataW H) → Bool := fun _ ds => decide (uptoBulkAll ds ≤ 1048576)
def OpenSpec.upto (s : _root_.Go.ChangeSpec) : _root_.Go.OpenSpec := { _root_.Go.OpenSpec.ofChange s with cond := some uptoSmall }

/-- 'tattlerlaw17.BucketBounds', WHERE WHAT IT READS IS OF BULK AT MOST 1048576: true; the input reads as it did. -/
def bucketBoundsUptoRow : OpenClaim := { program := "ytkbjfnmejhjodaa", sum := "7bb27aeb23521fcddc5aeb9b9467c38e1386746f79e3b80a01d072e8937ea6c7", func := "tattler/tattlerlaw17.BucketBounds", spec := "bucketBounds", inPlace := ["sync/atomic.LoadInt64", "sync/atomic.CompareAndSwapInt64", "sync/atomic.AddInt64"], unfollowed := true, recurses := true, apart := false, narrowed := true }
def BucketBoundsUptoSaid : Prop := bucketBoundsUptoRow.holds Try.pinned (OpenSpec.upto bucketBoundsSpec)

/-- 'tattlerlaw17.BucketSlow', WHERE WHAT IT READS IS OF BULK AT MOST 1048576: true; the input reads as it did. -/
def bucketSlowUptoRow : OpenClaim := { program := "ytkbjfnmejhjodaa", sum := "7bb27aeb23521fcddc5aeb9b9467c38e1386746f79e3b80a01d072e8937ea6c7", func := "tattler/tattlerlaw17.BucketSlow", spec := "bucketSlow", inPlace := ["sync/atomic.LoadInt64", "sync/atomic.CompareAndSwapInt64", "sync/atomic.AddInt64"], unfollowed := true, recurses := true, apart := false, narrowed := true }
def BucketSlowUptoSaid : Prop := bucketSlowUptoRow.holds Try.pinned (OpenSpec.upto bucketSlowSpec)

/-- 'tattlerlaw17.BucketPlays', WHERE WHAT IT READS IS OF BULK AT MOST 1048576: true; the input reads as it did. -/
def bucketPlaysUptoRow : OpenClaim := { program := "ytkbjfnmejhjodaa", sum := "7bb27aeb23521fcddc5aeb9b9467c38e1386746f79e3b80a01d072e8937ea6c7", func := "tattler/tattlerlaw17.BucketPlays", spec := "bucketPlays", inPlace := ["sync/atomic.LoadInt64", "sync/atomic.CompareAndSwapInt64", "sync/atomic.AddInt64"], unfollowed := true, recurses := true, apart := false, narrowed := true }
def BucketPlaysUptoSaid : Prop := bucketPlaysUptoRow.holds Try.pinned (OpenSpec.upto bucketPlaysSpec)

/-- 'tattlerlaw17.BucketNil', WHERE WHAT IT READS IS OF BULK AT MOST 1048576: true; the input reads as it did. -/
def bucketNilUptoRow : OpenClaim := { program := "ytkbjfnmejhjodaa", sum := "7bb27aeb23521fcddc5aeb9b9467c38e1386746f79e3b80a01d072e8937ea6c7", func := "tattler/tattlerlaw17.BucketNil", spec := "bucketNil", inPlace := ["sync/atomic.LoadInt64", "sync/atomic.CompareAndSwapInt64", "sync/atomic.AddInt64"], unfollowed := true, recurses := true, apart := false, narrowed := true }
def BucketNilUptoSaid : Prop := bucketNilUptoRow.holds Try.pinned (OpenSpec.upto bucketNilSpec)

/-- 'tattlerlaw17.BucketFills', WHERE WHAT IT READS IS OF BULK AT MOST 1048576: true; the input reads as it did. -/
def bucketFillsUptoRow : OpenClaim := { program := "ytkbjfnmejhjodaa", sum := "7bb27aeb23521fcddc5aeb9b9467c38e1386746f79e3b80a01d072e8937ea6c7", func := "tattler/tattlerlaw17.BucketFills", spec := "bucketFills", inPlace := ["sync/atomic.LoadInt64", "sync/atomic.CompareAndSwapInt64", "sync/atomic.AddInt64"], unfollowed := true, recurses := true, apart := false, narrowed := true }
def BucketFillsUptoSaid : Prop := bucketFillsUptoRow.holds Try.pinned (OpenSpec.upto bucketFillsSpec)

end Rows
end Go.Proofs.Ytkbjfnmejhjodaa
