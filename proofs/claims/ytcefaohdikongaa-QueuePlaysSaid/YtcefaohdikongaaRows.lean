/-
  No cell of these rows narrows 'for every input' (looked for: loops, veiled, ifaces, maps, wideKeys, modest, calm, conditions, laid).
  DERIVED. THE GIVEN ROWS OF THIS SEAT. 6 by the template 'for every input the law returns true; each argument reads behind the call as it read before'; 0 by the template 'total and deterministic' (their statements: YtcefaohdikongaaTotals.lean).
  GIVEN WITH THE SEED: the statements are not yours to turn. If you find one false, say at which input.
  Laid BY PROGRAM, IN A SANDBOX (cutbox-rows.mjs): the forced cells as the released guide's own fill.sh prints them over the translation 209de7972cbf8544… (all of the seat's roots in one cut). By AI agents, Wed Nov 11 2026. No macro, syntax, notation, axiom, sorry.
-/
import Derived.Test.YtcefaohdikongaaChecked
import GoSem.Claim
import GoSem.ClaimJoined
import GoSem.ClaimMapViews
import Derived.JoinedTies
import Derived.KernelRfl
namespace Go.Proofs.Ytcefaohdikongaa
/- THE CELL 'sum', in the pinned program and in every row, IS THE sha256 OF THE DUMP (.gsa) THAT YtcefaohdikongaaProg.lean LOADS. Nothing in Lean hashes anything: it is a label: what it is worth is what the hold of that sum in a sandbox is worth. -/
noncomputable def Try.pinned : Pinned := { name := "ytcefaohdikongaa", sum := "209de7972cbf85447112311462c70f6cf608a84ac547e54bca1dd8e3ba839cea", checked := Try.checked }
namespace Rows
def none {H : Type} : Left H := { results := [], args := [] }

/-- 'tattlerlaw18.QueueWaits': WHATEVER THE INPUT: true; the input reads as it did. -/
def queueWaitsSpec : ChangeSpec := { name := "queueWaits", fn := fun _ => fun
  | [d1, d2] => { results := [.lit (.bool true)], args := [d1, d2] }
  | _ => none }
def queueWaitsRow : OpenClaim := { program := "ytcefaohdikongaa", sum := "209de7972cbf85447112311462c70f6cf608a84ac547e54bca1dd8e3ba839cea", func := "tattler/tattlerlaw18.QueueWaits", spec := "queueWaits", inPlace := ["sync/atomic.LoadInt64", "sync/atomic.CompareAndSwapInt64"], unfollowed := true, recurses := true, apart := false }
def QueueWaitsSaid : Prop := queueWaitsRow.holds Try.pinned (OpenSpec.ofChange queueWaitsSpec)

/-- ITS FALSE NEIGHBOUR: 'it returns false'. Refute it at one input. -/
def queueWaitsWrong : ChangeSpec := { name := "queueWaits", fn := fun _ => fun
  | [d1, d2] => { results := [.lit (.bool false)], args := [d1, d2] }
  | _ => none }
def QueueWaitsWrongFalsely : Prop := queueWaitsRow.holds Try.pinned (OpenSpec.ofChange queueWaitsWrong)

/-- 'tattlerlaw18.QueueUrgent': WHATEVER THE INPUT: true; the input reads as it did. -/
def queueUrgentSpec : ChangeSpec := { name := "queueUrgent", fn := fun _ => fun
  | [d] => { results := [.lit (.bool true)], args := [d] }
  | _ => none }
def queueUrgentRow : OpenClaim := { program := "ytcefaohdikongaa", sum := "209de7972cbf85447112311462c70f6cf608a84ac547e54bca1dd8e3ba839cea", func := "tattler/tattlerlaw18.QueueUrgent", spec := "queueUrgent", inPlace := ["sync/atomic.LoadInt64", "sync/atomic.CompareAndSwapInt64"], unfollowed := true, recurses := true, apart := false }
def QueueUrgentSaid : Prop := queueUrgentRow.holds Try.pinned (OpenSpec.ofChange queueUrgentSpec)

/-- ITS FALSE NEIGHBOUR: 'it returns false'. Refute it at one input. -/
def queueUrgentWrong : ChangeSpec := { name := "queueUrgent", fn := fun _ => fun
  | [d] => { results := [.lit (.bool false)], args := [d] }
  | _ => none }
def QueueUrgentWrongFalsely : Prop := queueUrgentRow.holds Try.pinned (OpenSpec.ofChange queueUrgentWrong)

/-- 'tattlerlaw18.QueueAll': WHATEVER THE INPUT: true; the input reads as it did. -/
def queueAllSpec : ChangeSpec := { name := "queueAll", fn := fun _ => fun
  | [d] => { results := [.lit (.bool true)], args := [d] }
  | _ => none }
def queueAllRow : OpenClaim := { program := "ytcefaohdikongaa", sum := "209de7972cbf85447112311462c70f6cf608a84ac547e54bca1dd8e3ba839cea", func := "tattler/tattlerlaw18.QueueAll", spec := "queueAll", inPlace := ["sync/atomic.LoadInt64", "sync/atomic.CompareAndSwapInt64"], unfollowed := true, recurses := true, apart := false }
def QueueAllSaid : Prop := queueAllRow.holds Try.pinned (OpenSpec.ofChange queueAllSpec)

/-- ITS FALSE NEIGHBOUR: 'it returns false'. Refute it at one input. -/
def queueAllWrong : ChangeSpec := { name := "queueAll", fn := fun _ => fun
  | [d] => { results := [.lit (.bool false)], args := [d] }
  | _ => none }
def QueueAllWrongFalsely : Prop := queueAllRow.holds Try.pinned (OpenSpec.ofChange queueAllWrong)

/-- 'tattlerlaw18.QueueAges': WHATEVER THE INPUT: true; the input reads as it did. -/
def queueAgesSpec : ChangeSpec := { name := "queueAges", fn := fun _ => fun
  | [d1, d2, d3] => { results := [.lit (.bool true)], args := [d1, d2, d3] }
  | _ => none }
def queueAgesRow : OpenClaim := { program := "ytcefaohdikongaa", sum := "209de7972cbf85447112311462c70f6cf608a84ac547e54bca1dd8e3ba839cea", func := "tattler/tattlerlaw18.QueueAges", spec := "queueAges", inPlace := ["sync/atomic.LoadInt64", "sync/atomic.CompareAndSwapInt64"], unfollowed := true, recurses := true, apart := false }
def QueueAgesSaid : Prop := queueAgesRow.holds Try.pinned (OpenSpec.ofChange queueAgesSpec)

/-- ITS FALSE NEIGHBOUR: 'it returns false'. Refute it at one input. -/
def queueAgesWrong : ChangeSpec := { name := "queueAges", fn := fun _ => fun
  | [d1, d2, d3] => { results := [.lit (.bool false)], args := [d1, d2, d3] }
  | _ => none }
def QueueAgesWrongFalsely : Prop := queueAgesRow.holds Try.pinned (OpenSpec.ofChange queueAgesWrong)

/-- 'tattlerlaw18.QueuePlays': WHATEVER THE INPUT: true; the input reads as it did. -/
def queuePlaysSpec : ChangeSpec := { name := "queuePlays", fn := fun _ => fun
  | [d1, d2] => { results := [.lit (.bool true)], args := [d1, d2] }
  | _ => none }
def queuePlaysRow : OpenClaim := { program := "ytcefaohdikongaa", sum := "209de7972cbf85447112311462c70f6cf608a84ac547e54bca1dd8e3ba839cea", func := "tattler/tattlerlaw18.QueuePlays", spec := "queuePlays", inPlace := ["sync/atomic.LoadInt64", "sync/atomic.CompareAndSwapInt64"], unfollowed := true, recurses := true, apart := false }
def QueuePlaysSaid : Prop := queuePlaysRow.holds Try.pinned (OpenSpec.ofChange queuePlaysSpec)

/-- ITS FALSE NEIGHBOUR: 'it returns false'. Refute it at one input. -/
def queuePlaysWrong : ChangeSpec := { name := "queuePlays", fn := fun _ => fun
  | [d1, d2] => { results := [.lit (.bool false)], args := [d1, d2] }
  | _ => none }
def QueuePlaysWrongFalsely : Prop := queuePlaysRow.holds Try.pinned (OpenSpec.ofChange queuePlaysWrong)

/-- 'tattlerlaw18.QueueMany': WHATEVER THE INPUT: true; the input reads as it did. -/
def queueManySpec : ChangeSpec := { name := "queueMany", fn := fun _ => fun
  | [d1, d2] => { results := [.lit (.bool true)], args := [d1, d2] }
  | _ => none }
def queueManyRow : OpenClaim := { program := "ytcefaohdikongaa", sum := "209de7972cbf85447112311462c70f6cf608a84ac547e54bca1dd8e3ba839cea", func := "tattler/tattlerlaw18.QueueMany", spec := "queueMany", inPlace := ["sync/atomic.LoadInt64", "sync/atomic.CompareAndSwapInt64"], unfollowed := true, recurses := true, apart := false }
def QueueManySaid : Prop := queueManyRow.holds Try.pinned (OpenSpec.ofChange queueManySpec)

/-- ITS FALSE NEIGHBOUR: 'it returns false'. Refute it at one input. -/
def queueManyWrong : ChangeSpec := { name := "queueMany", fn := fun _ => fun
  | [d1, d2] => { results := [.lit (.bool false)], args := [d1, d2] }
  | _ => none }
def QueueManyWrongFalsely : Prop := queueManyRow.holds Try.pinned (OpenSpec.ofChange queueManyWrong)

/- THE SECOND FORM. 'bulk': how many values and letters a reading holds, each counted each time it is reached (what is shared counts as often as it is met; a slice's spare places count too). A statement '..UptoSaid' is the law's where the arguments, and the package variables that the reading takes, are together of bulk at most 1048576: NARROWER than '..Said'. Prove '..Said' where nothing that the law and all that it calls make is longer than what came in: it says more and counts as full. Else prove '..UptoSaid'. A law counts once. -/
mutual
def uptoBulk {H : Type} : DataW H → Nat
  | .lit (.string bytes) => bytes.length + 1
  | .lit _ => 1
  | .nil => 1
  | .ptr d => uptoBulk d + 1
  | .slice elems spare => uptoBulkAll elems + uptoBulkAll spare + 1
  | .agg parts => uptoBulkAll parts + 1
  | .iface _ d => uptoBulk d + 1
  | .map entries => uptoBulkEntries entries + 1
  | .held _ => 1
def uptoBulkAll {H : Type} : List (DataW H) → Nat
  | [] => 0
  | d :: r => uptoBulk d + uptoBulkAll r
def uptoBulkEntries {H : Type} : List (Lit × DataW H) → Nat
  | [] => 0
  | x :: r => uptoBulkEntry x + uptoBulkEntries r
def uptoBulkEntry {H : Type} : Lit × DataW H → Nat
  | (.string bytes, d) => bytes.length + uptoBulk d + 1
  | (_, d) => uptoBulk d + 1
 end
def uptoSmall : (H : Type) → List (DataW H) → Bool := fun _ ds => decide (uptoBulkAll ds ≤ 1048576)
def OpenSpec.upto (s : _root_.Go.ChangeSpec) : _root_.Go.OpenSpec := { _root_.Go.OpenSpec.ofChange s with cond := some uptoSmall }

/-- 'tattlerlaw18.QueueWaits', WHERE WHAT IT READS IS OF BULK AT MOST 1048576: true; the input reads as it did. -/
def queueWaitsUptoRow : OpenClaim := { program := "ytcefaohdikongaa", sum := "209de7972cbf85447112311462c70f6cf608a84ac547e54bca1dd8e3ba839cea", func := "tattler/tattlerlaw18.QueueWaits", spec := "queueWaits", inPlace := ["sync/atomic.LoadInt64", "sync/atomic.CompareAndSwapInt64"], unfollowed := true, recurses := true, apart := false, narrowed := true }
def QueueWaitsUptoSaid : Prop := queueWaitsUptoRow.holds Try.pinned (OpenSpec.upto queueWaitsSpec)

/-- 'tattlerlaw18.QueueUrgent', WHERE WHAT IT READS IS OF BULK AT MOST 1048576: true; the input reads as it did. -/
def queueUrgentUptoRow : OpenClaim := { program := "ytcefaohdikongaa", sum := "209de7972cbf85447112311462c70f6cf608a84ac547e54bca1dd8e3ba839cea", func := "tattler/tattlerlaw18.QueueUrgent", spec := "queueUrgent", inPlace := ["sync/atomic.LoadInt64", "sync/atomic.CompareAndSwapInt64"], unfollowed := true, recurses := true, apart := false, narrowed := true }
def QueueUrgentUptoSaid : Prop := queueUrgentUptoRow.holds Try.pinned (OpenSpec.upto queueUrgentSpec)

/-- 'tattlerlaw18.QueueAll', WHERE WHAT IT READS IS OF BULK AT MOST 1048576: true; the input reads as it did. -/
def queueAllUptoRow : OpenClaim := { program := "ytcefaohdikongaa", sum := "209de7972cbf85447112311462c70f6cf608a84ac547e54bca1dd8e3ba839cea", func := "tattler/tattlerlaw18.QueueAll", spec := "queueAll", inPlace := ["sync/atomic.LoadInt64", "sync/atomic.CompareAndSwapInt64"], unfollowed := true, recurses := true, apart := false, narrowed := true }
def QueueAllUptoSaid : Prop := queueAllUptoRow.holds Try.pinned (OpenSpec.upto queueAllSpec)

/-- 'tattlerlaw18.QueueAges', WHERE WHAT IT READS IS OF BULK AT MOST 1048576: true; the input reads as it did. -/
def queueAgesUptoRow : OpenClaim := { program := "ytcefaohdikongaa", sum := "209de7972cbf85447112311462c70f6cf608a84ac547e54bca1dd8e3ba839cea", func := "tattler/tattlerlaw18.QueueAges", spec := "queueAges", inPlace := ["sync/atomic.LoadInt64", "sync/atomic.CompareAndSwapInt64"], unfollowed := true, recurses := true, apart := false, narrowed := true }
def QueueAgesUptoSaid : Prop := queueAgesUptoRow.holds Try.pinned (OpenSpec.upto queueAgesSpec)

/-- 'tattlerlaw18.QueuePlays', WHERE WHAT IT READS IS OF BULK AT MOST 1048576: true; the input reads as it did. -/
def queuePlaysUptoRow : OpenClaim := { program := "ytcefaohdikongaa", sum := "209de7972cbf85447112311462c70f6cf608a84ac547e54bca1dd8e3ba839cea", func := "tattler/tattlerlaw18.QueuePlays", spec := "queuePlays", inPlace := ["sync/atomic.LoadInt64", "sync/atomic.CompareAndSwapInt64"], unfollowed := true, recurses := true, apart := false, narrowed := true }
def QueuePlaysUptoSaid : Prop := queuePlaysUptoRow.holds Try.pinned (OpenSpec.upto queuePlaysSpec)

/-- 'tattlerlaw18.QueueMany', WHERE WHAT IT READS IS OF BULK AT MOST 1048576: true; the input reads as it did. -/
def queueManyUptoRow : OpenClaim := { program := "ytcefaohdikongaa", sum := "209de7972cbf85447112311462c70f6cf608a84ac547e54bca1dd8e3ba839cea", func := "tattler/tattlerlaw18.QueueMany", spec := "queueMany", inPlace := ["sync/atomic.LoadInt64", "sync/atomic.CompareAndSwapInt64"], unfollowed := true, recurses := true, apart := false, narrowed := true }
def QueueManyUptoSaid : Prop := queueManyUptoRow.holds Try.pinned (OpenSpec.upto queueManySpec)

end Rows
end Go.Proofs.Ytcefaohdikongaa
