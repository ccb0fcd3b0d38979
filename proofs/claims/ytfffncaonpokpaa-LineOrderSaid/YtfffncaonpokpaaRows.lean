/-
  No cell of these rows narrows 'for every input' (looked for: loops, veiled, ifaces, maps, wideKeys, modest, calm, conditions, laid).
  DERIVED. THE GIVEN ROWS OF THIS SEAT. 11 by the template 'for every input the law returns true; each argument reads behind the call as it read before'; 0 by the template 'total and deterministic' (their statements: YtfffncaonpokpaaTotals.lean).
  GIVEN WITH THE SEED: the statements are not yours to turn. If you find one false, say at which input.
  Laid BY PROGRAM, IN A SANDBOX (cutbox-rows.mjs): the forced cells as the released guide's own fill.sh prints them over the translation 3c7ce52d0806c3b4… (all of the seat's roots in one cut). By AI agents, Wed Nov 11 2026. No macro, syntax, notation, axiom, sorry.
-/
import Derived.Test.YtfffncaonpokpaaChecked
import GoSem.Claim
import GoSem.ClaimJoined
import GoSem.ClaimMapViews
import Derived.JoinedTies
import Derived.KernelRfl
namespace Go.Proofs.Ytfffncaonpokpaa
/- THE CELL 'sum', in the pinned program and in every row, IS THE sha256 OF THE DUMP (.gsa) THAT YtfffncaonpokpaaProg.lean LOADS. Nothing in Lean hashes anything: it is a label: what it is worth is what the hold of that sum in a sandbox is worth. -/
noncomputable def Try.pinned : Pinned := { name := "ytfffncaonpokpaa", sum := "3c7ce52d0806c3b4fc424c20f96aa653e6cfddb9b65ae74425c491b1f6302491", checked := Try.checked }
namespace Rows
def none {H : Type} : Left H := { results := [], args := [] }

/-- 'credenzalaw24.LineRuns': WHATEVER THE INPUT: true; the input reads as it did. -/
def lineRunsSpec : ChangeSpec := { name := "lineRuns", fn := fun _ => fun
  | [d1, d2] => { results := [.lit (.bool true)], args := [d1, d2] }
  | _ => none }
def lineRunsRow : OpenClaim := { program := "ytfffncaonpokpaa", sum := "3c7ce52d0806c3b4fc424c20f96aa653e6cfddb9b65ae74425c491b1f6302491", func := "credenza/credenzalaw24.LineRuns", spec := "lineRuns", apart := false }
def LineRunsSaid : Prop := lineRunsRow.holds Try.pinned (OpenSpec.ofChange lineRunsSpec)

/-- ITS FALSE NEIGHBOUR: 'it returns false'. Refute it at one input. -/
def lineRunsWrong : ChangeSpec := { name := "lineRuns", fn := fun _ => fun
  | [d1, d2] => { results := [.lit (.bool false)], args := [d1, d2] }
  | _ => none }
def LineRunsWrongFalsely : Prop := lineRunsRow.holds Try.pinned (OpenSpec.ofChange lineRunsWrong)

/-- 'credenzalaw12.RingFlows': WHATEVER THE INPUT: true; the input reads as it did. -/
def ringFlowsSpec : ChangeSpec := { name := "ringFlows", fn := fun _ => fun
  | [d1, d2] => { results := [.lit (.bool true)], args := [d1, d2] }
  | _ => none }
def ringFlowsRow : OpenClaim := { program := "ytfffncaonpokpaa", sum := "3c7ce52d0806c3b4fc424c20f96aa653e6cfddb9b65ae74425c491b1f6302491", func := "credenza/credenzalaw12.RingFlows", spec := "ringFlows", unfollowed := true, recurses := true, apart := false }
def RingFlowsSaid : Prop := ringFlowsRow.holds Try.pinned (OpenSpec.ofChange ringFlowsSpec)

/-- ITS FALSE NEIGHBOUR: 'it returns false'. Refute it at one input. -/
def ringFlowsWrong : ChangeSpec := { name := "ringFlows", fn := fun _ => fun
  | [d1, d2] => { results := [.lit (.bool false)], args := [d1, d2] }
  | _ => none }
def RingFlowsWrongFalsely : Prop := ringFlowsRow.holds Try.pinned (OpenSpec.ofChange ringFlowsWrong)

/-- 'credenzalaw26.StatCounts': WHATEVER THE INPUT: true; the input reads as it did. -/
def statCountsSpec : ChangeSpec := { name := "statCounts", fn := fun _ => fun
  | [d1, d2] => { results := [.lit (.bool true)], args := [d1, d2] }
  | _ => none }
def statCountsRow : OpenClaim := { program := "ytfffncaonpokpaa", sum := "3c7ce52d0806c3b4fc424c20f96aa653e6cfddb9b65ae74425c491b1f6302491", func := "credenza/credenzalaw26.StatCounts", spec := "statCounts", inPlace := ["sync/atomic.LoadInt64", "sync/atomic.CompareAndSwapInt64", "sync/atomic.AddInt64"], apart := false }
def StatCountsSaid : Prop := statCountsRow.holds Try.pinned (OpenSpec.ofChange statCountsSpec)

/-- ITS FALSE NEIGHBOUR: 'it returns false'. Refute it at one input. -/
def statCountsWrong : ChangeSpec := { name := "statCounts", fn := fun _ => fun
  | [d1, d2] => { results := [.lit (.bool false)], args := [d1, d2] }
  | _ => none }
def StatCountsWrongFalsely : Prop := statCountsRow.holds Try.pinned (OpenSpec.ofChange statCountsWrong)

/-- 'credenzalaw26.StatNames': WHATEVER THE INPUT: true; the input reads as it did. -/
def statNamesSpec : ChangeSpec := { name := "statNames", fn := fun _ => fun
  | [d1, d2] => { results := [.lit (.bool true)], args := [d1, d2] }
  | _ => none }
def statNamesRow : OpenClaim := { program := "ytfffncaonpokpaa", sum := "3c7ce52d0806c3b4fc424c20f96aa653e6cfddb9b65ae74425c491b1f6302491", func := "credenza/credenzalaw26.StatNames", spec := "statNames", inPlace := ["sync/atomic.LoadInt64", "sync/atomic.CompareAndSwapInt64", "sync/atomic.AddInt64"], apart := false }
def StatNamesSaid : Prop := statNamesRow.holds Try.pinned (OpenSpec.ofChange statNamesSpec)

/-- ITS FALSE NEIGHBOUR: 'it returns false'. Refute it at one input. -/
def statNamesWrong : ChangeSpec := { name := "statNames", fn := fun _ => fun
  | [d1, d2] => { results := [.lit (.bool false)], args := [d1, d2] }
  | _ => none }
def StatNamesWrongFalsely : Prop := statNamesRow.holds Try.pinned (OpenSpec.ofChange statNamesWrong)

/-- 'credenzalaw26.StatApart': WHATEVER THE INPUT: true; the input reads as it did. -/
def statApartSpec : ChangeSpec := { name := "statApart", fn := fun _ => fun
  | [d1, d2] => { results := [.lit (.bool true)], args := [d1, d2] }
  | _ => none }
def statApartRow : OpenClaim := { program := "ytfffncaonpokpaa", sum := "3c7ce52d0806c3b4fc424c20f96aa653e6cfddb9b65ae74425c491b1f6302491", func := "credenza/credenzalaw26.StatApart", spec := "statApart", inPlace := ["sync/atomic.LoadInt64", "sync/atomic.CompareAndSwapInt64", "sync/atomic.AddInt64"], apart := false }
def StatApartSaid : Prop := statApartRow.holds Try.pinned (OpenSpec.ofChange statApartSpec)

/-- ITS FALSE NEIGHBOUR: 'it returns false'. Refute it at one input. -/
def statApartWrong : ChangeSpec := { name := "statApart", fn := fun _ => fun
  | [d1, d2] => { results := [.lit (.bool false)], args := [d1, d2] }
  | _ => none }
def StatApartWrongFalsely : Prop := statApartRow.holds Try.pinned (OpenSpec.ofChange statApartWrong)

/-- 'credenzalaw26.StatMost': WHATEVER THE INPUT: true; the input reads as it did. -/
def statMostSpec : ChangeSpec := { name := "statMost", fn := fun _ => fun
  | [d1, d2] => { results := [.lit (.bool true)], args := [d1, d2] }
  | _ => none }
def statMostRow : OpenClaim := { program := "ytfffncaonpokpaa", sum := "3c7ce52d0806c3b4fc424c20f96aa653e6cfddb9b65ae74425c491b1f6302491", func := "credenza/credenzalaw26.StatMost", spec := "statMost", inPlace := ["sync/atomic.LoadInt64", "sync/atomic.CompareAndSwapInt64", "sync/atomic.AddInt64"], apart := false }
def StatMostSaid : Prop := statMostRow.holds Try.pinned (OpenSpec.ofChange statMostSpec)

/-- ITS FALSE NEIGHBOUR: 'it returns false'. Refute it at one input. -/
def statMostWrong : ChangeSpec := { name := "statMost", fn := fun _ => fun
  | [d1, d2] => { results := [.lit (.bool false)], args := [d1, d2] }
  | _ => none }
def StatMostWrongFalsely : Prop := statMostRow.holds Try.pinned (OpenSpec.ofChange statMostWrong)

/-- 'credenzalaw24.LinePlays': WHATEVER THE INPUT: true; the input reads as it did. -/
def linePlaysSpec : ChangeSpec := { name := "linePlays", fn := fun _ => fun
  | [d1, d2] => { results := [.lit (.bool true)], args := [d1, d2] }
  | _ => none }
def linePlaysRow : OpenClaim := { program := "ytfffncaonpokpaa", sum := "3c7ce52d0806c3b4fc424c20f96aa653e6cfddb9b65ae74425c491b1f6302491", func := "credenza/credenzalaw24.LinePlays", spec := "linePlays", unfollowed := true, recurses := true, apart := false }
def LinePlaysSaid : Prop := linePlaysRow.holds Try.pinned (OpenSpec.ofChange linePlaysSpec)

/-- ITS FALSE NEIGHBOUR: 'it returns false'. Refute it at one input. -/
def linePlaysWrong : ChangeSpec := { name := "linePlays", fn := fun _ => fun
  | [d1, d2] => { results := [.lit (.bool false)], args := [d1, d2] }
  | _ => none }
def LinePlaysWrongFalsely : Prop := linePlaysRow.holds Try.pinned (OpenSpec.ofChange linePlaysWrong)

/-- 'credenzalaw24.LineOrder': WHATEVER THE INPUT: true; the input reads as it did. -/
def lineOrderSpec : ChangeSpec := { name := "lineOrder", fn := fun _ => fun
  | [d1, d2, d3] => { results := [.lit (.bool true)], args := [d1, d2, d3] }
  | _ => none }
def lineOrderRow : OpenClaim := { program := "ytfffncaonpokpaa", sum := "3c7ce52d0806c3b4fc424c20f96aa653e6cfddb9b65ae74425c491b1f6302491", func := "credenza/credenzalaw24.LineOrder", spec := "lineOrder", unfollowed := true, recurses := true, apart := false }
def LineOrderSaid : Prop := lineOrderRow.holds Try.pinned (OpenSpec.ofChange lineOrderSpec)

/-- ITS FALSE NEIGHBOUR: 'it returns false'. Refute it at one input. -/
def lineOrderWrong : ChangeSpec := { name := "lineOrder", fn := fun _ => fun
  | [d1, d2, d3] => { results := [.lit (.bool false)], args := [d1, d2, d3] }
  | _ => none }
def LineOrderWrongFalsely : Prop := lineOrderRow.holds Try.pinned (OpenSpec.ofChange lineOrderWrong)

/-- 'credenzalaw12.RingPlays': WHATEVER THE INPUT: true; the input reads as it did. -/
def ringPlaysSpec : ChangeSpec := { name := "ringPlays", fn := fun _ => fun
  | [d1, d2] => { results := [.lit (.bool true)], args := [d1, d2] }
  | _ => none }
def ringPlaysRow : OpenClaim := { program := "ytfffncaonpokpaa", sum := "3c7ce52d0806c3b4fc424c20f96aa653e6cfddb9b65ae74425c491b1f6302491", func := "credenza/credenzalaw12.RingPlays", spec := "ringPlays", unfollowed := true, recurses := true, apart := false }
def RingPlaysSaid : Prop := ringPlaysRow.holds Try.pinned (OpenSpec.ofChange ringPlaysSpec)

/-- ITS FALSE NEIGHBOUR: 'it returns false'. Refute it at one input. -/
def ringPlaysWrong : ChangeSpec := { name := "ringPlays", fn := fun _ => fun
  | [d1, d2] => { results := [.lit (.bool false)], args := [d1, d2] }
  | _ => none }
def RingPlaysWrongFalsely : Prop := ringPlaysRow.holds Try.pinned (OpenSpec.ofChange ringPlaysWrong)

/-- 'credenzalaw12.RingAll': WHATEVER THE INPUT: true; the input reads as it did. -/
def ringAllSpec : ChangeSpec := { name := "ringAll", fn := fun _ => fun
  | [d1, d2, d3] => { results := [.lit (.bool true)], args := [d1, d2, d3] }
  | _ => none }
def ringAllRow : OpenClaim := { program := "ytfffncaonpokpaa", sum := "3c7ce52d0806c3b4fc424c20f96aa653e6cfddb9b65ae74425c491b1f6302491", func := "credenza/credenzalaw12.RingAll", spec := "ringAll", unfollowed := true, recurses := true, apart := false }
def RingAllSaid : Prop := ringAllRow.holds Try.pinned (OpenSpec.ofChange ringAllSpec)

/-- ITS FALSE NEIGHBOUR: 'it returns false'. Refute it at one input. -/
def ringAllWrong : ChangeSpec := { name := "ringAll", fn := fun _ => fun
  | [d1, d2, d3] => { results := [.lit (.bool false)], args := [d1, d2, d3] }
  | _ => none }
def RingAllWrongFalsely : Prop := ringAllRow.holds Try.pinned (OpenSpec.ofChange ringAllWrong)

/-- 'credenzalaw12.RingCuts': WHATEVER THE INPUT: true; the input reads as it did. -/
def ringCutsSpec : ChangeSpec := { name := "ringCuts", fn := fun _ => fun
  | [d] => { results := [.lit (.bool true)], args := [d] }
  | _ => none }
def ringCutsRow : OpenClaim := { program := "ytfffncaonpokpaa", sum := "3c7ce52d0806c3b4fc424c20f96aa653e6cfddb9b65ae74425c491b1f6302491", func := "credenza/credenzalaw12.RingCuts", spec := "ringCuts", unfollowed := true, recurses := true, apart := false }
def RingCutsSaid : Prop := ringCutsRow.holds Try.pinned (OpenSpec.ofChange ringCutsSpec)

/-- ITS FALSE NEIGHBOUR: 'it returns false'. Refute it at one input. -/
def ringCutsWrong : ChangeSpec := { name := "ringCuts", fn := fun _ => fun
  | [d] => { results := [.lit (.bool false)], args := [d] }
  | _ => none }
def RingCutsWrongFalsely : Prop := ringCutsRow.holds Try.pinned (OpenSpec.ofChange ringCutsWrong)

/- THE SECOND FORM. 'bulk': how many values and letters a reading holds, each counted each time it is reached (what is shared counts as often as it is met; a slice's spare places count too). A statement '..UptoSaid' is the law's where the arguments, and the package variables that the reading takes, are together of bulk at most 1048576: NARROWER than '..Said'. Prove '..Said' where nothing that the law and all that it calls make is longer than what came in: it says more and counts as full. Else prove '..UptoSaid'. A law counts once. -/
mutual
def uptoBulk {H : Type} : DataW H → Nat
  | .lit (.string bytes) => bytes.length + 1
  | .lit _ => 1
  | .nil => 1
  | .ptr d => uptoBulk d + 1
  | .slice elems spare => uptoBulkAll elems + uptoBulkAll spare + 1
  | .agg parts => uptoBulkAll parts + 1
  | .iface _ d => uptoBulk d + 1
  | .map entries => uptoBulkEntries entries + 1
  | .held _ => 1
def uptoBulkAll {H : Type} : List (DataW H) → Nat
  | [] => 0
  | d :: r => uptoBulk d + uptoBulkAll r
def uptoBulkEntries {H : Type} : List (Lit × DataW H) → Nat
  | [] => 0
  | x :: r => uptoBulkEntry x + uptoBulkEntries r
def uptoBulkEntry {H : Type} : Lit × DataW H → Nat
  | (.string bytes, d) => bytes.length + uptoBulk d + 1
  | (_, d) => uptoBulk d + 1
 end
def uptoSmall : (H : Type) → List (DataW H) → Bool := fun _ ds => decide (uptoBulkAll ds ≤ 1048576)
def OpenSpec.upto (s : _root_.Go.ChangeSpec) : _root_.Go.OpenSpec := { _root_.Go.OpenSpec.ofChange s with cond := some uptoSmall }

/-- 'credenzalaw24.LineRuns', WHERE WHAT IT READS IS OF BULK AT MOST 1048576: true; the input reads as it did. -/
def lineRunsUptoRow : OpenClaim := { program := "ytfffncaonpokpaa", sum := "3c7ce52d0806c3b4fc424c20f96aa653e6cfddb9b65ae74425c491b1f6302491", func := "credenza/credenzalaw24.LineRuns", spec := "lineRuns", apart := false, narrowed := true }
def LineRunsUptoSaid : Prop := lineRunsUptoRow.holds Try.pinned (OpenSpec.upto lineRunsSpec)

/-- 'credenzalaw12.RingFlows', WHERE WHAT IT READS IS OF BULK AT MOST 1048576: true; the input reads as it did. -/
def ringFlowsUptoRow : OpenClaim := { program := "ytfffncaonpokpaa", sum := "3c7ce52d0806c3b4fc424c20f96aa653e6cfddb9b65ae74425c491b1f6302491", func := "credenza/credenzalaw12.RingFlows", spec := "ringFlows", unfollowed := true, recurses := true, apart := false, narrowed := true }
def RingFlowsUptoSaid : Prop := ringFlowsUptoRow.holds Try.pinned (OpenSpec.upto ringFlowsSpec)

/-- 'credenzalaw26.StatCounts', WHERE WHAT IT READS IS OF BULK AT MOST 1048576: true; the input reads as it did. -/
def statCountsUptoRow : OpenClaim := { program := "ytfffncaonpokpaa", sum := "3c7ce52d0806c3b4fc424c20f96aa653e6cfddb9b65ae74425c491b1f6302491", func := "credenza/credenzalaw26.StatCounts", spec := "statCounts", inPlace := ["sync/atomic.LoadInt64", "sync/atomic.CompareAndSwapInt64", "sync/atomic.AddInt64"], apart := false, narrowed := true }
def StatCountsUptoSaid : Prop := statCountsUptoRow.holds Try.pinned (OpenSpec.upto statCountsSpec)

/-- 'credenzalaw26.StatNames', WHERE WHAT IT READS IS OF BULK AT MOST 1048576: true; the input reads as it did. -/
def statNamesUptoRow : OpenClaim := { program := "ytfffncaonpokpaa", sum := "3c7ce52d0806c3b4fc424c20f96aa653e6cfddb9b65ae74425c491b1f6302491", func := "credenza/credenzalaw26.StatNames", spec := "statNames", inPlace := ["sync/atomic.LoadInt64", "sync/atomic.CompareAndSwapInt64", "sync/atomic.AddInt64"], apart := false, narrowed := true }
def StatNamesUptoSaid : Prop := statNamesUptoRow.holds Try.pinned (OpenSpec.upto statNamesSpec)

/-- 'credenzalaw26.StatApart', WHERE WHAT IT READS IS OF BULK AT MOST 1048576: true; the input reads as it did. -/
def statApartUptoRow : OpenClaim := { program := "ytfffncaonpokpaa", sum := "3c7ce52d0806c3b4fc424c20f96aa653e6cfddb9b65ae74425c491b1f6302491", func := "credenza/credenzalaw26.StatApart", spec := "statApart", inPlace := ["sync/atomic.LoadInt64", "sync/atomic.CompareAndSwapInt64", "sync/atomic.AddInt64"], apart := false, narrowed := true }
def StatApartUptoSaid : Prop := statApartUptoRow.holds Try.pinned (OpenSpec.upto statApartSpec)

/-- 'credenzalaw26.StatMost', WHERE WHAT IT READS IS OF BULK AT MOST 1048576: true; the input reads as it did. -/
def statMostUptoRow : OpenClaim := { program := "ytfffncaonpokpaa", sum := "3c7ce52d0806c3b4fc424c20f96aa653e6cfddb9b65ae74425c491b1f6302491", func := "credenza/credenzalaw26.StatMost", spec := "statMost", inPlace := ["sync/atomic.LoadInt64", "sync/atomic.CompareAndSwapInt64", "sync/atomic.AddInt64"], apart := false, narrowed := true }
def StatMostUptoSaid : Prop := statMostUptoRow.holds Try.pinned (OpenSpec.upto statMostSpec)

/-- 'credenzalaw24.LinePlays', WHERE WHAT IT READS IS OF BULK AT MOST 1048576: true; the input reads as it did. -/
def linePlaysUptoRow : OpenClaim := { program := "ytfffncaonpokpaa", sum := "3c7ce52d0806c3b4fc424c20f96aa653e6cfddb9b65ae74425c491b1f6302491", func := "credenza/credenzalaw24.LinePlays", spec := "linePlays", unfollowed := true, recurses := true, apart := false, narrowed := true }
def LinePlaysUptoSaid : Prop := linePlaysUptoRow.holds Try.pinned (OpenSpec.upto linePlaysSpec)

/-- 'credenzalaw24.LineOrder', WHERE WHAT IT READS IS OF BULK AT MOST 1048576: true; the input reads as it did. -/
def lineOrderUptoRow : OpenClaim := { program := "ytfffncaonpokpaa", sum := "3c7ce52d0806c3b4fc424c20f96aa653e6cfddb9b65ae74425c491b1f6302491", func := "credenza/credenzalaw24.LineOrder", spec := "lineOrder", unfollowed := true, recurses := true, apart := false, narrowed := true }
def LineOrderUptoSaid : Prop := lineOrderUptoRow.holds Try.pinned (OpenSpec.upto lineOrderSpec)

/-- 'credenzalaw12.RingPlays', WHERE WHAT IT READS IS OF BULK AT MOST 1048576: true; the input reads as it did. -/
def ringPlaysUptoRow : OpenClaim := { program := "ytfffncaonpokpaa", sum := "3c7ce52d0806c3b4fc424c20f96aa653e6cfddb9b65ae74425c491b1f6302491", func := "credenza/credenzalaw12.RingPlays", spec := "ringPlays", unfollowed := true, recurses := true, apart := false, narrowed := true }
def RingPlaysUptoSaid : Prop := ringPlaysUptoRow.holds Try.pinned (OpenSpec.upto ringPlaysSpec)

/-- 'credenzalaw12.RingAll', WHERE WHAT IT READS IS OF BULK AT MOST 1048576: true; the input reads as it did. -/
def ringAllUptoRow : OpenClaim := { program := "ytfffncaonpokpaa", sum := "3c7ce52d0806c3b4fc424c20f96aa653e6cfddb9b65ae74425c491b1f6302491", func := "credenza/credenzalaw12.RingAll", spec := "ringAll", unfollowed := true, recurses := true, apart := false, narrowed := true }
def RingAllUptoSaid : Prop := ringAllUptoRow.holds Try.pinned (OpenSpec.upto ringAllSpec)

/-- 'credenzalaw12.RingCuts', WHERE WHAT IT READS IS OF BULK AT MOST 1048576: true; the input reads as it did. -/
def ringCutsUptoRow : OpenClaim := { program := "ytfffncaonpokpaa", sum := "3c7ce52d0806c3b4fc424c20f96aa653e6cfddb9b65ae74425c491b1f6302491", func := "credenza/credenzalaw12.RingCuts", spec := "ringCuts", unfollowed := true, recurses := true, apart := false, narrowed := true }
def RingCutsUptoSaid : Prop := ringCutsUptoRow.holds Try.pinned (OpenSpec.upto ringCutsSpec)

end Rows
end Go.Proofs.Ytfffncaonpokpaa
