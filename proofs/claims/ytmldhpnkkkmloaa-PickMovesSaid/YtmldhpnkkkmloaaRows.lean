/-
  No cell of these rows narrows 'for every input' (looked for: loops, veiled, ifaces, maps, wideKeys, modest, calm, conditions, laid).
  DERIVED. THE GIVEN ROWS OF THIS SEAT. 5 by the template 'for every input the law returns true; each argument reads behind the call as it read before'; 0 by the template 'total and deterministic' (their statements: YtmldhpnkkkmloaaTotals.lean).
  GIVEN WITH THE SEED: the statements are not yours to turn. If you find one false, say at which input.
  Laid BY PROGRAM, IN A SANDBOX (cutbox-rows.mjs): the forced cells as the released guide's own fill.sh prints them over the translation 0b2dec5041a2c570… (all of the seat's roots in one cut). By AI agents, Wed Nov 11 2026. No macro, syntax, notation, axiom, sorry.
-/
import Derived.Test.YtmldhpnkkkmloaaChecked
import GoSem.Claim
import GoSem.ClaimJoined
import GoSem.ClaimMapViews
import Derived.JoinedTies
import Derived.KernelRfl
namespace Go.Proofs.Ytmldhpnkkkmloaa
/- THE CELL 'sum', in the pinned program and in every row, IS THE sha256 OF THE DUMP (.gsa) THAT YtmldhpnkkkmloaaProg.lean LOADS. Nothing in Lean hashes anything: it is a label: what it is worth is what the hold of that sum in a sandbox is worth. -/
noncomputable def Try.pinned : Pinned := { name := "ytmldhpnkkkmloaa", sum := "0b2dec5041a2c570ef9312aedda010c130cc1aa3f3cff206218f5474812a79b4", checked := Try.checked }
namespace Rows
def none {H : Type} : Left H := { results := [], args := [] }

/-- 'credenzalaw20.PickPicks': WHATEVER THE INPUT: true; the input reads as it did. -/
def pickPicksSpec : ChangeSpec := { name := "pickPicks", fn := fun _ => fun
  | [d1, d2] => { results := [.lit (.bool true)], args := [d1, d2] }
  | _ => none }
def pickPicksRow : OpenClaim := { program := "ytmldhpnkkkmloaa", sum := "0b2dec5041a2c570ef9312aedda010c130cc1aa3f3cff206218f5474812a79b4", func := "credenza/credenzalaw20.PickPicks", spec := "pickPicks", unfollowed := true, recurses := true, apart := false }
def PickPicksSaid : Prop := pickPicksRow.holds Try.pinned (OpenSpec.ofChange pickPicksSpec)

/-- ITS FALSE NEIGHBOUR: 'it returns false'. Refute it at one input. -/
def pickPicksWrong : ChangeSpec := { name := "pickPicks", fn := fun _ => fun
  | [d1, d2] => { results := [.lit (.bool false)], args := [d1, d2] }
  | _ => none }
def PickPicksWrongFalsely : Prop := pickPicksRow.holds Try.pinned (OpenSpec.ofChange pickPicksWrong)

/-- 'credenzalaw20.PickKeeps': WHATEVER THE INPUT: true; the input reads as it did. -/
def pickKeepsSpec : ChangeSpec := { name := "pickKeeps", fn := fun _ => fun
  | [d1, d2] => { results := [.lit (.bool true)], args := [d1, d2] }
  | _ => none }
def pickKeepsRow : OpenClaim := { program := "ytmldhpnkkkmloaa", sum := "0b2dec5041a2c570ef9312aedda010c130cc1aa3f3cff206218f5474812a79b4", func := "credenza/credenzalaw20.PickKeeps", spec := "pickKeeps", unfollowed := true, recurses := true, apart := false }
def PickKeepsSaid : Prop := pickKeepsRow.holds Try.pinned (OpenSpec.ofChange pickKeepsSpec)

/-- ITS FALSE NEIGHBOUR: 'it returns false'. Refute it at one input. -/
def pickKeepsWrong : ChangeSpec := { name := "pickKeeps", fn := fun _ => fun
  | [d1, d2] => { results := [.lit (.bool false)], args := [d1, d2] }
  | _ => none }
def PickKeepsWrongFalsely : Prop := pickKeepsRow.holds Try.pinned (OpenSpec.ofChange pickKeepsWrong)

/-- 'credenzalaw20.PickDraws': WHATEVER THE INPUT: true; the input reads as it did. -/
def pickDrawsSpec : ChangeSpec := { name := "pickDraws", fn := fun _ => fun
  | [d1, d2, d3] => { results := [.lit (.bool true)], args := [d1, d2, d3] }
  | _ => none }
def pickDrawsRow : OpenClaim := { program := "ytmldhpnkkkmloaa", sum := "0b2dec5041a2c570ef9312aedda010c130cc1aa3f3cff206218f5474812a79b4", func := "credenza/credenzalaw20.PickDraws", spec := "pickDraws", unfollowed := true, recurses := true, apart := false }
def PickDrawsSaid : Prop := pickDrawsRow.holds Try.pinned (OpenSpec.ofChange pickDrawsSpec)

/-- ITS FALSE NEIGHBOUR: 'it returns false'. Refute it at one input. -/
def pickDrawsWrong : ChangeSpec := { name := "pickDraws", fn := fun _ => fun
  | [d1, d2, d3] => { results := [.lit (.bool false)], args := [d1, d2, d3] }
  | _ => none }
def PickDrawsWrongFalsely : Prop := pickDrawsRow.holds Try.pinned (OpenSpec.ofChange pickDrawsWrong)

/-- 'credenzalaw20.PickMoves': WHATEVER THE INPUT: true; the input reads as it did. -/
def pickMovesSpec : ChangeSpec := { name := "pickMoves", fn := fun _ => fun
  | [d1, d2, d3] => { results := [.lit (.bool true)], args := [d1, d2, d3] }
  | _ => none }
def pickMovesRow : OpenClaim := { program := "ytmldhpnkkkmloaa", sum := "0b2dec5041a2c570ef9312aedda010c130cc1aa3f3cff206218f5474812a79b4", func := "credenza/credenzalaw20.PickMoves", spec := "pickMoves", unfollowed := true, recurses := true, apart := false }
def PickMovesSaid : Prop := pickMovesRow.holds Try.pinned (OpenSpec.ofChange pickMovesSpec)

/-- ITS FALSE NEIGHBOUR: 'it returns false'. Refute it at one input. -/
def pickMovesWrong : ChangeSpec := { name := "pickMoves", fn := fun _ => fun
  | [d1, d2, d3] => { results := [.lit (.bool false)], args := [d1, d2, d3] }
  | _ => none }
def PickMovesWrongFalsely : Prop := pickMovesRow.holds Try.pinned (OpenSpec.ofChange pickMovesWrong)

/-- 'credenzalaw20.PickTops': WHATEVER THE INPUT: true; the input reads as it did. -/
def pickTopsSpec : ChangeSpec := { name := "pickTops", fn := fun _ => fun
  | [d1, d2] => { results := [.lit (.bool true)], args := [d1, d2] }
  | _ => none }
def pickTopsRow : OpenClaim := { program := "ytmldhpnkkkmloaa", sum := "0b2dec5041a2c570ef9312aedda010c130cc1aa3f3cff206218f5474812a79b4", func := "credenza/credenzalaw20.PickTops", spec := "pickTops", unfollowed := true, recurses := true, apart := false }
def PickTopsSaid : Prop := pickTopsRow.holds Try.pinned (OpenSpec.ofChange pickTopsSpec)

/-- ITS FALSE NEIGHBOUR: 'it returns false'. Refute it at one input. -/
def pickTopsWrong : ChangeSpec := { name := "pickTops", fn := fun _ => fun
  | [d1, d2] => { results := [.lit (.bool false)], args := [d1, d2] }
  | _ => none }
def PickTopsWrongFalsely : Prop := pickTopsRow.holds Try.pinned (OpenSpec.ofChange pickTopsWrong)

/- THE SECOND FORM. 'bulk': how many values and letters a reading holds, each counted each time it is reached (what is shared counts as often as it is met; a slice's spare places count too). A statement '..UptoSaid' is the law's where the arguments, and the package variables that the reading takes, are together of bulk at most 1048576: NARROWER than '..Said'. Prove '..Said' where nothing that the law and all that it calls make is longer than what came in: it says more and counts as full. Else prove '..UptoSaid'. A law counts once. -/
mutual
def uptoBulk {H : Type} : DataW H → Nat
  | .lit (.string bytes) => bytes.length + 1
  | .lit _ => 1
  | .nil => 1
  | .ptr d => uptoBulk d + 1
  | .slice elems spare => uptoBulkAll elems + uptoBulkAll spare + 1
  | .agg parts => uptoBulkAll parts + 1
  | .iface _ d => uptoBulk d + 1
  | .map entries => uptoBulkEntries entries + 1
  | .held _ => 1
def uptoBulkAll {H : Type} : List (DataW H) → Nat
  | [] => 0
  | d :: r => uptoBulk d + uptoBulkAll r
def uptoBulkEntries {H : Type} : List (Lit × DataW H) → Nat
  | [] => 0
  | x :: r => uptoBulkEntry x + uptoBulkEntries r
def uptoBulkEntry {H : Type} : Lit × DataW H → Nat
  | (.string bytes, d) => bytes.length + uptoBulk d + 1
  | (_, d) => uptoBulk d + 1
 end
def uptoSmall : (H : Type) → List (DataW H) → Bool := fun _ ds => decide (uptoBulkAll ds ≤ 1048576)
def OpenSpec.upto (s : _root_.Go.ChangeSpec) : _root_.Go.OpenSpec := { _root_.Go.OpenSpec.ofChange s with cond := some uptoSmall }

/-- 'credenzalaw20.PickPicks', WHERE WHAT IT READS IS OF BULK AT MOST 1048576: true; the input reads as it did. -/
def pickPicksUptoRow : OpenClaim := { program := "ytmldhpnkkkmloaa", sum := "0b2dec5041a2c570ef9312aedda010c130cc1aa3f3cff206218f5474812a79b4", func := "credenza/credenzalaw20.PickPicks", spec := "pickPicks", unfollowed := true, recurses := true, apart := false, narrowed := true }
def PickPicksUptoSaid : Prop := pickPicksUptoRow.holds Try.pinned (OpenSpec.upto pickPicksSpec)

/-- 'credenzalaw20.PickKeeps', WHERE WHAT IT READS IS OF BULK AT MOST 1048576: true; the input reads as it did. -/
def pickKeepsUptoRow : OpenClaim := { program := "ytmldhpnkkkmloaa", sum := "0b2dec5041a2c570ef9312aedda010c130cc1aa3f3cff206218f5474812a79b4", func := "credenza/credenzalaw20.PickKeeps", spec := "pickKeeps", unfollowed := true, recurses := true, apart := false, narrowed := true }
def PickKeepsUptoSaid : Prop := pickKeepsUptoRow.holds Try.pinned (OpenSpec.upto pickKeepsSpec)

/-- 'credenzalaw20.PickDraws', WHERE WHAT IT READS IS OF BULK AT MOST 1048576: true; the input reads as it did. -/
def pickDrawsUptoRow : OpenClaim := { program := "ytmldhpnkkkmloaa", sum := "0b2dec5041a2c570ef9312aedda010c130cc1aa3f3cff206218f5474812a79b4", func := "credenza/credenzalaw20.PickDraws", spec := "pickDraws", unfollowed := true, recurses := true, apart := false, narrowed := true }
def PickDrawsUptoSaid : Prop := pickDrawsUptoRow.holds Try.pinned (OpenSpec.upto pickDrawsSpec)

/-- 'credenzalaw20.PickMoves', WHERE WHAT IT READS IS OF BULK AT MOST 1048576: true; the input reads as it did. -/
def pickMovesUptoRow : OpenClaim := { program := "ytmldhpnkkkmloaa", sum := "0b2dec5041a2c570ef9312aedda010c130cc1aa3f3cff206218f5474812a79b4", func := "credenza/credenzalaw20.PickMoves", spec := "pickMoves", unfollowed := true, recurses := true, apart := false, narrowed := true }
def PickMovesUptoSaid : Prop := pickMovesUptoRow.holds Try.pinned (OpenSpec.upto pickMovesSpec)

/-- 'credenzalaw20.PickTops', WHERE WHAT IT READS IS OF BULK AT MOST 1048576: true; the input reads as it did. -/
def pickTopsUptoRow : OpenClaim := { program := "ytmldhpnkkkmloaa", sum := "0b2dec5041a2c570ef9312aedda010c130cc1aa3f3cff206218f5474812a79b4", func := "credenza/credenzalaw20.PickTops", spec := "pickTops", unfollowed := true, recurses := true, apart := false, narrowed := true }
def PickTopsUptoSaid : Prop := pickTopsUptoRow.holds Try.pinned (OpenSpec.upto pickTopsSpec)

end Rows
end Go.Proofs.Ytmldhpnkkkmloaa
