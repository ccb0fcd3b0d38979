/-
  No cell of these rows narrows 'for every input' (looked for: loops, veiled, ifaces, maps, wideKeys, modest, calm, conditions, laid).
  DERIVED. THE GIVEN ROWS OF THIS SEAT. 5 by the template 'for every input the law returns true; each argument reads behind the call as it read before'; 0 by the template 'total and deterministic' (their statements: YteflolamihhmdaaTotals.lean).
  GIVEN WITH THE SEED: the statements are not yours to turn. If you find one false, say at which input.
  Laid BY PROGRAM, IN A SANDBOX (cutbox-rows.mjs): the forced cells as the released guide's own fill.sh prints them over the translation 50545a1a609a7181… (all of the seat's roots in one cut). By AI agents, Wed Nov 11 2026. No macro, syntax, notation, axiom, sorry.
-/
import Derived.Test.YteflolamihhmdaaChecked
import GoSem.Claim
import GoSem.ClaimJoined
import GoSem.ClaimMapViews
import Derived.JoinedTies
import Derived.KernelRfl
namespace Go.Proofs.Yteflolamihhmdaa
/- THE CELL 'sum', in the pinned program and in every row, IS THE sha256 OF THE DUMP (.gsa) THAT YteflolamihhmdaaProg.lean LOADS. Nothing in Lean hashes anything: it is a label: what it is worth is what the hold of that sum in a sandbox is worth. -/
noncomputable def Try.pinned : Pinned := { name := "yteflolamihhmdaa", sum := "50545a1a609a718114d1d3a8d1a08118d5230757419ec6c172c859aa13d05a23", checked := Try.checked }
namespace Rows
def none {H : Type} : Left H := { results := [], args := [] }

/-- 'credenzalaw14.AttnScores': WHATEVER THE INPUT: true; the input reads as it did. -/
def attnScoresSpec : ChangeSpec := { name := "attnScores", fn := fun _ => fun
  | [d1, d2] => { results := [.lit (.bool true)], args := [d1, d2] }
  | _ => none }
def attnScoresRow : OpenClaim := { program := "yteflolamihhmdaa", sum := "50545a1a609a718114d1d3a8d1a08118d5230757419ec6c172c859aa13d05a23", func := "credenza/credenzalaw14.AttnScores", spec := "attnScores", unfollowed := true, recurses := true, apart := false }
def AttnScoresSaid : Prop := attnScoresRow.holds Try.pinned (OpenSpec.ofChange attnScoresSpec)

/-- ITS FALSE NEIGHBOUR: 'it returns false'. Refute it at one input. -/
def attnScoresWrong : ChangeSpec := { name := "attnScores", fn := fun _ => fun
  | [d1, d2] => { results := [.lit (.bool false)], args := [d1, d2] }
  | _ => none }
def AttnScoresWrongFalsely : Prop := attnScoresRow.holds Try.pinned (OpenSpec.ofChange attnScoresWrong)

/-- 'credenzalaw14.AttnGathers': WHATEVER THE INPUT: true; the input reads as it did. -/
def attnGathersSpec : ChangeSpec := { name := "attnGathers", fn := fun _ => fun
  | [d1, d2, d3] => { results := [.lit (.bool true)], args := [d1, d2, d3] }
  | _ => none }
def attnGathersRow : OpenClaim := { program := "yteflolamihhmdaa", sum := "50545a1a609a718114d1d3a8d1a08118d5230757419ec6c172c859aa13d05a23", func := "credenza/credenzalaw14.AttnGathers", spec := "attnGathers", unfollowed := true, recurses := true, apart := false }
def AttnGathersSaid : Prop := attnGathersRow.holds Try.pinned (OpenSpec.ofChange attnGathersSpec)

/-- ITS FALSE NEIGHBOUR: 'it returns false'. Refute it at one input. -/
def attnGathersWrong : ChangeSpec := { name := "attnGathers", fn := fun _ => fun
  | [d1, d2, d3] => { results := [.lit (.bool false)], args := [d1, d2, d3] }
  | _ => none }
def AttnGathersWrongFalsely : Prop := attnGathersRow.holds Try.pinned (OpenSpec.ofChange attnGathersWrong)

/-- 'credenzalaw14.AttnBetween': WHATEVER THE INPUT: true; the input reads as it did. -/
def attnBetweenSpec : ChangeSpec := { name := "attnBetween", fn := fun _ => fun
  | [d1, d2, d3] => { results := [.lit (.bool true)], args := [d1, d2, d3] }
  | _ => none }
def attnBetweenRow : OpenClaim := { program := "yteflolamihhmdaa", sum := "50545a1a609a718114d1d3a8d1a08118d5230757419ec6c172c859aa13d05a23", func := "credenza/credenzalaw14.AttnBetween", spec := "attnBetween", unfollowed := true, recurses := true, apart := false }
def AttnBetweenSaid : Prop := attnBetweenRow.holds Try.pinned (OpenSpec.ofChange attnBetweenSpec)

/-- ITS FALSE NEIGHBOUR: 'it returns false'. Refute it at one input. -/
def attnBetweenWrong : ChangeSpec := { name := "attnBetween", fn := fun _ => fun
  | [d1, d2, d3] => { results := [.lit (.bool false)], args := [d1, d2, d3] }
  | _ => none }
def AttnBetweenWrongFalsely : Prop := attnBetweenRow.holds Try.pinned (OpenSpec.ofChange attnBetweenWrong)

/-- 'credenzalaw14.AttnAlone': WHATEVER THE INPUT: true; the input reads as it did. -/
def attnAloneSpec : ChangeSpec := { name := "attnAlone", fn := fun _ => fun
  | [d1, d2, d3] => { results := [.lit (.bool true)], args := [d1, d2, d3] }
  | _ => none }
def attnAloneRow : OpenClaim := { program := "yteflolamihhmdaa", sum := "50545a1a609a718114d1d3a8d1a08118d5230757419ec6c172c859aa13d05a23", func := "credenza/credenzalaw14.AttnAlone", spec := "attnAlone", unfollowed := true, recurses := true, apart := false }
def AttnAloneSaid : Prop := attnAloneRow.holds Try.pinned (OpenSpec.ofChange attnAloneSpec)

/-- ITS FALSE NEIGHBOUR: 'it returns false'. Refute it at one input. -/
def attnAloneWrong : ChangeSpec := { name := "attnAlone", fn := fun _ => fun
  | [d1, d2, d3] => { results := [.lit (.bool false)], args := [d1, d2, d3] }
  | _ => none }
def AttnAloneWrongFalsely : Prop := attnAloneRow.holds Try.pinned (OpenSpec.ofChange attnAloneWrong)

/-- 'credenzalaw14.AttnFused': WHATEVER THE INPUT: true; the input reads as it did. -/
def attnFusedSpec : ChangeSpec := { name := "attnFused", fn := fun _ => fun
  | [d] => { results := [.lit (.bool true)], args := [d] }
  | _ => none }
def attnFusedRow : OpenClaim := { program := "yteflolamihhmdaa", sum := "50545a1a609a718114d1d3a8d1a08118d5230757419ec6c172c859aa13d05a23", func := "credenza/credenzalaw14.AttnFused", spec := "attnFused", unfollowed := true, recurses := true, apart := false }
def AttnFusedSaid : Prop := attnFusedRow.holds Try.pinned (OpenSpec.ofChange attnFusedSpec)

/-- ITS FALSE NEIGHBOUR: 'it returns false'. Refute it at one input. -/
def attnFusedWrong : ChangeSpec := { name := "attnFused", fn := fun _ => fun
  | [d] => { results := [.lit (.bool false)], args := [d] }
  | _ => none }
def AttnFusedWrongFalsely : Prop := attnFusedRow.holds Try.pinned (OpenSpec.ofChange attnFusedWrong)

/- THE SECOND FORM. 'bulk': how many values and letters a reading holds, each counted each time it is reached (what is shared counts as often as it is met; a slice's spare places count too). A statement '..UptoSaid' is the law's where the arguments, and the package variables that the reading takes, are together of bulk at most 1048576: NARROWER than '..Said'. Prove '..Said' where nothing that the law and all that it calls make is longer than what came in: it says more and counts as full. Else prove '..UptoSaid'. A law counts once. -/
mutual
def uptoBulk {H : Type} : DataW H → Nat
  | .lit (.string bytes) => bytes.length + 1
  | .lit _ => 1
  | .nil => 1
  | .ptr d => uptoBulk d + 1
  | .slice elems spare => uptoBulkAll elems + uptoBulkAll spare + 1
  | .agg parts => uptoBulkAll parts + 1
  | .iface _ d => uptoBulk d + 1
  | .map entries => uptoBulkEntries entries + 1
  | .held _ => 1
def uptoBulkAll {H : Type} : List (DataW H) → Nat
  | [] => 0
  | d :: r => uptoBulk d + uptoBulkAll r
def uptoBulkEntries {H : Type} : List (Lit × DataW H) → Nat
  | [] => 0
  | x :: r => uptoBulkEntry x + uptoBulkEntries r
def uptoBulkEntry {H : Type} : Lit × DataW H → Nat
  | (.string bytes, d) => bytes.length + uptoBulk d + 1
  | (_, d) => uptoBulk d + 1
 end
def uptoSmall : (H : Type) → List (DataW H) → Bool := fun _ ds => decide (uptoBulkAll ds ≤ 1048576)
def OpenSpec.upto (s : _root_.Go.ChangeSpec) : _root_.Go.OpenSpec := { _root_.Go.OpenSpec.ofChange s with cond := some uptoSmall }

/-- 'credenzalaw14.AttnScores', WHERE WHAT IT READS IS OF BULK AT MOST 1048576: true; the input reads as it did. -/
def attnScoresUptoRow : OpenClaim := { program := "yteflolamihhmdaa", sum := "50545a1a609a718114d1d3a8d1a08118d5230757419ec6c172c859aa13d05a23", func := "credenza/credenzalaw14.AttnScores", spec := "attnScores", unfollowed := true, recurses := true, apart := false, narrowed := true }
def AttnScoresUptoSaid : Prop := attnScoresUptoRow.holds Try.pinned (OpenSpec.upto attnScoresSpec)

/-- 'credenzalaw14.AttnGathers', WHERE WHAT IT READS IS OF BULK AT MOST 1048576: true; the input reads as it did. -/
def attnGathersUptoRow : OpenClaim := { program := "yteflolamihhmdaa", sum := "50545a1a609a718114d1d3a8d1a08118d5230757419ec6c172c859aa13d05a23", func := "credenza/credenzalaw14.AttnGathers", spec := "attnGathers", unfollowed := true, recurses := true, apart := false, narrowed := true }
def AttnGathersUptoSaid : Prop := attnGathersUptoRow.holds Try.pinned (OpenSpec.upto attnGathersSpec)

/-- 'credenzalaw14.AttnBetween', WHERE WHAT IT READS IS OF BULK AT MOST 1048576: true; the input reads as it did. -/
def attnBetweenUptoRow : OpenClaim := { program := "yteflolamihhmdaa", sum := "50545a1a609a718114d1d3a8d1a08118d5230757419ec6c172c859aa13d05a23", func := "credenza/credenzalaw14.AttnBetween", spec := "attnBetween", unfollowed := true, recurses := true, apart := false, narrowed := true }
def AttnBetweenUptoSaid : Prop := attnBetweenUptoRow.holds Try.pinned (OpenSpec.upto attnBetweenSpec)

/-- 'credenzalaw14.AttnAlone', WHERE WHAT IT READS IS OF BULK AT MOST 1048576: true; the input reads as it did. -/
def attnAloneUptoRow : OpenClaim := { program := "yteflolamihhmdaa", sum := "50545a1a609a718114d1d3a8d1a08118d5230757419ec6c172c859aa13d05a23", func := "credenza/credenzalaw14.AttnAlone", spec := "attnAlone", unfollowed := true, recurses := true, apart := false, narrowed := true }
def AttnAloneUptoSaid : Prop := attnAloneUptoRow.holds Try.pinned (OpenSpec.upto attnAloneSpec)

/-- 'credenzalaw14.AttnFused', WHERE WHAT IT READS IS OF BULK AT MOST 1048576: true; the input reads as it did. -/
def attnFusedUptoRow : OpenClaim := { program := "yteflolamihhmdaa", sum := "50545a1a609a718114d1d3a8d1a08118d5230757419ec6c172c859aa13d05a23", func := "credenza/credenzalaw14.AttnFused", spec := "attnFused", unfollowed := true, recurses := true, apart := false, narrowed := true }
def AttnFusedUptoSaid : Prop := attnFusedUptoRow.holds Try.pinned (OpenSpec.upto attnFusedSpec)

end Rows
end Go.Proofs.Yteflolamihhmdaa
