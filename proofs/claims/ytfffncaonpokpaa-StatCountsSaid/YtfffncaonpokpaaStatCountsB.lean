/- StatCounts over rows as they are opened; no condition. -/
import Derived.Test.YtfffncaonpokpaaStatCounts
namespace Go.Proofs.Ytfffncaonpokpaa
open Go.RowKit
theorem statCounts_any (A : Option Addr) (cap : Nat) (rows : List (List Int)) (kind : Int) (w : World)
    (h : ∀ i, i < rows.length → ∃ b off, A = some ⟨b, off, none⟩ ∧ b < w.heap.size ∧ ∀ j, j < 3 →
      w.cell? ⟨b, off + (i * 3 + j), none⟩ = some (.int .i64 ((rows[i]?.getD [])[j]?.getD 0)) ∧ (Lit.int .i64 ((rows[i]?.getD [])[j]?.getD 0)).wf = true) (_hc : rows.length ≤ cap) (_hk : (Lit.int .i64 kind).wf = true) :
    Calls Try.prog 5 #[.slice A rows.length cap, .int .i64 kind] w fun e w' => e = .returned (.bool true) ∧ Below w.heap.size w w' :=
  statCounts_walk A cap rows kind w (fun i hi => by
    obtain ⟨b, off, h1, h2, h3⟩ := h i hi
    exact ⟨b, off, h1, h2, fun j hj => (h3 j hj).1⟩)
end Go.Proofs.Ytfffncaonpokpaa
