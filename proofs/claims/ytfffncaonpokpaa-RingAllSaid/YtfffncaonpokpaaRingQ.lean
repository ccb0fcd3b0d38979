/- The statements' step, whatever its kind. -/
import Derived.Test.YtfffncaonpokpaaRingO
namespace Go.Proofs.Ytfffncaonpokpaa
open Go.RowKit

theorem step12 {p g size : Nat} {v : Value} {xs : List Int} (kind N : Int) (w : World) (hI : IsRing w p g size xs) (hL : Lst w p g v xs) :
    Calls Try.prog 41 #[.pointer (some ⟨p, 0, none⟩), v, .int .i64 size, .agg #[.int .i64 kind, .int .i64 N]] w (StepPost size p g w) := by
  have hL0 := hL
  obtain ⟨A, c, rfl, hc, _⟩ := hL0
  have hle := hI.len_le
  by_cases h1 : kind = 1
  · subst h1
    by_cases hf : xs.length = size
    · exact step12_push_no N w hI hL hf
    · exact step12_push_yes N w hI hL (by omega)
  by_cases h2 : kind = 2
  · subst h2
    by_cases hN : N < 1 ∨ (xs.length : Int) < N
    · exact step12_shift_no N w hI hL hN
    · obtain ⟨n, rfl⟩ : ∃ n : Nat, N = n := ⟨N.toNat, by omega⟩
      exact step12_shift_yes n w hI hL (by omega)
  by_cases h3 : kind = 3
  · subst h3
    by_cases hN : N < 0 ∨ (xs.length : Int) < N
    · exact step12_cut_no N w hI hL hN
    · obtain ⟨n, rfl⟩ : ∃ n : Nat, N = n := ⟨N.toNat, by omega⟩
      exact step12_cut_yes n w hI hL (by omega)
  by_cases h4 : kind = 4
  · subst h4
    exact step12_copy N w hI hL
  by_cases hN : N < 0 ∨ (xs.length : Int) ≤ N
  · exact step12_at_no kind N w hI hL ⟨h1, h2, h3, h4⟩ hN
  · obtain ⟨n, rfl⟩ : ∃ n : Nat, N = n := ⟨N.toNat, by omega⟩
    exact step12_at_yes kind n w hI hL ⟨h1, h2, h3, h4⟩ (by omega)

end Go.Proofs.Ytfffncaonpokpaa
