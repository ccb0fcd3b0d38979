/- The statements' step on a line, whatever its kind; conditions as in LineP. -/
import Derived.Test.YtfffncaonpokpaaLineZ
import Derived.Test.YtfffncaonpokpaaLineS
namespace Go.Proofs.Ytfffncaonpokpaa
open Go.RowKit

theorem step24 {p B : Nat} {r : Option Nat} {v1 v2 : Value} {most : Int} {xs ys : List Int} (kind N : Int) (w : World) (hI : IsLineR w p B r most (xs ++ ys) xs.length) (h1 : Lst w p (rowOr p r) v1 xs) (h2 : Lst w p (rowOr p r) v2 ys) (hm : most ≤ 32) :
    Calls Try.prog 37 #[.pointer (some ⟨p, 0, none⟩), v1, v2, .int .i64 most, .agg #[.int .i64 kind, .int .i64 N]] w (StepL p B r most w) := by
  have hle := hI.le
  have hml : xs.length + ys.length ≤ 32 := by rw [List.length_append] at hle; omega
  have h10 := h1
  have h20 := h2
  obtain ⟨A1, c1, rfl, _⟩ := h10
  obtain ⟨A2, c2, rfl, _⟩ := h20
  by_cases k1 : kind = 1
  · subst k1
    by_cases hf : ((xs ++ ys).length : Int) = most
    · exact step24_add_no N w hI h1 h2 hml hf
    · exact step24_add_yes N w hI h1 h2 hml hf
  by_cases k2 : kind = 2
  · subst k2
    by_cases hf : ys.length = 0
    · exact step24_start_no N w hI h1 h2 hml hf
    · exact step24_start_yes N w hI h1 h2 hml (by omega)
  by_cases k3 : kind = 3
  · subst k3
    by_cases hf : xs.length = 0
    · exact step24_stop_no N w hI h1 h2 hml hf
    · exact step24_stop_yes N (xs.length - 1) w hI h1 h2 hml (by omega)
  by_cases k4 : kind = 4
  · subst k4
    by_cases hN : N < 0 ∨ ((xs ++ ys).length : Int) ≤ N
    · exact step24_remove_no N w hI h1 h2 hml hN
    · rw [List.length_append] at hN
      by_cases hr : N < xs.length
      · obtain ⟨n, rfl⟩ : ∃ n : Nat, N = n := ⟨N.toNat, by omega⟩
        exact step24_remove_run n w hI h1 h2 hml (by omega)
      · obtain ⟨n, rfl⟩ : ∃ n : Nat, N = n := ⟨N.toNat, by omega⟩
        exact step24_remove_wait n (n - xs.length) w hI h1 h2 hml (by omega) (by omega)
  by_cases hN : N < 0 ∨ ((xs ++ ys).length : Int) ≤ N
  · exact step24_at_no kind N w hI h1 h2 hml ⟨k1, k2, k3, k4⟩ hN
  · obtain ⟨n, rfl⟩ : ∃ n : Nat, N = n := ⟨N.toNat, by omega⟩
    exact step24_at_yes kind n w hI h1 h2 hml ⟨k1, k2, k3, k4⟩ (by omega)

theorem same24n (w : World) (A A' : Option Addr) (c c' n n' : Nat) (xs : List Int) (hn : n = xs.length) (hn' : n' = xs.length) (hx : IntsAt w A xs) (hy : IntsAt w A' xs) (hl : xs.length ≤ 1000000) :
    Calls Try.prog 38 #[.slice A n c, .slice A' n' c'] w fun e w' => e = .returned (.bool true) ∧ ∃ n, w.drewN n = w' := by
  subst hn
  subst hn'
  exact same24 w A A' c c' xs hx hy hl

end Go.Proofs.Ytfffncaonpokpaa
