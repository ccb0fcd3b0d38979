/- LineOrder: for any arguments. -/
import Derived.Test.YtfffncaonpokpaaLineOrd
namespace Go.Proofs.Ytfffncaonpokpaa
open Go.RowKit

set_option maxRecDepth 100000 in
set_option maxHeartbeats 4000000 in
theorem lineOrder_out (most : Int) (A : Option Addr) (cap : Nat) (rows : List (List Int)) (stop : Int) (w : World) (hg : 100 < (rows.length : Int) ∨ most < 1 ∨ 32 < most ∨ stop < 1) :
    Calls Try.prog 10 #[.int .i64 most, .slice A rows.length cap, .int .i64 stop] w fun e w' => e = .returned (.bool true) ∧ Below w.heap.size w w' := by
  have bR := Boxed.new (w.alloc (.cells #[.int .i64 stop] 3)) 4 (.bool false)
  rw [World.size_alloc] at bR
  have hB : Below w.heap.size w ((w.alloc (.cells #[.int .i64 stop] 3)).alloc (.cells #[.bool false] 4)) := ((Below.refl _ w).alloc (Nat.le_refl _) _).alloc (by simp) _
  by_cases h1 : 100 < (rows.length : Int)
  · go_enter Try.func10, Try.ntmps10
    go_wp2_with fail
    refine (awake24 _).mono ?_
    rintro e w5 ⟨rfl, hb5⟩
    have br5 : Boxed w5 (w.heap.size + 1) 4 (.bool false) := (hb5.block _ (by simp)).trans bR
    have d5 := br5.cell
    have z5 := br5.frozen
    have hb6 : Below w.heap.size w w5 := hB.trans (hb5.mono (by simp; omega))
    go_wp2
    have c6 := (br5.set (.bool true)).cell
    refine bodyPost_ret (by simp [results, go_sem, c6]; rfl) rfl ?_
    exact ⟨rfl, hb6.setCell (p := ⟨w.heap.size + 1, 0, none⟩) (by dsimp only; omega) _⟩
  by_cases h2 : most < 1
  · go_enter Try.func10, Try.ntmps10
    go_wp2_with fail
    refine (awake24 _).mono ?_
    rintro e w5 ⟨rfl, hb5⟩
    have br5 : Boxed w5 (w.heap.size + 1) 4 (.bool false) := (hb5.block _ (by simp)).trans bR
    have d5 := br5.cell
    have z5 := br5.frozen
    have hb6 : Below w.heap.size w w5 := hB.trans (hb5.mono (by simp; omega))
    go_wp2
    have c6 := (br5.set (.bool true)).cell
    refine bodyPost_ret (by simp [results, go_sem, c6]; rfl) rfl ?_
    exact ⟨rfl, hb6.setCell (p := ⟨w.heap.size + 1, 0, none⟩) (by dsimp only; omega) _⟩
  by_cases h3 : 32 < most
  · go_enter Try.func10, Try.ntmps10
    go_wp2_with fail
    refine (awake24 _).mono ?_
    rintro e w5 ⟨rfl, hb5⟩
    have br5 : Boxed w5 (w.heap.size + 1) 4 (.bool false) := (hb5.block _ (by simp)).trans bR
    have d5 := br5.cell
    have z5 := br5.frozen
    have hb6 : Below w.heap.size w w5 := hB.trans (hb5.mono (by simp; omega))
    go_wp2
    have c6 := (br5.set (.bool true)).cell
    refine bodyPost_ret (by simp [results, go_sem, c6]; rfl) rfl ?_
    exact ⟨rfl, hb6.setCell (p := ⟨w.heap.size + 1, 0, none⟩) (by dsimp only; omega) _⟩
  by_cases h4 : stop < 1
  · go_enter Try.func10, Try.ntmps10
    go_wp2_with fail
    refine (awake24 _).mono ?_
    rintro e w5 ⟨rfl, hb5⟩
    have br5 : Boxed w5 (w.heap.size + 1) 4 (.bool false) := (hb5.block _ (by simp)).trans bR
    have d5 := br5.cell
    have z5 := br5.frozen
    have hb6 : Below w.heap.size w w5 := hB.trans (hb5.mono (by simp; omega))
    go_wp2
    have c6 := (br5.set (.bool true)).cell
    refine bodyPost_ret (by simp [results, go_sem, c6]; rfl) rfl ?_
    exact ⟨rfl, hb6.setCell (p := ⟨w.heap.size + 1, 0, none⟩) (by dsimp only; omega) _⟩
  omega

theorem lineOrder_any (most : Int) (A : Option Addr) (cap : Nat) (rows : List (List Int)) (stop : Int) (w : World) (_hm : (Lit.int .i64 most).wf = true)
    (h : ∀ i, i < rows.length → ∃ b off, A = some ⟨b, off, none⟩ ∧ b < w.heap.size ∧ ∀ j, j < 2 →
      w.cell? ⟨b, off + (i * 2 + j), none⟩ = some (.int .i64 ((rows[i]?.getD [])[j]?.getD 0)) ∧ (Lit.int .i64 ((rows[i]?.getD [])[j]?.getD 0)).wf = true) (_hc : rows.length ≤ cap) (_hs : (Lit.int .i64 stop).wf = true) :
    Calls Try.prog 10 #[.int .i64 most, .slice A rows.length cap, .int .i64 stop] w fun e w' => e = .returned (.bool true) ∧ Below w.heap.size w w' := by
  have hops : CallsAt24 w A rows := fun i hi => by
    obtain ⟨b, off, h1, h2, h3⟩ := h i hi
    exact ⟨b, off, h1, h2, by have := (h3 0 (by omega)).1; simpa using this, by have := (h3 1 (by omega)).1; simpa [Nat.add_assoc] using this⟩
  clear h
  by_cases hg : 100 < (rows.length : Int) ∨ most < 1 ∨ 32 < most ∨ stop < 1
  · exact lineOrder_out most A cap rows stop w hg
  obtain ⟨t, rfl⟩ : ∃ t : Nat, stop = t := ⟨stop.toNat, by omega⟩
  exact lineOrder_walk most A cap t rows w (by omega) (by omega) (by omega) (by omega) hops

end Go.Proofs.Ytfffncaonpokpaa
