/- RingPlays: the walk; no condition but that the calls can be read. -/
import Derived.Test.YtfffncaonpokpaaRingQ
namespace Go.Proofs.Ytfffncaonpokpaa
open Go.RowKit

/-- a slice of calls, each of two numbers, that came in -/
def CallsAt (w : World) (A : Option Addr) (ops : List (List Int)) : Prop :=
  ∀ i, i < ops.length → ∃ b off, A = some ⟨b, off, none⟩ ∧ b < w.heap.size ∧ w.cell? ⟨b, off + i * 2, none⟩ = some (.int .i64 ((ops[i]?.getD [])[0]?.getD 0)) ∧ w.cell? ⟨b, off + i * 2 + 1, none⟩ = some (.int .i64 ((ops[i]?.getD [])[1]?.getD 0))

set_option maxRecDepth 100000 in
set_option maxHeartbeats 4000000 in
theorem ringPlays_in (size : Nat) (A : Option Addr) (cap : Nat) (ops : List (List Int)) (w : World) (h24 : size ≤ 1024) (h80 : ops.length ≤ 80) (hops : CallsAt w A ops) :
    Calls Try.prog 11 #[.int .i64 size, .slice A ops.length cap] w fun e w' => e = .returned (.bool true) ∧ Below w.heap.size w w' := by
  have f1 : ¬ ((size : Int) < 0) := by omega
  have f2 : ¬ (1024 < (size : Int)) := by omega
  have f3 : ¬ (80 < (ops.length : Int)) := by omega
  go_enter Try.func11, Try.ntmps11
  go_wp2_with fail
  refine (ring_new_ok size (by omega) _).mono ?_
  rintro e w1 ⟨p, g, rfl, hp, hg, hI1, hb1⟩
  go_wp2_with fail
  go_loopw [43, 5, 7] (fun i r v wr => ∃ (k p g : Nat) (xs : List Int), k ≤ ops.length ∧ i = .int .i64 k ∧ r = .pointer (some ⟨p, 0, none⟩) ∧ Lst wr p g v xs ∧ IsRing wr p g size xs ∧ w.heap.size ≤ p ∧ w.heap.size ≤ g ∧ Below w.heap.size w wr) (fun i _ _ _ => ops.length - (intOf i).toNat)
  case atStart => exact ⟨0, p, g, [], by omega, rfl, rfl, ⟨none, 0, rfl, Nat.le_refl _, fun h => by simp at h⟩, hI1, hp, hg, hb1⟩
  case round =>
    obtain ⟨k, p, g, xs, hk, rfl, rfl, hL, hI, hp, hg, hb⟩ := hrel
    by_cases hlt : k < ops.length
    · obtain ⟨b, off, rfl, hbl, hc0, hc1⟩ := hops k hlt
      have hd0 := (hb.cell (p := ⟨b, off + k * 2, none⟩) hbl).trans hc0
      have hd1 := (hb.cell (p := ⟨b, off + k * 2 + 1, none⟩) hbl).trans hc1
      generalize (ops[k]?.getD [])[0]?.getD 0 = kind at hd0
      generalize (ops[k]?.getD [])[1]?.getD 0 = N at hd1
      clear hc0 hc1 hops
      have hba := (Below.refl wr.heap.size wr).alloc (Nat.le_refl _) (.cells #[.int .i64 kind, .int .i64 N] 66)
      have hIa := hI.below hba (Nat.le_refl _)
      have hLa := hL.below hba
      have hbb := hb.trans (hba.mono hb.size)
      have hsa := hbb.size
      go_wp2_with fail
      refine (step12 kind N _ hIa hLa).mono ?_
      rintro e w2 ⟨p', g', v', ys, rfl, hI2, hL2, hpg2, ho2⟩
      have hb2 := Only.below (B := w.heap.size) ho2 hsa (by simp; omega)
      have hp2 : w.heap.size ≤ p' := by omega
      have hg2 : w.heap.size ≤ g' := by omega
      have hL3 := hL2
      obtain ⟨A', c', rfl, hc, _⟩ := hL3
      have hb3 := hbb.trans hb2
      go_wp2_with fail
      refine (ring_len _ hI2).mono ?_
      rintro e w3 ⟨rfl, rfl⟩
      go_wp2_with fail
      refine (ring_size _ hI2).mono ?_
      rintro e w3 ⟨rfl, rfl⟩
      go_wp2_with fail
      refine (list12 _ hI2).mono ?_
      rintro e w4 ⟨v4, rfl, hv4, hb4⟩
      obtain ⟨A4, c4, rfl, _⟩ := own_form hv4
      have hle := hI2.len_le
      go_wp2_with fail
      refine (same12 w4 A4 A' c4 c' ys (intsAt_own hv4) (hL2.below hb4).at_ (by omega)).mono ?_
      rintro e w5 ⟨rfl, n5, rfl⟩
      go_wp2
      go_roundw
      case rel => exact ⟨k + 1, p', g', ys, by omega, by go_num, rfl, (hL2.below hb4).drewN n5, (hI2.below hb4 (Nat.le_refl _)).drewN n5, hp2, hg2, below_drewN (hb3.trans (hb4.mono hb3.size)) n5⟩
      case measure => simp [intOf]; omega
    · obtain rfl : k = ops.length := by omega
      go_wp2_with (go_at_call 23; refine (awake12 _).mono ?_; rintro e w' ⟨rfl, hb'⟩)
      go_ret
      exact ⟨rfl, hb.trans (hb'.mono hb.size)⟩

set_option maxRecDepth 100000 in
set_option maxHeartbeats 4000000 in
theorem ringPlays_any (size : Int) (A : Option Addr) (cap : Nat) (rows : List (List Int)) (w : World) (_hm : (Lit.int .i64 size).wf = true)
    (h : ∀ i, i < rows.length → ∃ b off, A = some ⟨b, off, none⟩ ∧ b < w.heap.size ∧ ∀ j, j < 2 →
      w.cell? ⟨b, off + (i * 2 + j), none⟩ = some (.int .i64 ((rows[i]?.getD [])[j]?.getD 0)) ∧ (Lit.int .i64 ((rows[i]?.getD [])[j]?.getD 0)).wf = true) (_hc : rows.length ≤ cap) :
    Calls Try.prog 11 #[.int .i64 size, .slice A rows.length cap] w fun e w' => e = .returned (.bool true) ∧ Below w.heap.size w w' := by
  have hops : CallsAt w A rows := fun i hi => by
    obtain ⟨b, off, h1, h2, h3⟩ := h i hi
    exact ⟨b, off, h1, h2, by have := (h3 0 (by omega)).1; simpa using this, by have := (h3 1 (by omega)).1; simpa [Nat.add_assoc] using this⟩
  clear h
  by_cases h80 : 80 < (rows.length : Int)
  · go_enter Try.func11, Try.ntmps11
    go_wp2_with (go_at_call 23; refine (awake12 _).mono ?_; rintro e w' ⟨rfl, hb'⟩)
    go_ret
    exact ⟨rfl, hb'⟩
  by_cases h1 : size < 0
  · go_enter Try.func11, Try.ntmps11
    go_wp2_with fail
    refine (ring_new_no size (.inl h1) _).mono ?_
    rintro e w1 ⟨rfl, rfl⟩
    go_wp2_with (go_at_call 23; refine (awake12 _).mono ?_; rintro e w' ⟨rfl, hb'⟩)
    go_ret
    exact ⟨rfl, hb'⟩
  by_cases h2 : 1024 < size
  · go_enter Try.func11, Try.ntmps11
    go_wp2_with fail
    refine (ring_new_no size (.inr h2) _).mono ?_
    rintro e w1 ⟨rfl, rfl⟩
    go_wp2_with (go_at_call 23; refine (awake12 _).mono ?_; rintro e w' ⟨rfl, hb'⟩)
    go_ret
    exact ⟨rfl, hb'⟩
  obtain ⟨s, rfl⟩ : ∃ s : Nat, size = s := ⟨size.toNat, by omega⟩
  exact ringPlays_in s A cap rows w (by omega) (by omega) hops

end Go.Proofs.Ytfffncaonpokpaa
