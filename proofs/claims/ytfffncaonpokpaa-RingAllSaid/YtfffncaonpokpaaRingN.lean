/- The statements' step, kind by kind (all but Push); conditions: the ring is one, the list can be read and lies apart from the ring. -/
import Derived.Test.YtfffncaonpokpaaRingM
namespace Go.Proofs.Ytfffncaonpokpaa
open Go.RowKit
attribute [local go_sem] sliced_cut

theorem stepPost_tuple {size p g p' g' : Nat} {w w' : World} {v' : Value} {ys : List Int} (hI : IsRing w' p' g' size ys) (hL : Lst w' p' g' v' ys) (hp : p' = p ∧ g' = g ∨ w.heap.size ≤ p' ∧ w.heap.size ≤ g') (ho : Only [p, g] w w') : StepPost size p g w (.returned (.tuple #[.pointer (some ⟨p', 0, none⟩), v', .bool true])) w' := ⟨p', g', v', ys, rfl, hI, hL, hp, ho⟩

set_option maxRecDepth 100000 in
set_option maxHeartbeats 2000000 in
theorem step12_shift_no {p g size c : Nat} {A : Option Addr} {xs : List Int} (N : Int) (w : World) (hI : IsRing w p g size xs) (hL : Lst w p g (.slice A xs.length c) xs) (hN : N < 1 ∨ (xs.length : Int) < N) :
    Calls Try.prog 41 #[.pointer (some ⟨p, 0, none⟩), .slice A xs.length c, .int .i64 size, .agg #[.int .i64 2, .int .i64 N]] w (StepPost size p g w) := by
  have hB0 : Below w.heap.size w (w.alloc (.cells #[.int .i64 2, .int .i64 N] 66)) := (Below.refl w.heap.size w).alloc (Nat.le_refl _) _
  have hb0 : Only [p, g] w (w.alloc (.cells #[.int .i64 2, .int .i64 N] 66)) := Only.of_below hB0
  have hL0 := hL.below hB0
  have hI0 := hI.below hB0 (Nat.le_refl _)
  have hlt := hI.lt
  have hs0 : (w.alloc (.cells #[.int .i64 2, .int .i64 N] 66)).heap.size = w.heap.size + 1 := by simp
  have hbx : Blk (w.alloc (.cells #[.int .i64 2, .int .i64 N] 66)) w.heap.size 66 #[.int .i64 2, .int .i64 N] := Blk.new _ _ _
  rcases hN with hN | hN
  · go_enter Try.func41, Try.ntmps41
    go_wp2_with fail
    refine (ring_shift_no _ hI0 N (.inl hN)).mono ?_
    rintro e w1 ⟨rfl, hb1⟩
    have hc := (hbx.below hb1 (by omega)).cell 1
    simp at hc
    go_wp2_with fail
    go_ret3
    exact stepPost_tuple (hI0.below hb1 (Nat.le_refl _)) (hL0.below hb1) (.inl ⟨rfl, rfl⟩) (hb0.trans (Only.of_below hb1))
  · have hN1 : ¬ N < 1 := by omega
    go_enter Try.func41, Try.ntmps41
    go_wp2_with fail
    refine (ring_shift_no _ hI0 N (.inr hN)).mono ?_
    rintro e w1 ⟨rfl, hb1⟩
    have hc := (hbx.below hb1 (by omega)).cell 1
    simp at hc
    go_wp2_with fail
    go_ret3
    exact stepPost_tuple (hI0.below hb1 (Nat.le_refl _)) (hL0.below hb1) (.inl ⟨rfl, rfl⟩) (hb0.trans (Only.of_below hb1))

set_option maxRecDepth 100000 in
set_option maxHeartbeats 2000000 in
theorem step12_shift_yes {p g size c : Nat} {A : Option Addr} {xs : List Int} (n : Nat) (w : World) (hI : IsRing w p g size xs) (hL : Lst w p g (.slice A xs.length c) xs) (hn : 1 ≤ n ∧ n ≤ xs.length) :
    Calls Try.prog 41 #[.pointer (some ⟨p, 0, none⟩), .slice A xs.length c, .int .i64 size, .agg #[.int .i64 2, .int .i64 n]] w (StepPost size p g w) := by
  have hB0 : Below w.heap.size w (w.alloc (.cells #[.int .i64 2, .int .i64 n] 66)) := (Below.refl w.heap.size w).alloc (Nat.le_refl _) _
  have hb0 : Only [p, g] w (w.alloc (.cells #[.int .i64 2, .int .i64 n] 66)) := Only.of_below hB0
  have hL0 := hL.below hB0
  have hI0 := hI.below hB0 (Nat.le_refl _)
  have hlt := hI.lt
  have hs0 : (w.alloc (.cells #[.int .i64 2, .int .i64 n] 66)).heap.size = w.heap.size + 1 := by simp
  have hbx : Blk (w.alloc (.cells #[.int .i64 2, .int .i64 n] 66)) w.heap.size 66 #[.int .i64 2, .int .i64 n] := Blk.new _ _ _
  have hN1 : ¬ (n : Int) < 1 := by omega
  have hN2 : ¬ (xs.length : Int) < (n : Int) := by omega
  obtain ⟨_, _, _, hlc, _⟩ := hL
  go_enter Try.func41, Try.ntmps41
  go_wp2_with fail
  refine (ring_shift_yes _ hI0 n (by omega) (by omega)).mono ?_
  rintro e w1 ⟨v1, rfl, hv1, hI1, ho1⟩
  have hc := (ho1.blk hbx (by simp; omega)).cell 1
  simp at hc
  obtain ⟨A1, c1, rfl, _⟩ := own_form hv1
  have hl : (xs.take n).length = n := by simp; omega
  have hv2 := hv1
  have hL1 := hL0.keep ho1 (by simp)
  have HS : Hid (∀ q, Calls Try.prog 43 #[.slice A1 n c1, .slice A n c] (w1.drewN q) fun e w' => e = .returned (.bool true) ∧ ∃ n, (w1.drewN q).drewN n = w') := fun q => by
    have h1 := intsAt_own hv1
    have h2 : Lst w1 p g (.slice A (xs.take n).length c) (xs.take n) := by rw [hl]; exact hL1.take_ hn.2
    have := same12 (w1.drewN q) A1 A c1 c (xs.take n) h1 h2.at_ (by have := hI.1; have := hI.len_le; omega)
    rw [hl] at this
    exact this
  clear hl hv2
  go_wp2_with fail
  go_quiet ((go_at_call 43; exact quiet_ex (HS.out _)))
  go_wp2_with fail
  · have hd := hL1.drop_ hn.2
    rw [cutA_def, if_pos (by omega), show c - n = 0 by omega] at hd
    go_ret3
    exact stepPost_tuple (hI1.drewN nq) (hd.drewN nq) (.inl ⟨rfl, rfl⟩) ((hb0.trans ho1).drewN nq)
  · have hd := hL1.drop_ hn.2
    rw [cutA_def, if_neg (by omega), Nat.mul_one] at hd
    go_ret3
    exact stepPost_tuple (hI1.drewN nq) (hd.drewN nq) (.inl ⟨rfl, rfl⟩) ((hb0.trans ho1).drewN nq)

set_option maxRecDepth 100000 in
set_option maxHeartbeats 2000000 in
theorem step12_cut_no {p g size c : Nat} {A : Option Addr} {xs : List Int} (N : Int) (w : World) (hI : IsRing w p g size xs) (hL : Lst w p g (.slice A xs.length c) xs) (hN0 : N < 0 ∨ (xs.length : Int) < N) :
    Calls Try.prog 41 #[.pointer (some ⟨p, 0, none⟩), .slice A xs.length c, .int .i64 size, .agg #[.int .i64 3, .int .i64 N]] w (StepPost size p g w) := by
  have hB0 : Below w.heap.size w (w.alloc (.cells #[.int .i64 3, .int .i64 N] 66)) := (Below.refl w.heap.size w).alloc (Nat.le_refl _) _
  have hb0 : Only [p, g] w (w.alloc (.cells #[.int .i64 3, .int .i64 N] 66)) := Only.of_below hB0
  have hL0 := hL.below hB0
  have hI0 := hI.below hB0 (Nat.le_refl _)
  have hlt := hI.lt
  have hs0 : (w.alloc (.cells #[.int .i64 3, .int .i64 N] 66)).heap.size = w.heap.size + 1 := by simp
  have hbx : Blk (w.alloc (.cells #[.int .i64 3, .int .i64 N] 66)) w.heap.size 66 #[.int .i64 3, .int .i64 N] := Blk.new _ _ _
  rcases hN0 with hN | hN
  · have hN0 : N < 0 ∨ (xs.length : Int) < N := .inl hN
    go_enter Try.func41, Try.ntmps41
    go_wp2_with fail
    refine (ring_cut_no _ hI0 N hN0).mono ?_
    rintro e w1 ⟨rfl, rfl⟩
    go_wp2_with fail
    go_ret3
    exact stepPost_tuple hI0 hL0 (.inl ⟨rfl, rfl⟩) hb0
  · have hN0 : N < 0 ∨ (xs.length : Int) < N := .inr hN
    have hN1 : ¬ N < 0 := by omega
    go_enter Try.func41, Try.ntmps41
    go_wp2_with fail
    refine (ring_cut_no _ hI0 N hN0).mono ?_
    rintro e w1 ⟨rfl, rfl⟩
    go_wp2_with fail
    go_ret3
    exact stepPost_tuple hI0 hL0 (.inl ⟨rfl, rfl⟩) hb0

set_option maxRecDepth 100000 in
set_option maxHeartbeats 2000000 in
theorem step12_cut_yes {p g size c : Nat} {A : Option Addr} {xs : List Int} (n : Nat) (w : World) (hI : IsRing w p g size xs) (hL : Lst w p g (.slice A xs.length c) xs) (hn : n ≤ xs.length) :
    Calls Try.prog 41 #[.pointer (some ⟨p, 0, none⟩), .slice A xs.length c, .int .i64 size, .agg #[.int .i64 3, .int .i64 n]] w (StepPost size p g w) := by
  have hB0 : Below w.heap.size w (w.alloc (.cells #[.int .i64 3, .int .i64 n] 66)) := (Below.refl w.heap.size w).alloc (Nat.le_refl _) _
  have hb0 : Only [p, g] w (w.alloc (.cells #[.int .i64 3, .int .i64 n] 66)) := Only.of_below hB0
  have hL0 := hL.below hB0
  have hI0 := hI.below hB0 (Nat.le_refl _)
  have hlt := hI.lt
  have hs0 : (w.alloc (.cells #[.int .i64 3, .int .i64 n] 66)).heap.size = w.heap.size + 1 := by simp
  have hbx : Blk (w.alloc (.cells #[.int .i64 3, .int .i64 n] 66)) w.heap.size 66 #[.int .i64 3, .int .i64 n] := Blk.new _ _ _
  have hN1 : ¬ (n : Int) < 0 := by omega
  have hN2 : ¬ (xs.length : Int) < (n : Int) := by omega
  obtain ⟨_, _, _, hlc, _⟩ := hL
  go_enter Try.func41, Try.ntmps41
  go_wp2_with fail
  refine (ring_cut_yes _ hI0 n hn).mono ?_
  rintro e w1 ⟨rfl, hI1, ho1⟩
  have hc := (ho1.blk hbx (by simp; omega)).cell 1
  simp at hc
  have hL1 := hL0.keep ho1 (by simp)
  have hl : (xs.take n).length = n := by simp; omega
  have hd : Lst w1 p g (.slice A n c) (xs.take n) := hL1.take_ hn
  go_wp2_with fail
  go_quiet (fail)
  go_wp2_with fail
  all_goals go_ret3
  all_goals exact stepPost_tuple (hI1.drewN nq) (hd.drewN nq) (.inl ⟨rfl, rfl⟩) ((hb0.trans ho1).drewN nq)

set_option maxHeartbeats 1000000 in
theorem ring_at_no {p g size : Nat} {xs : List Int} (w : World) (h : IsRing w p g size xs) (k : Int) (hk : k < 0 ∨ (xs.length : Int) ≤ k) :
    Calls Try.prog 50 #[.pointer (some ⟨p, 0, none⟩), .int .i64 k] w fun e w' => e = .returned (.tuple #[.int .i64 0, .bool false]) ∧ w = w' := by
  obtain ⟨cap, first, h0, h1, h2, _, hcap, hx⟩ := h.at_
  clear hx
  rcases hk with hk | hk
  · go_enter Try.func50, Try.ntmps50
    go_wp2
    go_ret2
    exact ⟨rfl, rfl⟩
  · have hk0 : ¬ k < 0 := by omega
    go_enter Try.func50, Try.ntmps50
    go_wp2
    go_ret2
    exact ⟨rfl, rfl⟩

set_option maxRecDepth 100000 in
set_option maxHeartbeats 2000000 in
theorem step12_at_no {p g size c : Nat} {A : Option Addr} {xs : List Int} (kind N : Int) (w : World) (hI : IsRing w p g size xs) (hL : Lst w p g (.slice A xs.length c) xs) (hk : kind ≠ 1 ∧ kind ≠ 2 ∧ kind ≠ 3 ∧ kind ≠ 4) (hN0 : N < 0 ∨ (xs.length : Int) ≤ N) :
    Calls Try.prog 41 #[.pointer (some ⟨p, 0, none⟩), .slice A xs.length c, .int .i64 size, .agg #[.int .i64 kind, .int .i64 N]] w (StepPost size p g w) := by
  have hB0 : Below w.heap.size w (w.alloc (.cells #[.int .i64 kind, .int .i64 N] 66)) := (Below.refl w.heap.size w).alloc (Nat.le_refl _) _
  have hb0 : Only [p, g] w (w.alloc (.cells #[.int .i64 kind, .int .i64 N] 66)) := Only.of_below hB0
  have hL0 := hL.below hB0
  have hI0 := hI.below hB0 (Nat.le_refl _)
  have hlt := hI.lt
  have hs0 : (w.alloc (.cells #[.int .i64 kind, .int .i64 N] 66)).heap.size = w.heap.size + 1 := by simp
  have hbx : Blk (w.alloc (.cells #[.int .i64 kind, .int .i64 N] 66)) w.heap.size 66 #[.int .i64 kind, .int .i64 N] := Blk.new _ _ _
  obtain ⟨k1, k2, k3, k4⟩ := hk
  have hN0' := hN0
  rcases hN0 with hN | hN
  · go_enter Try.func41, Try.ntmps41
    go_wp2_with fail
    refine (ring_at_no _ hI0 N hN0').mono ?_
    rintro e w1 ⟨rfl, rfl⟩
    go_wp2_with fail
    go_ret3
    exact stepPost_tuple hI0 hL0 (.inl ⟨rfl, rfl⟩) hb0
  · have hN1 : ¬ N < 0 := by omega
    go_enter Try.func41, Try.ntmps41
    go_wp2_with fail
    refine (ring_at_no _ hI0 N hN0').mono ?_
    rintro e w1 ⟨rfl, rfl⟩
    go_wp2_with fail
    go_ret3
    exact stepPost_tuple hI0 hL0 (.inl ⟨rfl, rfl⟩) hb0

set_option maxRecDepth 100000 in
set_option maxHeartbeats 2000000 in
theorem step12_at_yes {p g size c : Nat} {A : Option Addr} {xs : List Int} (kind : Int) (n : Nat) (w : World) (hI : IsRing w p g size xs) (hL : Lst w p g (.slice A xs.length c) xs) (hk : kind ≠ 1 ∧ kind ≠ 2 ∧ kind ≠ 3 ∧ kind ≠ 4) (hn : n < xs.length) :
    Calls Try.prog 41 #[.pointer (some ⟨p, 0, none⟩), .slice A xs.length c, .int .i64 size, .agg #[.int .i64 kind, .int .i64 n]] w (StepPost size p g w) := by
  have hB0 : Below w.heap.size w (w.alloc (.cells #[.int .i64 kind, .int .i64 n] 66)) := (Below.refl w.heap.size w).alloc (Nat.le_refl _) _
  have hb0 : Only [p, g] w (w.alloc (.cells #[.int .i64 kind, .int .i64 n] 66)) := Only.of_below hB0
  have hL0 := hL.below hB0
  have hI0 := hI.below hB0 (Nat.le_refl _)
  have hlt := hI.lt
  have hs0 : (w.alloc (.cells #[.int .i64 kind, .int .i64 n] 66)).heap.size = w.heap.size + 1 := by simp
  have hbx : Blk (w.alloc (.cells #[.int .i64 kind, .int .i64 n] 66)) w.heap.size 66 #[.int .i64 kind, .int .i64 n] := Blk.new _ _ _
  obtain ⟨k1, k2, k3, k4⟩ := hk
  have hN1 : ¬ (n : Int) < 0 := by omega
  have hN2 : ¬ (xs.length : Int) ≤ (n : Int) := by omega
  obtain ⟨b, off, rfl, hbl, hcl⟩ := hL0.at_ n hn
  have hAt := ring_at_yes _ hI0 n hn
  generalize xs[n]?.getD 0 = z at hcl hAt
  go_enter Try.func41, Try.ntmps41
  go_wp2_with fail
  refine hAt.mono ?_
  rintro e w1 ⟨rfl, n1, rfl⟩
  have m1 : (0 : Int) ≤ (n : Int) := by omega
  have m2 : (n : Int) < (xs.length : Int) := by omega
  go_wp2_with fail
  go_quiet (fail)
  go_wp2_with fail
  go_ret3
  exact stepPost_tuple ((hI0.drewN n1).drewN nq) ((hL0.drewN n1).drewN nq) (.inl ⟨rfl, rfl⟩) ((hb0.drewN n1).drewN nq)

set_option maxRecDepth 100000 in
set_option maxHeartbeats 2000000 in
theorem step12_copy {p g size c : Nat} {A : Option Addr} {xs : List Int} (N : Int) (w : World) (hI : IsRing w p g size xs) (hL : Lst w p g (.slice A xs.length c) xs) :
    Calls Try.prog 41 #[.pointer (some ⟨p, 0, none⟩), .slice A xs.length c, .int .i64 size, .agg #[.int .i64 4, .int .i64 N]] w (StepPost size p g w) := by
  have hB0 : Below w.heap.size w (w.alloc (.cells #[.int .i64 4, .int .i64 N] 66)) := (Below.refl w.heap.size w).alloc (Nat.le_refl _) _
  have hb0 : Only [p, g] w (w.alloc (.cells #[.int .i64 4, .int .i64 N] 66)) := Only.of_below hB0
  have hL0 := hL.below hB0
  have hI0 := hI.below hB0 (Nat.le_refl _)
  have hlt := hI.lt
  have hs0 : (w.alloc (.cells #[.int .i64 4, .int .i64 N] 66)).heap.size = w.heap.size + 1 := by simp
  have hbx : Blk (w.alloc (.cells #[.int .i64 4, .int .i64 N] 66)) w.heap.size 66 #[.int .i64 4, .int .i64 N] := Blk.new _ _ _
  go_enter Try.func41, Try.ntmps41
  go_wp2_with fail
  refine (ring_copy _ hI0).mono ?_
  rintro e w1 ⟨p', g', rfl, hp', hg', hIc, hb1⟩
  have hI1 := hI0.below hb1 (Nat.le_refl _)
  have hL1 := hL0.below hb1
  have hs1 := hb1.size
  have hlt1 := hIc.lt
  have hbb1 : Only [p, g] w w1 := hb0.trans (Only.of_below hb1)
  have fin : ∀ w5, Only [p, g] w1 w5 → StepPost size p g w (.returned (.tuple #[.pointer (some ⟨p', 0, none⟩), .slice A xs.length c, .bool true])) w5 := fun w5 ho =>
    stepPost_tuple (hIc.only ho (by simp; omega) (by simp; omega)) ((((hL.move (p' := p') (g' := g') (by omega) (by omega)).below (hB0.trans (hb1.mono (by omega)))).keep' ho hL1)) (.inr ⟨by omega, by omega⟩) (hbb1.trans ho)
  go_wp2_with fail
  by_cases hx : xs = []
  · subst hx
    refine (ring_shift_no _ hI1 1 (by simp)).mono ?_
    rintro e w2 ⟨rfl, hb2⟩
    have hI2 := hI1.below hb2 (Nat.le_refl _)
    have hs2 := hb2.size
    go_wp2_with fail
    by_cases hz : size = 0
    · refine (ring_push_no _ hI2 99 (by simp [hz])).mono ?_
      rintro e w3 ⟨rfl, n3, rfl⟩
      go_wp2_with fail
      go_ret3
      exact fin _ ((Only.of_below hb2).drewN n3)
    · refine (ring_push_yes _ hI2 99 (by simp; omega)).mono ?_
      rintro e w3 ⟨rfl, hI3, ho3⟩
      go_wp2_with fail
      go_ret3
      exact fin _ ((Only.of_below hb2).trans ho3)
  · have hxl : 1 ≤ xs.length := List.length_pos_iff.2 hx
    refine (ring_shift_yes _ hI1 1 (by omega) hxl).mono ?_
    rintro e w2 ⟨v2, rfl, hv2, hI2, ho2⟩
    have hle := hI.len_le
    go_wp2_with fail
    refine (ring_push_yes _ hI2 99 (by simp; omega)).mono ?_
    rintro e w3 ⟨rfl, hI3, ho3⟩
    go_wp2_with fail
    go_ret3
    exact fin _ (ho2.trans ho3)

end Go.Proofs.Ytfffncaonpokpaa
