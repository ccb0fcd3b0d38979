/- The fixed answer of the statements of layer 26, and the walks of StatNames, StatMost and StatApart; no condition. -/
import Derived.Test.YtfffncaonpokpaaStatB
namespace Go.Proofs.Ytfffncaonpokpaa
open Go.RowKit

set_option maxRecDepth 100000 in
set_option maxHeartbeats 1000000 in
theorem awake26 (w : World) : Calls Try.prog 28 #[] w fun e w' => e = .returned (.bool true) ∧ Below w.heap.size w w' := by
  go_enter Try.func28, Try.ntmps28
  go_wp2_with fail
  refine (stat_new _).mono ?_
  rintro e w1 ⟨rfl, hm1, hb1⟩
  go_wp2_with fail
  refine (stat_raise _ _ _ 8 5 _ hm1).mono ?_
  rintro e w2 ⟨rfl, hm2, hb2, _, _⟩
  go_wp2_with fail
  refine (stat_raise _ _ _ 8 3 _ hm2).mono ?_
  rintro e w3 ⟨rfl, hm3, hb3, _, _⟩
  go_wp2_with fail
  refine (stat_add _ _ _ 6 2 _ hm3).mono ?_
  rintro e w4 ⟨rfl, hm4, hb4, _, _⟩
  have hbb := ((hb1.trans hb2).trans hb3).trans hb4
  have hs4 := hbb.size
  go_wp2_with fail
  refine (stat_note _ _ _ 2 0 0 0 0 _ hm4 hs4).mono ?_
  rintro e w5 ⟨rfl, hm5, hb5, _⟩
  have hbc := hbb.trans hb5
  have hcs : noteAt (addAt (raiseAt (raiseAt (List.replicate 9 0) 8 5) 8 3) 6 2) 2 = [0, 0, 0, 1, 0, 0, 2, 0, 5] := by decide +kernel
  rw [hcs] at hm5
  have g8 : getAt [0, 0, 0, 1, 0, 0, 2, 0, 5] 8 = 5 := by decide
  have g6 : getAt [0, 0, 0, 1, 0, 0, 2, 0, 5] 6 = 2 := by decide
  have g9 : getAt [0, 0, 0, 1, 0, 0, 2, 0, 5] 9 = 0 := by decide
  have g3 : (intsS [0, 0, 0, 1, 0, 0, 2, 0, 5])[3]? = some (.int .i64 1) := rfl
  have G := Lib.hid (And.intro g8 (And.intro g6 (And.intro g9 g3)))
  clear hcs g8 g6 g9 g3 hm1 hm2 hm3 hm4 hb1 hb2 hb3 hb4 hbb
  go_wp2_with fail
  refine (stat_all _ _ _ _ hm5).mono ?_
  rintro e w6 ⟨v, rfl, hown, hb6⟩
  obtain ⟨g, cap, rfl⟩ : ∃ g cap, v = .slice (some ⟨g, 0, none⟩) 9 cap := by
    rcases hown.2 with ⟨_, h0⟩ | ⟨g, cap, _, h, _⟩
    · omega
    · exact ⟨g, cap, h⟩
  have hc3 := (hown.cellAt 3 (by omega)).trans G.out.2.2.2
  have hm6 := hm5.below hb6 (Nat.le_refl _)
  have c8 := stat_get _ _ _ 8 w6 hm6
  rw [G.out.1] at c8
  have c6 := stat_get _ _ _ 6 w6 hm6
  rw [G.out.2.1] at c6
  have c9 := stat_get _ _ _ 9 w6 hm6
  rw [G.out.2.2.1] at c9
  have C := Lib.hid (And.intro c8 (And.intro c6 c9))
  clear c8 c6 c9 hown
  go_wp2_with fail
  refine C.out.1.mono ?_
  rintro e w7 ⟨rfl, rfl⟩
  go_wp2_with fail
  refine C.out.2.1.mono ?_
  rintro e w7 ⟨rfl, rfl⟩
  go_wp2_with fail
  refine C.out.2.2.mono ?_
  rintro e w7 ⟨rfl, rfl⟩
  go_wp2_with fail
  refine (stat_name 4 _).mono ?_
  rintro e w7 ⟨rfl, hb7⟩
  go_wp2_with fail
  refine (stat_name 9 _).mono ?_
  rintro e w8 ⟨rfl, hb8⟩
  go_wp2_with fail
  go_ret
  exact ⟨rfl, ((hbc.trans (hb6.mono hbc.size)).trans (hb7.mono (hbc.trans (hb6.mono hbc.size)).size)).trans (hb8.mono ((hbc.trans (hb6.mono hbc.size)).trans (hb7.mono (hbc.trans (hb6.mono hbc.size)).size)).size)⟩

theorem statName_in {k : Int} (h : 0 ≤ k ∧ k < 9) : (statName k).isEmpty = false := by
  have hc : k = 0 ∨ k = 1 ∨ k = 2 ∨ k = 3 ∨ k = 4 ∨ k = 5 ∨ k = 6 ∨ k = 7 ∨ k = 8 := by omega
  rcases hc with rfl | rfl | rfl | rfl | rfl | rfl | rfl | rfl | rfl <;> decide
theorem statName_out {k : Int} (h : ¬ (0 ≤ k ∧ k < 9)) : statName k = [] := if_neg h
theorem statName_apart {a b : Int} (ha : 0 ≤ a ∧ a < 9) (hab : a ≠ b) : statName a ≠ statName b := by
  by_cases hb : 0 ≤ b ∧ b < 9
  · have hc : a = 0 ∨ a = 1 ∨ a = 2 ∨ a = 3 ∨ a = 4 ∨ a = 5 ∨ a = 6 ∨ a = 7 ∨ a = 8 := by omega
    have hd : b = 0 ∨ b = 1 ∨ b = 2 ∨ b = 3 ∨ b = 4 ∨ b = 5 ∨ b = 6 ∨ b = 7 ∨ b = 8 := by omega
    rcases hc with rfl | rfl | rfl | rfl | rfl | rfl | rfl | rfl | rfl <;> rcases hd with rfl | rfl | rfl | rfl | rfl | rfl | rfl | rfl | rfl <;> first | (exact absurd rfl hab) | decide
  · rw [statName_out hb]
    intro h
    have := statName_in ha
    rw [h] at this
    cases this

set_option maxRecDepth 100000 in
set_option maxHeartbeats 1000000 in
theorem statNames_walk (a b : Int) (w : World) : Calls Try.prog 6 #[.int .i64 a, .int .i64 b] w fun e w' => e = .returned (.bool true) ∧ Below w.heap.size w w' := by
  by_cases ha : 0 ≤ a ∧ a < 9
  · have hin := statName_in ha
    by_cases hab : a = b
    · subst hab
      obtain ⟨h0, h9⟩ := ha
      have c := stat_name a w
      generalize statName a = s at hin c
      have hne : (s == []) = false := by cases s <;> simp_all
      have C := Lib.hid c
      clear c
      go_enter Try.func6, Try.ntmps6
      go_wp2_with fail
      refine C.out.mono ?_
      rintro e w1 ⟨rfl, hb1⟩
      go_wp2_with fail
      refine (awake26 _).mono ?_
      rintro e w2 ⟨rfl, hb2⟩
      go_wp2_with fail
      go_ret
      exact ⟨rfl, hb1.trans (hb2.mono hb1.size)⟩
    · have hap := statName_apart ha hab
      obtain ⟨h0, h9⟩ := ha
      have c := fun W => stat_name a W
      have c2 := fun W => stat_name b W
      generalize statName a = s at hin c hap
      generalize statName b = t at c2 hap
      have hne : (s == []) = false := by cases s <;> simp_all
      have hst : (s == t) = false := by rw [beq_eq_false_iff_ne]; exact hap
      have hab' : (a == b) = false := by rw [beq_eq_false_iff_ne]; exact hab
      have C := Lib.hid c
      have C2 := Lib.hid c2
      clear c c2 hap hab
      go_enter Try.func6, Try.ntmps6
      go_wp2_with fail
      refine (C.out _).mono ?_
      rintro e w1 ⟨rfl, hb1⟩
      go_wp2_with fail
      refine (C.out _).mono ?_
      rintro e w2 ⟨rfl, hb2⟩
      go_wp2_with fail
      refine (C2.out _).mono ?_
      rintro e w3 ⟨rfl, hb3⟩
      go_wp2_with fail
      refine (awake26 _).mono ?_
      rintro e w4 ⟨rfl, hb4⟩
      go_wp2_with fail
      go_ret
      have q1 := hb1.trans (hb2.mono hb1.size)
      have q2 := q1.trans (hb3.mono q1.size)
      exact ⟨rfl, q2.trans (hb4.mono q2.size)⟩
  · have c := stat_name a w
    rw [statName_out ha] at c
    have C := Lib.hid c
    have ha' : a < 0 ∨ 9 ≤ a := by omega
    clear c ha
    rcases ha' with ha | ha
    · go_enter Try.func6, Try.ntmps6
      go_wp2_with fail
      refine C.out.mono ?_
      rintro e w1 ⟨rfl, hb1⟩
      go_wp2_with fail
      refine (awake26 _).mono ?_
      rintro e w2 ⟨rfl, hb2⟩
      go_wp2_with fail
      go_ret
      exact ⟨rfl, hb1.trans (hb2.mono hb1.size)⟩
    · have ha0 : 0 ≤ a := by omega
      go_enter Try.func6, Try.ntmps6
      go_wp2_with fail
      refine C.out.mono ?_
      rintro e w1 ⟨rfl, hb1⟩
      go_wp2_with fail
      refine (awake26 _).mono ?_
      rintro e w2 ⟨rfl, hb2⟩
      go_wp2_with fail
      go_ret
      exact ⟨rfl, hb1.trans (hb2.mono hb1.size)⟩

theorem statNames_any (a b : Int) (w : World) (_ha : (Lit.int .i64 a).wf = true) (_hb : (Lit.int .i64 b).wf = true) : Calls Try.prog 6 #[.int .i64 a, .int .i64 b] w fun e w' => e = .returned (.bool true) ∧ Below w.heap.size w w' := statNames_walk a b w

end Go.Proofs.Ytfffncaonpokpaa
