/- credenza/credenzalaw21.GenEquals holds. Conditions: as each theorem states; the last one has none. -/
import Derived.Test.YtgapfnckannnfaaGreatRows
import Derived.WalkKit
import Derived.ProofKit
import Derived.OpenShut
import Derived.ShutString
import Derived.ChangeOld
import Derived.Below
import Derived.SizedLaws
import Derived.Test.YtgapfnckannnfaaGreatWSized
import Derived.Test.YtgapfnckannnfaaGreatCGenEquals1
import Derived.Test.YtgapfnckannnfaaGreatCGenEquals2
import Derived.Test.YtgapfnckannnfaaGreatCGenEquals3
import Derived.Test.YtgapfnckannnfaaGreatCGenEquals4
import Derived.Test.YtgapfnckannnfaaGreatCGenEquals5
namespace Go.Proofs.YtgapfnckannnfaaGreat.Q
open Go.RowKit Go.Proofs.YtgapfnckannnfaaGreatW.PrintWords Go.Proofs.YtgapfnckannnfaaGreatW.PrintLast Go.Proofs.YtgapfnckannnfaaGreatW.PrintMore
attribute [local go_sem] max2_int min2_int max_two min_two max_three min_three max_four min_four   -- for this text's walks alone
set_option linter.unusedVariables false
set_option linter.unusedSimpArgs false

/-! ### credenzalaw21_awake: function 4 -/
def credenzalaw21_awake.f : Option Bool := some true
theorem credenzalaw21_awake.calls (r : Bool) (w : World) (h : credenzalaw21_awake.f = some r) :
    Calls Tryz.prog 4 #[] w fun e w' => e = .returned (.bool r) ∧ Below w.heap.size w w' := by
  obtain rfl := Option.some.inj h
  refine (Go.Proofs.YtgapfnckannnfaaGreatD.awake21 w).mono ?_
  rintro e w' ⟨h1, h2, h3, h4, h5, h6⟩
  exact ⟨h1, ⟨h2, h3, h4, h5, h6⟩⟩

end Go.Proofs.YtgapfnckannnfaaGreat.Q

namespace Go.Proofs.YtgapfnckannnfaaGreat.Q
open Go.RowKit Go.Proofs.YtgapfnckannnfaaGreatW.PrintWords Go.Proofs.YtgapfnckannnfaaGreatW.PrintLast Go.Proofs.YtgapfnckannnfaaGreatW.PrintMore
attribute [local go_sem] max2_int min2_int max_two min_two max_three min_three max_four min_four   -- for this text's walks alone
set_option linter.unusedVariables false
set_option linter.unusedSimpArgs false

/-! ### credenzalaw21_same: function 5 -/
def credenzalaw21_same.l0 : Nat → List Int → List Int → Int → Int → Option (Bool)
  | 0, _, _, _, _ => none
  | k + 1, x0, x1, x12, x13 => if x13 < x12 then (if 0 ≤ x13 then (if x13 < (x0.length : Int) then (if x13 < (x1.length : Int) then (if (rd x0 x13) = (rd x1 x13) then (credenzalaw21_same.l0 k x0 x1 x12 (wrap64 (x13 + 1))) else (some false)) else (none)) else (none)) else (none)) else (some true)
def credenzalaw21_same.f (k : Nat) (l0 : List Int) (l1 : List Int) : Option (Bool) := if (l0.length : Int) = (l1.length : Int) then (credenzalaw21_same.l0 k l0 l1 (l0.length : Int) 0) else (some false)
theorem credenzalaw21_same.mono_l : ∀ k, (∀ y0 y1 y2 y3, LeO (credenzalaw21_same.l0 k y0 y1 y2 y3) (credenzalaw21_same.l0 (k + 1) y0 y1 y2 y3))
  | 0 => fun _ _ _ _ r h => by simp [credenzalaw21_same.l0] at h
  | k + 1 => by
    have ih0 := credenzalaw21_same.mono_l k
    · intro y0 y1 y2 y3
      unfold credenzalaw21_same.l0
      repeat' first
      | (with_reducible exact ih0 _ _ _ _)
      | (with_reducible exact LeO.refl _)
      | (with_reducible exact LeO.none _)
      | (with_reducible refine LeO.ite ?_ ?_)
      | (with_reducible refine LeO.bind ?_ (fun _ => ?_))
      | exact ih0 _ _ _ _
      | exact LeO.none _
      | refine LeO.ite ?_ ?_
      | refine LeO.bind ?_ (fun _ => ?_)
theorem credenzalaw21_same.mono : ∀ a0 a1 k, LeO (credenzalaw21_same.f k a0 a1) (credenzalaw21_same.f (k + 1) a0 a1) := by
  intro a0 a1 k
  have ih0 := credenzalaw21_same.mono_l k
  unfold credenzalaw21_same.f
  repeat' first
      | (with_reducible exact ih0 _ _ _ _)
      | (with_reducible exact LeO.refl _)
      | (with_reducible exact LeO.none _)
      | (with_reducible refine LeO.ite ?_ ?_)
      | (with_reducible refine LeO.bind ?_ (fun _ => ?_))
      | exact ih0 _ _ _ _
      | exact LeO.none _
      | refine LeO.ite ?_ ?_
      | refine LeO.bind ?_ (fun _ => ?_)
set_option maxHeartbeats 8000000 in
set_option maxRecDepth 100000 in
theorem credenzalaw21_same.calls (k : Nat) (A0 : Option Addr) (c0 : Nat) (l0 : List Int) (A1 : Option Addr) (c1 : Nat) (l1 : List Int) (r : Bool) (w : World) (hr0 : Kd.C (Kd.int .i64) w A0 l0.length l0) (hc0 : l0.length ≤ c0) (hr1 : Kd.C (Kd.int .i64) w A1 l1.length l1) (hc1 : l1.length ≤ c1) (h : credenzalaw21_same.f k l0 l1 = some r) :
    Calls Tryz.prog 5 #[.slice A0 l0.length c0, .slice A1 l1.length c1] w fun e w' => e = .returned (.bool r) ∧ Drawn0 w w' := by
  have HR0 := Aside0.mk hr0
  have HC0 := Aside0.mk hc0
  clear hr0 hc0
  have HR1 := Aside0.mk hr1
  have HC1 := Aside0.mk hc1
  clear hr1 hc1
  have H : (if (l0.length : Int) = (l1.length : Int) then (credenzalaw21_same.l0 k l0 l1 (l0.length : Int) 0) else (some false)) = some r := h
  clear h
  by_cases c3 : (l0.length : Int) = (l1.length : Int)
  · rw [if_pos c3] at H
    have c3b0 : ((l0.length : Int) == (l1.length : Int)) = true := beq_iff_eq.mpr c3
    have c3b1 : ((l0.length : Int) != (l1.length : Int)) = false := bne_eq_false_iff_eq.mpr c3
    have c3b2 : (l0.length == l1.length) = true := by first | simpa using c3 | (simp at c3 ⊢; omega)
    clear c3
    have H' := Aside0.mk H
    clear H
    go_enter Tryz.func5, Tryz.ntmps5
    go_wp2
    repeat (go_quiet (fail); try go_wp2)
    go_loopg [13] k (fun kq v13 w' => ∃ (x13_1 : Int), v13 = .int .i64 x13_1 ∧ Aside0 (credenzalaw21_same.l0 kq l0 l1 (l0.length : Int) x13_1 = some r) ∧ Aside0 (kq ≤ k) ∧ Drawn0 w w')
    case atStart => exact ⟨(0), (by first | rfl | (simp; done) | (simp [*]; done)), H', ⟨Nat.le_refl _⟩, by repeat (first | exact Drawn0.refl _ | apply Drawn0.step)⟩
    case round =>
      clear H'
      try clear c1
      try clear p2
      try clear c3
      try clear c3b0
      try clear c3b1
      try clear c3b2
      obtain ⟨x13_1, rfl, HA, HK1, ⟨m1, rfl⟩⟩ := hrel
      cases gk with
      | zero => exact absurd HA.out (by simp [credenzalaw21_same.l0])
      | succ k1 =>
        have H := HA.out
        clear HA
        simp only [credenzalaw21_same.l0] at H
        by_cases c4 : x13_1 < (l0.length : Int)
        · rw [if_pos c4] at H
          have c4b0 : decide (x13_1 < (l0.length : Int)) = true := decide_eq_true c4
          clear c4
          by_cases c5 : 0 ≤ x13_1
          · rw [if_pos c5] at H
            have c5b0 : decide (0 ≤ x13_1) = true := decide_eq_true c5
            clear c5
            by_cases c6 : x13_1 < (l0.length : Int)
            · rw [if_pos c6] at H
              have c6b0 : decide (x13_1 < (l0.length : Int)) = true := decide_eq_true c6
              clear c6
              by_cases c7 : x13_1 < (l1.length : Int)
              · rw [if_pos c7] at H
                have c7b0 : decide (x13_1 < (l1.length : Int)) = true := decide_eq_true c7
                clear c7
                by_cases c8 : (rd l0 x13_1) = (rd l1 x13_1)
                · rw [if_pos c8] at H
                  have c8b0 : ((rd l0 x13_1) == (rd l1 x13_1)) = true := beq_iff_eq.mpr c8
                  have c8b1 : ((rd l0 x13_1) != (rd l1 x13_1)) = false := bne_eq_false_iff_eq.mpr c8
                  clear c8
                  have H' := Aside0.mk H
                  clear H
                  have p394 : 0 ≤ (x13_1 : Int) := of_decide_eq_true (by first | (with_reducible assumption) | assumption)
                  have q394 : x13_1 < (l0.length : Int) := of_decide_eq_true (by first | (with_reducible assumption) | assumption)
                  obtain ⟨ad394, e394, hx394_0⟩ := Kd.at_int HR0.out x13_1 p394 q394
                  cases e394
                  replace p394 := eq_true p394
                  replace q394 := eq_true q394
                  have p395 : 0 ≤ (x13_1 : Int) := of_decide_eq_true (by first | (with_reducible assumption) | assumption)
                  have q395 : x13_1 < (l1.length : Int) := of_decide_eq_true (by first | (with_reducible assumption) | assumption)
                  obtain ⟨ad395, e395, hx395_0⟩ := Kd.at_int HR1.out x13_1 p395 q395
                  cases e395
                  replace p395 := eq_true p395
                  replace q395 := eq_true q395
                  go_wp2
                  repeat (go_quiet (fail); try go_wp2)
                  go_roundg k1
                  case measure => have := HK1.out; omega
                  case rel => exact ⟨(wrap64 (x13_1 + 1)), (by first | rfl | (simp; done) | (simp [*]; done)), H', ⟨by have := HK1.out; omega⟩, by repeat (first | exact Drawn0.refl _ | apply Drawn0.step)⟩
                · rw [if_neg c8] at H
                  have c8b0 : ((rd l0 x13_1) == (rd l1 x13_1)) = false := beq_eq_false_iff_ne.mpr c8
                  have c8b1 : ((rd l0 x13_1) != (rd l1 x13_1)) = true := bne_iff_ne.mpr c8
                  obtain rfl := Option.some.inj H
                  have p394 : 0 ≤ (x13_1 : Int) := of_decide_eq_true (by first | (with_reducible assumption) | assumption)
                  have q394 : x13_1 < (l0.length : Int) := of_decide_eq_true (by first | (with_reducible assumption) | assumption)
                  obtain ⟨ad394, e394, hx394_0⟩ := Kd.at_int HR0.out x13_1 p394 q394
                  cases e394
                  replace p394 := eq_true p394
                  replace q394 := eq_true q394
                  have p395 : 0 ≤ (x13_1 : Int) := of_decide_eq_true (by first | (with_reducible assumption) | assumption)
                  have q395 : x13_1 < (l1.length : Int) := of_decide_eq_true (by first | (with_reducible assumption) | assumption)
                  obtain ⟨ad395, e395, hx395_0⟩ := Kd.at_int HR1.out x13_1 p395 q395
                  cases e395
                  replace p395 := eq_true p395
                  replace q395 := eq_true q395
                  go_wp2
                  repeat (go_quiet (fail); try go_wp2)
                  go_ret
                  exact ⟨by first | rfl | (simp; done) | (simp [*]; done), by repeat (first | exact Drawn0.refl _ | apply Drawn0.step)⟩
              · rw [if_neg c7] at H
                exact absurd H (by simp)
            · rw [if_neg c6] at H
              exact absurd H (by simp)
          · rw [if_neg c5] at H
            exact absurd H (by simp)
        · rw [if_neg c4] at H
          have c4b0 : decide (x13_1 < (l0.length : Int)) = false := decide_eq_false c4
          clear c4
          obtain rfl := Option.some.inj H
          go_wp2
          repeat (go_quiet (fail); try go_wp2)
          go_ret
          exact ⟨by first | rfl | (simp; done) | (simp [*]; done), by repeat (first | exact Drawn0.refl _ | apply Drawn0.step)⟩
  · rw [if_neg c3] at H
    have c3b0 : ((l0.length : Int) == (l1.length : Int)) = false := beq_eq_false_iff_ne.mpr c3
    have c3b1 : ((l0.length : Int) != (l1.length : Int)) = true := bne_iff_ne.mpr c3
    have c3b2 : (l0.length == l1.length) = false := by first | simpa using c3 | (simp at c3 ⊢; omega)
    obtain rfl := Option.some.inj H
    go_enter Tryz.func5, Tryz.ntmps5
    go_wp2
    repeat (go_quiet (fail); try go_wp2)
    go_ret
    exact ⟨by first | rfl | (simp; done) | (simp [*]; done), by repeat (first | exact Drawn0.refl _ | apply Drawn0.step)⟩

end Go.Proofs.YtgapfnckannnfaaGreat.Q

namespace Go.Proofs.YtgapfnckannnfaaGreat.Q
open Go.RowKit Go.Proofs.YtgapfnckannnfaaGreatW.PrintWords Go.Proofs.YtgapfnckannnfaaGreatW.PrintLast Go.Proofs.YtgapfnckannnfaaGreatW.PrintMore
attribute [local go_sem] max2_int min2_int max_two min_two max_three min_three max_four min_four   -- for this text's walks alone
set_option linter.unusedVariables false
set_option linter.unusedSimpArgs false

theorem eqA25 (d : Nat) (w : World) (x0 y0 : Int) (x1 y1 : Int) (x2 y2 : Int) :
    (Op.equalIn (d + 2) 25 (.agg #[.int .i32 x0, .int .i64 x1, .int .u64 x2]) (.agg #[.int .i32 y0, .int .i64 y1, .int .u64 y2])).run Tryz.prog w = .ok (x0 == y0 && (x1 == y1 && (x2 == y2))) w := by
  refine eqA_of Tryz.underlying25 (by kernel_rfl) ?_
  refine eqf_cons (by rfl) (by go_simp; rfl) (by go_simp; rfl) (by go_simp) ?_
  refine eqf_cons (by rfl) (by go_simp; rfl) (by go_simp; rfl) (by go_simp) ?_
  exact eqf_last (by rfl) (by go_simp; rfl) (by go_simp; rfl) (by go_simp)
end Go.Proofs.YtgapfnckannnfaaGreat.Q

namespace Go.Proofs.YtgapfnckannnfaaGreat.Q
open Go.RowKit Go.Proofs.YtgapfnckannnfaaGreatW.PrintWords Go.Proofs.YtgapfnckannnfaaGreatW.PrintLast Go.Proofs.YtgapfnckannnfaaGreatW.PrintMore
attribute [local go_sem] max2_int min2_int max_two min_two max_three min_three max_four min_four   -- for this text's walks alone
set_option linter.unusedVariables false
set_option linter.unusedSimpArgs false

/-! ### slices_Equal_int_int: function 10 -/
def slices_Equal_int_int.l0 : Nat → List Int → List Int → Int → Int → Option (Bool)
  | 0, _, _, _, _ => none
  | k + 1, x0, x1, x12, x13 => if x13 < x12 then (if 0 ≤ x13 then (if x13 < (x0.length : Int) then (if x13 < (x1.length : Int) then (if (rd x0 x13) = (rd x1 x13) then (slices_Equal_int_int.l0 k x0 x1 x12 (wrap64 (x13 + 1))) else (some false)) else (none)) else (none)) else (none)) else (some true)
def slices_Equal_int_int.f (k : Nat) (l0 : List Int) (l1 : List Int) : Option (Bool) := if (l0.length : Int) = (l1.length : Int) then (slices_Equal_int_int.l0 k l0 l1 (l0.length : Int) 0) else (some false)
theorem slices_Equal_int_int.mono_l : ∀ k, (∀ y0 y1 y2 y3, LeO (slices_Equal_int_int.l0 k y0 y1 y2 y3) (slices_Equal_int_int.l0 (k + 1) y0 y1 y2 y3))
  | 0 => fun _ _ _ _ r h => by simp [slices_Equal_int_int.l0] at h
  | k + 1 => by
    have ih0 := slices_Equal_int_int.mono_l k
    · intro y0 y1 y2 y3
      unfold slices_Equal_int_int.l0
      repeat' first
      | (with_reducible exact ih0 _ _ _ _)
      | (with_reducible exact LeO.refl _)
      | (with_reducible exact LeO.none _)
      | (with_reducible refine LeO.ite ?_ ?_)
      | (with_reducible refine LeO.bind ?_ (fun _ => ?_))
      | exact ih0 _ _ _ _
      | exact LeO.none _
      | refine LeO.ite ?_ ?_
      | refine LeO.bind ?_ (fun _ => ?_)
theorem slices_Equal_int_int.mono : ∀ a0 a1 k, LeO (slices_Equal_int_int.f k a0 a1) (slices_Equal_int_int.f (k + 1) a0 a1) := by
  intro a0 a1 k
  have ih0 := slices_Equal_int_int.mono_l k
  unfold slices_Equal_int_int.f
  repeat' first
      | (with_reducible exact ih0 _ _ _ _)
      | (with_reducible exact LeO.refl _)
      | (with_reducible exact LeO.none _)
      | (with_reducible refine LeO.ite ?_ ?_)
      | (with_reducible refine LeO.bind ?_ (fun _ => ?_))
      | exact ih0 _ _ _ _
      | exact LeO.none _
      | refine LeO.ite ?_ ?_
      | refine LeO.bind ?_ (fun _ => ?_)
set_option maxHeartbeats 8000000 in
set_option maxRecDepth 100000 in
theorem slices_Equal_int_int.calls (k : Nat) (A0 : Option Addr) (c0 : Nat) (l0 : List Int) (A1 : Option Addr) (c1 : Nat) (l1 : List Int) (r : Bool) (w : World) (hr0 : Kd.C (Kd.int .i64) w A0 l0.length l0) (hc0 : l0.length ≤ c0) (hr1 : Kd.C (Kd.int .i64) w A1 l1.length l1) (hc1 : l1.length ≤ c1) (h : slices_Equal_int_int.f k l0 l1 = some r) :
    Calls Tryz.prog 10 #[.slice A0 l0.length c0, .slice A1 l1.length c1] w fun e w' => e = .returned (.bool r) ∧ Drawn0 w w' := by
  have HR0 := Aside0.mk hr0
  have HC0 := Aside0.mk hc0
  clear hr0 hc0
  have HR1 := Aside0.mk hr1
  have HC1 := Aside0.mk hc1
  clear hr1 hc1
  have H : (if (l0.length : Int) = (l1.length : Int) then (slices_Equal_int_int.l0 k l0 l1 (l0.length : Int) 0) else (some false)) = some r := h
  clear h
  by_cases c3 : (l0.length : Int) = (l1.length : Int)
  · rw [if_pos c3] at H
    have c3b0 : ((l0.length : Int) == (l1.length : Int)) = true := beq_iff_eq.mpr c3
    have c3b1 : ((l0.length : Int) != (l1.length : Int)) = false := bne_eq_false_iff_eq.mpr c3
    have c3b2 : (l0.length == l1.length) = true := by first | simpa using c3 | (simp at c3 ⊢; omega)
    clear c3
    have H' := Aside0.mk H
    clear H
    go_enter Tryz.func10, Tryz.ntmps10
    go_wp2
    repeat (go_quiet (fail); try go_wp2)
    go_loopg [13] k (fun kq v13 w' => ∃ (x13_1 : Int), v13 = .int .i64 x13_1 ∧ Aside0 (slices_Equal_int_int.l0 kq l0 l1 (l0.length : Int) x13_1 = some r) ∧ Aside0 (kq ≤ k) ∧ Drawn0 w w')
    case atStart => exact ⟨(0), (by first | rfl | (simp; done) | (simp [*]; done)), H', ⟨Nat.le_refl _⟩, by repeat (first | exact Drawn0.refl _ | apply Drawn0.step)⟩
    case round =>
      clear H'
      try clear c1
      try clear p2
      try clear c3
      try clear c3b0
      try clear c3b1
      try clear c3b2
      obtain ⟨x13_1, rfl, HA, HK1, ⟨m1, rfl⟩⟩ := hrel
      cases gk with
      | zero => exact absurd HA.out (by simp [slices_Equal_int_int.l0])
      | succ k1 =>
        have H := HA.out
        clear HA
        simp only [slices_Equal_int_int.l0] at H
        by_cases c4 : x13_1 < (l0.length : Int)
        · rw [if_pos c4] at H
          have c4b0 : decide (x13_1 < (l0.length : Int)) = true := decide_eq_true c4
          clear c4
          by_cases c5 : 0 ≤ x13_1
          · rw [if_pos c5] at H
            have c5b0 : decide (0 ≤ x13_1) = true := decide_eq_true c5
            clear c5
            by_cases c6 : x13_1 < (l0.length : Int)
            · rw [if_pos c6] at H
              have c6b0 : decide (x13_1 < (l0.length : Int)) = true := decide_eq_true c6
              clear c6
              by_cases c7 : x13_1 < (l1.length : Int)
              · rw [if_pos c7] at H
                have c7b0 : decide (x13_1 < (l1.length : Int)) = true := decide_eq_true c7
                clear c7
                by_cases c8 : (rd l0 x13_1) = (rd l1 x13_1)
                · rw [if_pos c8] at H
                  have c8b0 : ((rd l0 x13_1) == (rd l1 x13_1)) = true := beq_iff_eq.mpr c8
                  have c8b1 : ((rd l0 x13_1) != (rd l1 x13_1)) = false := bne_eq_false_iff_eq.mpr c8
                  clear c8
                  have H' := Aside0.mk H
                  clear H
                  have p101 : 0 ≤ (x13_1 : Int) := of_decide_eq_true (by first | (with_reducible assumption) | assumption)
                  have q101 : x13_1 < (l0.length : Int) := of_decide_eq_true (by first | (with_reducible assumption) | assumption)
                  obtain ⟨ad101, e101, hx101_0⟩ := Kd.at_int HR0.out x13_1 p101 q101
                  cases e101
                  replace p101 := eq_true p101
                  replace q101 := eq_true q101
                  have p102 : 0 ≤ (x13_1 : Int) := of_decide_eq_true (by first | (with_reducible assumption) | assumption)
                  have q102 : x13_1 < (l1.length : Int) := of_decide_eq_true (by first | (with_reducible assumption) | assumption)
                  obtain ⟨ad102, e102, hx102_0⟩ := Kd.at_int HR1.out x13_1 p102 q102
                  cases e102
                  replace p102 := eq_true p102
                  replace q102 := eq_true q102
                  go_wp2
                  repeat (go_quiet (fail); try go_wp2)
                  go_roundg k1
                  case measure => have := HK1.out; omega
                  case rel => exact ⟨(wrap64 (x13_1 + 1)), (by first | rfl | (simp; done) | (simp [*]; done)), H', ⟨by have := HK1.out; omega⟩, by repeat (first | exact Drawn0.refl _ | apply Drawn0.step)⟩
                · rw [if_neg c8] at H
                  have c8b0 : ((rd l0 x13_1) == (rd l1 x13_1)) = false := beq_eq_false_iff_ne.mpr c8
                  have c8b1 : ((rd l0 x13_1) != (rd l1 x13_1)) = true := bne_iff_ne.mpr c8
                  obtain rfl := Option.some.inj H
                  have p101 : 0 ≤ (x13_1 : Int) := of_decide_eq_true (by first | (with_reducible assumption) | assumption)
                  have q101 : x13_1 < (l0.length : Int) := of_decide_eq_true (by first | (with_reducible assumption) | assumption)
                  obtain ⟨ad101, e101, hx101_0⟩ := Kd.at_int HR0.out x13_1 p101 q101
                  cases e101
                  replace p101 := eq_true p101
                  replace q101 := eq_true q101
                  have p102 : 0 ≤ (x13_1 : Int) := of_decide_eq_true (by first | (with_reducible assumption) | assumption)
                  have q102 : x13_1 < (l1.length : Int) := of_decide_eq_true (by first | (with_reducible assumption) | assumption)
                  obtain ⟨ad102, e102, hx102_0⟩ := Kd.at_int HR1.out x13_1 p102 q102
                  cases e102
                  replace p102 := eq_true p102
                  replace q102 := eq_true q102
                  go_wp2
                  repeat (go_quiet (fail); try go_wp2)
                  go_ret
                  exact ⟨by first | rfl | (simp; done) | (simp [*]; done), by repeat (first | exact Drawn0.refl _ | apply Drawn0.step)⟩
              · rw [if_neg c7] at H
                exact absurd H (by simp)
            · rw [if_neg c6] at H
              exact absurd H (by simp)
          · rw [if_neg c5] at H
            exact absurd H (by simp)
        · rw [if_neg c4] at H
          have c4b0 : decide (x13_1 < (l0.length : Int)) = false := decide_eq_false c4
          clear c4
          obtain rfl := Option.some.inj H
          go_wp2
          repeat (go_quiet (fail); try go_wp2)
          go_ret
          exact ⟨by first | rfl | (simp; done) | (simp [*]; done), by repeat (first | exact Drawn0.refl _ | apply Drawn0.step)⟩
  · rw [if_neg c3] at H
    have c3b0 : ((l0.length : Int) == (l1.length : Int)) = false := beq_eq_false_iff_ne.mpr c3
    have c3b1 : ((l0.length : Int) != (l1.length : Int)) = true := bne_iff_ne.mpr c3
    have c3b2 : (l0.length == l1.length) = false := by first | simpa using c3 | (simp at c3 ⊢; omega)
    obtain rfl := Option.some.inj H
    go_enter Tryz.func10, Tryz.ntmps10
    go_wp2
    repeat (go_quiet (fail); try go_wp2)
    go_ret
    exact ⟨by first | rfl | (simp; done) | (simp [*]; done), by repeat (first | exact Drawn0.refl _ | apply Drawn0.step)⟩

end Go.Proofs.YtgapfnckannnfaaGreat.Q

namespace Go.Proofs.YtgapfnckannnfaaGreat.Q
open Go.RowKit Go.Proofs.YtgapfnckannnfaaGreatW.PrintWords Go.Proofs.YtgapfnckannnfaaGreatW.PrintLast Go.Proofs.YtgapfnckannnfaaGreatW.PrintMore
attribute [local go_sem] max2_int min2_int max_two min_two max_three min_three max_four min_four   -- for this text's walks alone
set_option linter.unusedVariables false
set_option linter.unusedSimpArgs false

attribute [local go_sem high] eqA25
/-! ### gen_Equal: function 6 -/
def gen_Equal.f (k : Nat) (l0_0 : List Int) (a0_1 : Int) (a0_2 : Int) (a0_3 : Int) (a0_4 : Int) (a0_5 : Int) (l1_0 : List Int) (a1_1 : Int) (a1_2 : Int) (a1_3 : Int) (a1_4 : Int) (a1_5 : Int) : Option (Bool) := (slices_Equal_int_int.f k l0_0 l1_0).bind fun t105 => (if t105 = true then (if a0_1 = a1_1 then (if a0_2 = a1_2 then (some (a0_3 == a1_3 && (a0_4 == a1_4 && (a0_5 == a1_5)))) else (some false)) else (some false)) else (some false))
theorem gen_Equal.mono : ∀ a0 a1 a2 a3 a4 a5 a6 a7 a8 a9 a10 a11 k, LeO (gen_Equal.f k a0 a1 a2 a3 a4 a5 a6 a7 a8 a9 a10 a11) (gen_Equal.f (k + 1) a0 a1 a2 a3 a4 a5 a6 a7 a8 a9 a10 a11) := by
  intro a0 a1 a2 a3 a4 a5 a6 a7 a8 a9 a10 a11 k
  unfold gen_Equal.f
  repeat' first
      | (with_reducible exact slices_Equal_int_int.mono _ _ _)
      | (with_reducible exact LeO.refl _)
      | (with_reducible exact LeO.none _)
      | (with_reducible refine LeO.ite ?_ ?_)
      | (with_reducible refine LeO.bind ?_ (fun _ => ?_))
      | exact slices_Equal_int_int.mono _ _ _
      | exact LeO.none _
      | refine LeO.ite ?_ ?_
      | refine LeO.bind ?_ (fun _ => ?_)
set_option maxHeartbeats 8000000 in
set_option maxRecDepth 100000 in
theorem gen_Equal.calls (k : Nat) (A0_0 : Option Addr) (c0_0 : Nat) (l0_0 : List Int) (a0_1 : Int) (a0_2 : Int) (a0_3 : Int) (a0_4 : Int) (a0_5 : Int) (A1_0 : Option Addr) (c1_0 : Nat) (l1_0 : List Int) (a1_1 : Int) (a1_2 : Int) (a1_3 : Int) (a1_4 : Int) (a1_5 : Int) (r : Bool) (w : World) (hr0_0 : Kd.C (Kd.int .i64) w A0_0 l0_0.length l0_0) (hc0_0 : l0_0.length ≤ c0_0) (hr1_0 : Kd.C (Kd.int .i64) w A1_0 l1_0.length l1_0) (hc1_0 : l1_0.length ≤ c1_0) (h : gen_Equal.f k l0_0 a0_1 a0_2 a0_3 a0_4 a0_5 l1_0 a1_1 a1_2 a1_3 a1_4 a1_5 = some r) :
    Calls Tryz.prog 6 #[.agg #[.slice A0_0 l0_0.length c0_0, .int .i64 a0_1, .int .i64 a0_2, .int .i32 a0_3, .int .i64 a0_4, .int .u64 a0_5], .agg #[.slice A1_0 l1_0.length c1_0, .int .i64 a1_1, .int .i64 a1_2, .int .i32 a1_3, .int .i64 a1_4, .int .u64 a1_5]] w fun e w' => e = .returned (.bool r) ∧ Below w.heap.size w w' := by
  have hu27 := Tryz.underlying27
  have hu25 := Tryz.underlying25
  have HR0_0 := Aside0.mk hr0_0
  have HC0_0 := Aside0.mk hc0_0
  clear hr0_0 hc0_0
  have HR1_0 := Aside0.mk hr1_0
  have HC1_0 := Aside0.mk hc1_0
  clear hr1_0 hc1_0
  have HB := Aside0.mk (Below.refl w.heap.size w)
  have H : ((slices_Equal_int_int.f k l0_0 l1_0).bind fun t105 => (if t105 = true then (if a0_1 = a1_1 then (if a0_2 = a1_2 then (some (a0_3 == a1_3 && (a0_4 == a1_4 && (a0_5 == a1_5)))) else (some false)) else (some false)) else (some false))) = some r := h
  clear h
  replace H := Option.bind_eq_some_iff.mp H
  obtain ⟨t105, A30, H⟩ := H
  replace H : (if t105 = true then (if a0_1 = a1_1 then (if a0_2 = a1_2 then (some (a0_3 == a1_3 && (a0_4 == a1_4 && (a0_5 == a1_5)))) else (some false)) else (some false)) else (some false)) = some r := H
  have A3 := Aside0.mk A30
  clear A30
  by_cases c4 : t105 = true
  · subst c4
    have H1 : (if a0_1 = a1_1 then (if a0_2 = a1_2 then (some (a0_3 == a1_3 && (a0_4 == a1_4 && (a0_5 == a1_5)))) else (some false)) else (some false)) = some r := by rw [if_pos rfl] at H; exact H
    clear H
    have H := H1
    clear H1
    by_cases c5 : a0_1 = a1_1
    · rw [if_pos c5] at H
      have c5b0 : (a0_1 == a1_1) = true := beq_iff_eq.mpr c5
      have c5b1 : (a0_1 != a1_1) = false := bne_eq_false_iff_eq.mpr c5
      clear c5
      by_cases c6 : a0_2 = a1_2
      · rw [if_pos c6] at H
        have c6b0 : (a0_2 == a1_2) = true := beq_iff_eq.mpr c6
        have c6b1 : (a0_2 != a1_2) = false := bne_eq_false_iff_eq.mpr c6
        clear c6
        obtain rfl := Option.some.inj H
        go_enter Tryz.func6, Tryz.ntmps6
        go_wp2_with (first | ((with_reducible refine gate_dst (N := 2) rfl ?_); refine box_event ?hg (N := 2) ?hd (cs := #[.slice A0_0 l0_0.length c0_0, .int .i64 a0_1, .int .i64 a0_2, .int .i32 a0_3, .int .i64 a0_4, .int .u64 a0_5]) (t := 27) ?hr ?_; (case hd => rfl); (case hg => rfl); (case hr => first | (go_simp; done) | (go_simp; rfl)); intro gb103 hg w7 hbox hb; have n0_ := Aside0.mk (below_step (by repeat (first | (with_reducible first | exact HB.out | apply below_alloc | apply pw_below_drewN | apply below_drew1) | exact HB.out)) hb); have n1_ := Aside0.mk (hbox); have n2_ := Aside0.mk ((by rw [hg]; exact (below_size (by repeat (first | (with_reducible first | exact HB.out | apply below_alloc | apply pw_below_drewN | apply below_drew1) | exact HB.out))) : w.heap.size ≤ gb103)); have n3_ := Aside0.mk ((by rw [hg]; exact (below_size (by repeat (first | (with_reducible first | exact HB.out | apply below_alloc | apply pw_below_drewN | apply below_drew1) | exact HB.out))) : w.heap.size ≤ gb103)); clear HB; have HB := n0_; have BK103 := n1_; have GW103 := n2_; have GE103 := n3_; clear n0_ n1_ n2_ n3_; clear hb hbox hg) | ((with_reducible refine gate_dst (N := 3) rfl ?_); refine box_event ?hg (N := 3) ?hd (cs := #[.slice A1_0 l1_0.length c1_0, .int .i64 a1_1, .int .i64 a1_2, .int .i32 a1_3, .int .i64 a1_4, .int .u64 a1_5]) (t := 27) ?hr ?_; (case hd => rfl); (case hg => rfl); (case hr => first | (go_simp; done) | (go_simp; rfl)); intro gb104 hg w8 hbox hb; have n0_ := Aside0.mk (blk_below (g := gb103) (o := .cells #[.slice A0_0 l0_0.length c0_0, .int .i64 a0_1, .int .i64 a0_2, .int .i32 a0_3, .int .i64 a0_4, .int .u64 a0_5] 27 (0, 0)) (by (with_reducible repeat (first | refine blk_drewN ?_ _ | refine blk_drew ?_ | refine blk_alloc ?_ _)); exact BK103.out) hb); have n1_ := Aside0.mk (below_step (by repeat (first | (with_reducible first | exact HB.out | apply below_alloc | apply pw_below_drewN | apply below_drew1 | refine below_set ?_ GE103.out) | exact HB.out)) hb); have n2_ := Aside0.mk (hbox); have n3_ := Aside0.mk ((by rw [hg]; exact (below_size (by repeat (first | (with_reducible first | exact HB.out | apply below_alloc | apply pw_below_drewN | apply below_drew1 | refine below_set ?_ GE103.out) | exact HB.out))) : w.heap.size ≤ gb104)); have n4_ := Aside0.mk ((by rw [hg]; exact (below_size (by repeat (first | (with_reducible first | exact HB.out | apply below_alloc | apply pw_below_drewN | apply below_drew1 | refine below_set ?_ GE103.out) | exact HB.out))) : w.heap.size ≤ gb104)); have n5_ := Aside0.mk ((by rw [hg]; exact Nat.ne_of_lt (blk_lt (g := gb103) (o := .cells #[.slice A0_0 l0_0.length c0_0, .int .i64 a0_1, .int .i64 a0_2, .int .i32 a0_3, .int .i64 a0_4, .int .u64 a0_5] 27 (0, 0)) (by (with_reducible repeat (first | refine blk_drewN ?_ _ | refine blk_drew ?_ | refine blk_alloc ?_ _)); exact BK103.out)) : gb103 ≠ gb104)); have n6_ := Aside0.mk ((by rw [hg]; exact Nat.ne_of_gt (blk_lt (g := gb103) (o := .cells #[.slice A0_0 l0_0.length c0_0, .int .i64 a0_1, .int .i64 a0_2, .int .i32 a0_3, .int .i64 a0_4, .int .u64 a0_5] 27 (0, 0)) (by (with_reducible repeat (first | refine blk_drewN ?_ _ | refine blk_drew ?_ | refine blk_alloc ?_ _)); exact BK103.out)) : gb104 ≠ gb103)); clear BK103; clear HB; have BK103 := n0_; have HB := n1_; have BK104 := n2_; have GW104 := n3_; have GE104 := n4_; have NB103_104 := n5_; have NB104_103 := n6_; clear n0_ n1_ n2_ n3_ n4_ n5_ n6_; clear hb hbox hg; have hnb9 := NB103_104.out; have hnc9 := NB104_103.out; have hcz10_0 : w8.cell? ⟨gb103, 0, none⟩ = some (.slice A0_0 l0_0.length c0_0) := (blk_cell BK103.out 0).trans rfl; have hcz10_1 : w8.cell? ⟨gb103, 1, none⟩ = some (.int .i64 a0_1) := (blk_cell BK103.out 1).trans rfl; have hcz10_2 : w8.cell? ⟨gb103, 2, none⟩ = some (.int .i64 a0_2) := (blk_cell BK103.out 2).trans rfl; have hcz10_3 : w8.cell? ⟨gb103, 3, none⟩ = some (.int .i32 a0_3) := (blk_cell BK103.out 3).trans rfl; have hcz10_4 : w8.cell? ⟨gb103, 4, none⟩ = some (.int .i64 a0_4) := (blk_cell BK103.out 4).trans rfl; have hcz10_5 : w8.cell? ⟨gb103, 5, none⟩ = some (.int .u64 a0_5) := (blk_cell BK103.out 5).trans rfl; have hfz10_0 := blk_frozen BK103.out 0; have hfz10_1 := blk_frozen BK103.out 1; have hfz10_2 := blk_frozen BK103.out 2; have hfz10_3 := blk_frozen BK103.out 3; have hfz10_4 := blk_frozen BK103.out 4; have hfz10_5 := blk_frozen BK103.out 5; have hcz11_0 : w8.cell? ⟨gb104, 0, none⟩ = some (.slice A1_0 l1_0.length c1_0) := (blk_cell BK104.out 0).trans rfl; have hcz11_1 : w8.cell? ⟨gb104, 1, none⟩ = some (.int .i64 a1_1) := (blk_cell BK104.out 1).trans rfl; have hcz11_2 : w8.cell? ⟨gb104, 2, none⟩ = some (.int .i64 a1_2) := (blk_cell BK104.out 2).trans rfl; have hcz11_3 : w8.cell? ⟨gb104, 3, none⟩ = some (.int .i32 a1_3) := (blk_cell BK104.out 3).trans rfl; have hcz11_4 : w8.cell? ⟨gb104, 4, none⟩ = some (.int .i64 a1_4) := (blk_cell BK104.out 4).trans rfl; have hcz11_5 : w8.cell? ⟨gb104, 5, none⟩ = some (.int .u64 a1_5) := (blk_cell BK104.out 5).trans rfl; have hfz11_0 := blk_frozen BK104.out 0; have hfz11_1 := blk_frozen BK104.out 1; have hfz11_2 := blk_frozen BK104.out 2; have hfz11_3 := blk_frozen BK104.out 3; have hfz11_4 := blk_frozen BK104.out 4; have hfz11_5 := blk_frozen BK104.out 5) | ((with_reducible refine gate_callee (f := 10) rfl ?_); refine goesL_ (some 9) rfl rfl Tryz.func10 (by kernel_rfl) rfl #[.slice A0_0 l0_0.length c0_0, .slice A1_0 l1_0.length c1_0] rfl (by (try simp only [List.map_toArray, List.map_cons, List.map_nil]); first | done | rfl | (simp only [List.length_drop, List.length_take]; rfl)) ?_; (with_reducible refine (slices_Equal_int_int.calls k _ _ l0_0 _ _ l1_0 true _ ?side1 ?side2 ?side3 ?side4 A3.out).mono ?_); (case side1 => repeat (first | exact (Kd.C_below HR0_0.out HB.out) | (with_reducible refine Kd.C_alloc ?_ _) | (with_reducible refine Kd.C_drewN ?_ _) | (with_reducible refine Kd.C_drew ?_))); (case side2 => exact HC0_0.out); (case side3 => repeat (first | exact (Kd.C_below HR1_0.out HB.out) | (with_reducible refine Kd.C_alloc ?_ _) | (with_reducible refine Kd.C_drewN ?_ _) | (with_reducible refine Kd.C_drew ?_))); (case side4 => exact HC1_0.out); rintro e w' ⟨rfl, ⟨nd, rfl⟩⟩; refine ⟨_, rfl, ?_⟩))
        go_ret
        exact ⟨by first | rfl | (simp [errW_none, errW_some] <;> rfl) | (simp [*, errW_none, errW_some] <;> rfl), by repeat (first | (with_reducible first | exact HB.out | apply below_alloc | apply pw_below_drewN | apply below_drew1 | refine below_set ?_ GE103.out | refine below_set ?_ GE104.out) | exact HB.out)⟩
      · rw [if_neg c6] at H
        have c6b0 : (a0_2 == a1_2) = false := beq_eq_false_iff_ne.mpr c6
        have c6b1 : (a0_2 != a1_2) = true := bne_iff_ne.mpr c6
        obtain rfl := Option.some.inj H
        go_enter Tryz.func6, Tryz.ntmps6
        go_wp2_with (first | ((with_reducible refine gate_dst (N := 2) rfl ?_); refine box_event ?hg (N := 2) ?hd (cs := #[.slice A0_0 l0_0.length c0_0, .int .i64 a0_1, .int .i64 a0_2, .int .i32 a0_3, .int .i64 a0_4, .int .u64 a0_5]) (t := 27) ?hr ?_; (case hd => rfl); (case hg => rfl); (case hr => first | (go_simp; done) | (go_simp; rfl)); intro gb103 hg w12 hbox hb; have n0_ := Aside0.mk (below_step (by repeat (first | (with_reducible first | exact HB.out | apply below_alloc | apply pw_below_drewN | apply below_drew1) | exact HB.out)) hb); have n1_ := Aside0.mk (hbox); have n2_ := Aside0.mk ((by rw [hg]; exact (below_size (by repeat (first | (with_reducible first | exact HB.out | apply below_alloc | apply pw_below_drewN | apply below_drew1) | exact HB.out))) : w.heap.size ≤ gb103)); have n3_ := Aside0.mk ((by rw [hg]; exact (below_size (by repeat (first | (with_reducible first | exact HB.out | apply below_alloc | apply pw_below_drewN | apply below_drew1) | exact HB.out))) : w.heap.size ≤ gb103)); clear HB; have HB := n0_; have BK103 := n1_; have GW103 := n2_; have GE103 := n3_; clear n0_ n1_ n2_ n3_; clear hb hbox hg) | ((with_reducible refine gate_dst (N := 3) rfl ?_); refine box_event ?hg (N := 3) ?hd (cs := #[.slice A1_0 l1_0.length c1_0, .int .i64 a1_1, .int .i64 a1_2, .int .i32 a1_3, .int .i64 a1_4, .int .u64 a1_5]) (t := 27) ?hr ?_; (case hd => rfl); (case hg => rfl); (case hr => first | (go_simp; done) | (go_simp; rfl)); intro gb104 hg w13 hbox hb; have n0_ := Aside0.mk (blk_below (g := gb103) (o := .cells #[.slice A0_0 l0_0.length c0_0, .int .i64 a0_1, .int .i64 a0_2, .int .i32 a0_3, .int .i64 a0_4, .int .u64 a0_5] 27 (0, 0)) (by (with_reducible repeat (first | refine blk_drewN ?_ _ | refine blk_drew ?_ | refine blk_alloc ?_ _)); exact BK103.out) hb); have n1_ := Aside0.mk (below_step (by repeat (first | (with_reducible first | exact HB.out | apply below_alloc | apply pw_below_drewN | apply below_drew1 | refine below_set ?_ GE103.out) | exact HB.out)) hb); have n2_ := Aside0.mk (hbox); have n3_ := Aside0.mk ((by rw [hg]; exact (below_size (by repeat (first | (with_reducible first | exact HB.out | apply below_alloc | apply pw_below_drewN | apply below_drew1 | refine below_set ?_ GE103.out) | exact HB.out))) : w.heap.size ≤ gb104)); have n4_ := Aside0.mk ((by rw [hg]; exact (below_size (by repeat (first | (with_reducible first | exact HB.out | apply below_alloc | apply pw_below_drewN | apply below_drew1 | refine below_set ?_ GE103.out) | exact HB.out))) : w.heap.size ≤ gb104)); have n5_ := Aside0.mk ((by rw [hg]; exact Nat.ne_of_lt (blk_lt (g := gb103) (o := .cells #[.slice A0_0 l0_0.length c0_0, .int .i64 a0_1, .int .i64 a0_2, .int .i32 a0_3, .int .i64 a0_4, .int .u64 a0_5] 27 (0, 0)) (by (with_reducible repeat (first | refine blk_drewN ?_ _ | refine blk_drew ?_ | refine blk_alloc ?_ _)); exact BK103.out)) : gb103 ≠ gb104)); have n6_ := Aside0.mk ((by rw [hg]; exact Nat.ne_of_gt (blk_lt (g := gb103) (o := .cells #[.slice A0_0 l0_0.length c0_0, .int .i64 a0_1, .int .i64 a0_2, .int .i32 a0_3, .int .i64 a0_4, .int .u64 a0_5] 27 (0, 0)) (by (with_reducible repeat (first | refine blk_drewN ?_ _ | refine blk_drew ?_ | refine blk_alloc ?_ _)); exact BK103.out)) : gb104 ≠ gb103)); clear BK103; clear HB; have BK103 := n0_; have HB := n1_; have BK104 := n2_; have GW104 := n3_; have GE104 := n4_; have NB103_104 := n5_; have NB104_103 := n6_; clear n0_ n1_ n2_ n3_ n4_ n5_ n6_; clear hb hbox hg; have hnb14 := NB103_104.out; have hnc14 := NB104_103.out; have hcz15_0 : w13.cell? ⟨gb103, 0, none⟩ = some (.slice A0_0 l0_0.length c0_0) := (blk_cell BK103.out 0).trans rfl; have hcz15_1 : w13.cell? ⟨gb103, 1, none⟩ = some (.int .i64 a0_1) := (blk_cell BK103.out 1).trans rfl; have hcz15_2 : w13.cell? ⟨gb103, 2, none⟩ = some (.int .i64 a0_2) := (blk_cell BK103.out 2).trans rfl; have hcz15_3 : w13.cell? ⟨gb103, 3, none⟩ = some (.int .i32 a0_3) := (blk_cell BK103.out 3).trans rfl; have hcz15_4 : w13.cell? ⟨gb103, 4, none⟩ = some (.int .i64 a0_4) := (blk_cell BK103.out 4).trans rfl; have hcz15_5 : w13.cell? ⟨gb103, 5, none⟩ = some (.int .u64 a0_5) := (blk_cell BK103.out 5).trans rfl; have hfz15_0 := blk_frozen BK103.out 0; have hfz15_1 := blk_frozen BK103.out 1; have hfz15_2 := blk_frozen BK103.out 2; have hfz15_3 := blk_frozen BK103.out 3; have hfz15_4 := blk_frozen BK103.out 4; have hfz15_5 := blk_frozen BK103.out 5; have hcz16_0 : w13.cell? ⟨gb104, 0, none⟩ = some (.slice A1_0 l1_0.length c1_0) := (blk_cell BK104.out 0).trans rfl; have hcz16_1 : w13.cell? ⟨gb104, 1, none⟩ = some (.int .i64 a1_1) := (blk_cell BK104.out 1).trans rfl; have hcz16_2 : w13.cell? ⟨gb104, 2, none⟩ = some (.int .i64 a1_2) := (blk_cell BK104.out 2).trans rfl; have hcz16_3 : w13.cell? ⟨gb104, 3, none⟩ = some (.int .i32 a1_3) := (blk_cell BK104.out 3).trans rfl; have hcz16_4 : w13.cell? ⟨gb104, 4, none⟩ = some (.int .i64 a1_4) := (blk_cell BK104.out 4).trans rfl; have hcz16_5 : w13.cell? ⟨gb104, 5, none⟩ = some (.int .u64 a1_5) := (blk_cell BK104.out 5).trans rfl; have hfz16_0 := blk_frozen BK104.out 0; have hfz16_1 := blk_frozen BK104.out 1; have hfz16_2 := blk_frozen BK104.out 2; have hfz16_3 := blk_frozen BK104.out 3; have hfz16_4 := blk_frozen BK104.out 4; have hfz16_5 := blk_frozen BK104.out 5) | ((with_reducible refine gate_callee (f := 10) rfl ?_); refine goesL_ (some 9) rfl rfl Tryz.func10 (by kernel_rfl) rfl #[.slice A0_0 l0_0.length c0_0, .slice A1_0 l1_0.length c1_0] rfl (by (try simp only [List.map_toArray, List.map_cons, List.map_nil]); first | done | rfl | (simp only [List.length_drop, List.length_take]; rfl)) ?_; (with_reducible refine (slices_Equal_int_int.calls k _ _ l0_0 _ _ l1_0 true _ ?side1 ?side2 ?side3 ?side4 A3.out).mono ?_); (case side1 => repeat (first | exact (Kd.C_below HR0_0.out HB.out) | (with_reducible refine Kd.C_alloc ?_ _) | (with_reducible refine Kd.C_drewN ?_ _) | (with_reducible refine Kd.C_drew ?_))); (case side2 => exact HC0_0.out); (case side3 => repeat (first | exact (Kd.C_below HR1_0.out HB.out) | (with_reducible refine Kd.C_alloc ?_ _) | (with_reducible refine Kd.C_drewN ?_ _) | (with_reducible refine Kd.C_drew ?_))); (case side4 => exact HC1_0.out); rintro e w' ⟨rfl, ⟨nd, rfl⟩⟩; refine ⟨_, rfl, ?_⟩))
        go_ret
        exact ⟨by first | rfl | (simp [errW_none, errW_some] <;> rfl) | (simp [*, errW_none, errW_some] <;> rfl), by repeat (first | (with_reducible first | exact HB.out | apply below_alloc | apply pw_below_drewN | apply below_drew1 | refine below_set ?_ GE103.out | refine below_set ?_ GE104.out) | exact HB.out)⟩
    · rw [if_neg c5] at H
      have c5b0 : (a0_1 == a1_1) = false := beq_eq_false_iff_ne.mpr c5
      have c5b1 : (a0_1 != a1_1) = true := bne_iff_ne.mpr c5
      obtain rfl := Option.some.inj H
      go_enter Tryz.func6, Tryz.ntmps6
      go_wp2_with (first | ((with_reducible refine gate_dst (N := 2) rfl ?_); refine box_event ?hg (N := 2) ?hd (cs := #[.slice A0_0 l0_0.length c0_0, .int .i64 a0_1, .int .i64 a0_2, .int .i32 a0_3, .int .i64 a0_4, .int .u64 a0_5]) (t := 27) ?hr ?_; (case hd => rfl); (case hg => rfl); (case hr => first | (go_simp; done) | (go_simp; rfl)); intro gb103 hg w17 hbox hb; have n0_ := Aside0.mk (below_step (by repeat (first | (with_reducible first | exact HB.out | apply below_alloc | apply pw_below_drewN | apply below_drew1) | exact HB.out)) hb); have n1_ := Aside0.mk (hbox); have n2_ := Aside0.mk ((by rw [hg]; exact (below_size (by repeat (first | (with_reducible first | exact HB.out | apply below_alloc | apply pw_below_drewN | apply below_drew1) | exact HB.out))) : w.heap.size ≤ gb103)); have n3_ := Aside0.mk ((by rw [hg]; exact (below_size (by repeat (first | (with_reducible first | exact HB.out | apply below_alloc | apply pw_below_drewN | apply below_drew1) | exact HB.out))) : w.heap.size ≤ gb103)); clear HB; have HB := n0_; have BK103 := n1_; have GW103 := n2_; have GE103 := n3_; clear n0_ n1_ n2_ n3_; clear hb hbox hg) | ((with_reducible refine gate_dst (N := 3) rfl ?_); refine box_event ?hg (N := 3) ?hd (cs := #[.slice A1_0 l1_0.length c1_0, .int .i64 a1_1, .int .i64 a1_2, .int .i32 a1_3, .int .i64 a1_4, .int .u64 a1_5]) (t := 27) ?hr ?_; (case hd => rfl); (case hg => rfl); (case hr => first | (go_simp; done) | (go_simp; rfl)); intro gb104 hg w18 hbox hb; have n0_ := Aside0.mk (blk_below (g := gb103) (o := .cells #[.slice A0_0 l0_0.length c0_0, .int .i64 a0_1, .int .i64 a0_2, .int .i32 a0_3, .int .i64 a0_4, .int .u64 a0_5] 27 (0, 0)) (by (with_reducible repeat (first | refine blk_drewN ?_ _ | refine blk_drew ?_ | refine blk_alloc ?_ _)); exact BK103.out) hb); have n1_ := Aside0.mk (below_step (by repeat (first | (with_reducible first | exact HB.out | apply below_alloc | apply pw_below_drewN | apply below_drew1 | refine below_set ?_ GE103.out) | exact HB.out)) hb); have n2_ := Aside0.mk (hbox); have n3_ := Aside0.mk ((by rw [hg]; exact (below_size (by repeat (first | (with_reducible first | exact HB.out | apply below_alloc | apply pw_below_drewN | apply below_drew1 | refine below_set ?_ GE103.out) | exact HB.out))) : w.heap.size ≤ gb104)); have n4_ := Aside0.mk ((by rw [hg]; exact (below_size (by repeat (first | (with_reducible first | exact HB.out | apply below_alloc | apply pw_below_drewN | apply below_drew1 | refine below_set ?_ GE103.out) | exact HB.out))) : w.heap.size ≤ gb104)); have n5_ := Aside0.mk ((by rw [hg]; exact Nat.ne_of_lt (blk_lt (g := gb103) (o := .cells #[.slice A0_0 l0_0.length c0_0, .int .i64 a0_1, .int .i64 a0_2, .int .i32 a0_3, .int .i64 a0_4, .int .u64 a0_5] 27 (0, 0)) (by (with_reducible repeat (first | refine blk_drewN ?_ _ | refine blk_drew ?_ | refine blk_alloc ?_ _)); exact BK103.out)) : gb103 ≠ gb104)); have n6_ := Aside0.mk ((by rw [hg]; exact Nat.ne_of_gt (blk_lt (g := gb103) (o := .cells #[.slice A0_0 l0_0.length c0_0, .int .i64 a0_1, .int .i64 a0_2, .int .i32 a0_3, .int .i64 a0_4, .int .u64 a0_5] 27 (0, 0)) (by (with_reducible repeat (first | refine blk_drewN ?_ _ | refine blk_drew ?_ | refine blk_alloc ?_ _)); exact BK103.out)) : gb104 ≠ gb103)); clear BK103; clear HB; have BK103 := n0_; have HB := n1_; have BK104 := n2_; have GW104 := n3_; have GE104 := n4_; have NB103_104 := n5_; have NB104_103 := n6_; clear n0_ n1_ n2_ n3_ n4_ n5_ n6_; clear hb hbox hg; have hnb19 := NB103_104.out; have hnc19 := NB104_103.out; have hcz20_0 : w18.cell? ⟨gb103, 0, none⟩ = some (.slice A0_0 l0_0.length c0_0) := (blk_cell BK103.out 0).trans rfl; have hcz20_1 : w18.cell? ⟨gb103, 1, none⟩ = some (.int .i64 a0_1) := (blk_cell BK103.out 1).trans rfl; have hcz20_2 : w18.cell? ⟨gb103, 2, none⟩ = some (.int .i64 a0_2) := (blk_cell BK103.out 2).trans rfl; have hcz20_3 : w18.cell? ⟨gb103, 3, none⟩ = some (.int .i32 a0_3) := (blk_cell BK103.out 3).trans rfl; have hcz20_4 : w18.cell? ⟨gb103, 4, none⟩ = some (.int .i64 a0_4) := (blk_cell BK103.out 4).trans rfl; have hcz20_5 : w18.cell? ⟨gb103, 5, none⟩ = some (.int .u64 a0_5) := (blk_cell BK103.out 5).trans rfl; have hfz20_0 := blk_frozen BK103.out 0; have hfz20_1 := blk_frozen BK103.out 1; have hfz20_2 := blk_frozen BK103.out 2; have hfz20_3 := blk_frozen BK103.out 3; have hfz20_4 := blk_frozen BK103.out 4; have hfz20_5 := blk_frozen BK103.out 5; have hcz21_0 : w18.cell? ⟨gb104, 0, none⟩ = some (.slice A1_0 l1_0.length c1_0) := (blk_cell BK104.out 0).trans rfl; have hcz21_1 : w18.cell? ⟨gb104, 1, none⟩ = some (.int .i64 a1_1) := (blk_cell BK104.out 1).trans rfl; have hcz21_2 : w18.cell? ⟨gb104, 2, none⟩ = some (.int .i64 a1_2) := (blk_cell BK104.out 2).trans rfl; have hcz21_3 : w18.cell? ⟨gb104, 3, none⟩ = some (.int .i32 a1_3) := (blk_cell BK104.out 3).trans rfl; have hcz21_4 : w18.cell? ⟨gb104, 4, none⟩ = some (.int .i64 a1_4) := (blk_cell BK104.out 4).trans rfl; have hcz21_5 : w18.cell? ⟨gb104, 5, none⟩ = some (.int .u64 a1_5) := (blk_cell BK104.out 5).trans rfl; have hfz21_0 := blk_frozen BK104.out 0; have hfz21_1 := blk_frozen BK104.out 1; have hfz21_2 := blk_frozen BK104.out 2; have hfz21_3 := blk_frozen BK104.out 3; have hfz21_4 := blk_frozen BK104.out 4; have hfz21_5 := blk_frozen BK104.out 5) | ((with_reducible refine gate_callee (f := 10) rfl ?_); refine goesL_ (some 9) rfl rfl Tryz.func10 (by kernel_rfl) rfl #[.slice A0_0 l0_0.length c0_0, .slice A1_0 l1_0.length c1_0] rfl (by (try simp only [List.map_toArray, List.map_cons, List.map_nil]); first | done | rfl | (simp only [List.length_drop, List.length_take]; rfl)) ?_; (with_reducible refine (slices_Equal_int_int.calls k _ _ l0_0 _ _ l1_0 true _ ?side1 ?side2 ?side3 ?side4 A3.out).mono ?_); (case side1 => repeat (first | exact (Kd.C_below HR0_0.out HB.out) | (with_reducible refine Kd.C_alloc ?_ _) | (with_reducible refine Kd.C_drewN ?_ _) | (with_reducible refine Kd.C_drew ?_))); (case side2 => exact HC0_0.out); (case side3 => repeat (first | exact (Kd.C_below HR1_0.out HB.out) | (with_reducible refine Kd.C_alloc ?_ _) | (with_reducible refine Kd.C_drewN ?_ _) | (with_reducible refine Kd.C_drew ?_))); (case side4 => exact HC1_0.out); rintro e w' ⟨rfl, ⟨nd, rfl⟩⟩; refine ⟨_, rfl, ?_⟩))
      go_ret
      exact ⟨by first | rfl | (simp [errW_none, errW_some] <;> rfl) | (simp [*, errW_none, errW_some] <;> rfl), by repeat (first | (with_reducible first | exact HB.out | apply below_alloc | apply pw_below_drewN | apply below_drew1 | refine below_set ?_ GE103.out | refine below_set ?_ GE104.out) | exact HB.out)⟩
  · replace c4 := Bool.eq_false_iff.mpr c4
    subst c4
    have H1 : (some false) = some r := by rw [if_neg (show ¬ (false = true) by decide)] at H; exact H
    clear H
    have H := H1
    clear H1
    obtain rfl := Option.some.inj H
    go_enter Tryz.func6, Tryz.ntmps6
    go_wp2_with (first | ((with_reducible refine gate_dst (N := 2) rfl ?_); refine box_event ?hg (N := 2) ?hd (cs := #[.slice A0_0 l0_0.length c0_0, .int .i64 a0_1, .int .i64 a0_2, .int .i32 a0_3, .int .i64 a0_4, .int .u64 a0_5]) (t := 27) ?hr ?_; (case hd => rfl); (case hg => rfl); (case hr => first | (go_simp; done) | (go_simp; rfl)); intro gb103 hg w22 hbox hb; have n0_ := Aside0.mk (below_step (by repeat (first | (with_reducible first | exact HB.out | apply below_alloc | apply pw_below_drewN | apply below_drew1) | exact HB.out)) hb); have n1_ := Aside0.mk (hbox); have n2_ := Aside0.mk ((by rw [hg]; exact (below_size (by repeat (first | (with_reducible first | exact HB.out | apply below_alloc | apply pw_below_drewN | apply below_drew1) | exact HB.out))) : w.heap.size ≤ gb103)); have n3_ := Aside0.mk ((by rw [hg]; exact (below_size (by repeat (first | (with_reducible first | exact HB.out | apply below_alloc | apply pw_below_drewN | apply below_drew1) | exact HB.out))) : w.heap.size ≤ gb103)); clear HB; have HB := n0_; have BK103 := n1_; have GW103 := n2_; have GE103 := n3_; clear n0_ n1_ n2_ n3_; clear hb hbox hg) | ((with_reducible refine gate_dst (N := 3) rfl ?_); refine box_event ?hg (N := 3) ?hd (cs := #[.slice A1_0 l1_0.length c1_0, .int .i64 a1_1, .int .i64 a1_2, .int .i32 a1_3, .int .i64 a1_4, .int .u64 a1_5]) (t := 27) ?hr ?_; (case hd => rfl); (case hg => rfl); (case hr => first | (go_simp; done) | (go_simp; rfl)); intro gb104 hg w23 hbox hb; have n0_ := Aside0.mk (blk_below (g := gb103) (o := .cells #[.slice A0_0 l0_0.length c0_0, .int .i64 a0_1, .int .i64 a0_2, .int .i32 a0_3, .int .i64 a0_4, .int .u64 a0_5] 27 (0, 0)) (by (with_reducible repeat (first | refine blk_drewN ?_ _ | refine blk_drew ?_ | refine blk_alloc ?_ _)); exact BK103.out) hb); have n1_ := Aside0.mk (below_step (by repeat (first | (with_reducible first | exact HB.out | apply below_alloc | apply pw_below_drewN | apply below_drew1 | refine below_set ?_ GE103.out) | exact HB.out)) hb); have n2_ := Aside0.mk (hbox); have n3_ := Aside0.mk ((by rw [hg]; exact (below_size (by repeat (first | (with_reducible first | exact HB.out | apply below_alloc | apply pw_below_drewN | apply below_drew1 | refine below_set ?_ GE103.out) | exact HB.out))) : w.heap.size ≤ gb104)); have n4_ := Aside0.mk ((by rw [hg]; exact (below_size (by repeat (first | (with_reducible first | exact HB.out | apply below_alloc | apply pw_below_drewN | apply below_drew1 | refine below_set ?_ GE103.out) | exact HB.out))) : w.heap.size ≤ gb104)); have n5_ := Aside0.mk ((by rw [hg]; exact Nat.ne_of_lt (blk_lt (g := gb103) (o := .cells #[.slice A0_0 l0_0.length c0_0, .int .i64 a0_1, .int .i64 a0_2, .int .i32 a0_3, .int .i64 a0_4, .int .u64 a0_5] 27 (0, 0)) (by (with_reducible repeat (first | refine blk_drewN ?_ _ | refine blk_drew ?_ | refine blk_alloc ?_ _)); exact BK103.out)) : gb103 ≠ gb104)); have n6_ := Aside0.mk ((by rw [hg]; exact Nat.ne_of_gt (blk_lt (g := gb103) (o := .cells #[.slice A0_0 l0_0.length c0_0, .int .i64 a0_1, .int .i64 a0_2, .int .i32 a0_3, .int .i64 a0_4, .int .u64 a0_5] 27 (0, 0)) (by (with_reducible repeat (first | refine blk_drewN ?_ _ | refine blk_drew ?_ | refine blk_alloc ?_ _)); exact BK103.out)) : gb104 ≠ gb103)); clear BK103; clear HB; have BK103 := n0_; have HB := n1_; have BK104 := n2_; have GW104 := n3_; have GE104 := n4_; have NB103_104 := n5_; have NB104_103 := n6_; clear n0_ n1_ n2_ n3_ n4_ n5_ n6_; clear hb hbox hg; have hnb24 := NB103_104.out; have hnc24 := NB104_103.out; have hcz25_0 : w23.cell? ⟨gb103, 0, none⟩ = some (.slice A0_0 l0_0.length c0_0) := (blk_cell BK103.out 0).trans rfl; have hcz25_1 : w23.cell? ⟨gb103, 1, none⟩ = some (.int .i64 a0_1) := (blk_cell BK103.out 1).trans rfl; have hcz25_2 : w23.cell? ⟨gb103, 2, none⟩ = some (.int .i64 a0_2) := (blk_cell BK103.out 2).trans rfl; have hcz25_3 : w23.cell? ⟨gb103, 3, none⟩ = some (.int .i32 a0_3) := (blk_cell BK103.out 3).trans rfl; have hcz25_4 : w23.cell? ⟨gb103, 4, none⟩ = some (.int .i64 a0_4) := (blk_cell BK103.out 4).trans rfl; have hcz25_5 : w23.cell? ⟨gb103, 5, none⟩ = some (.int .u64 a0_5) := (blk_cell BK103.out 5).trans rfl; have hfz25_0 := blk_frozen BK103.out 0; have hfz25_1 := blk_frozen BK103.out 1; have hfz25_2 := blk_frozen BK103.out 2; have hfz25_3 := blk_frozen BK103.out 3; have hfz25_4 := blk_frozen BK103.out 4; have hfz25_5 := blk_frozen BK103.out 5; have hcz26_0 : w23.cell? ⟨gb104, 0, none⟩ = some (.slice A1_0 l1_0.length c1_0) := (blk_cell BK104.out 0).trans rfl; have hcz26_1 : w23.cell? ⟨gb104, 1, none⟩ = some (.int .i64 a1_1) := (blk_cell BK104.out 1).trans rfl; have hcz26_2 : w23.cell? ⟨gb104, 2, none⟩ = some (.int .i64 a1_2) := (blk_cell BK104.out 2).trans rfl; have hcz26_3 : w23.cell? ⟨gb104, 3, none⟩ = some (.int .i32 a1_3) := (blk_cell BK104.out 3).trans rfl; have hcz26_4 : w23.cell? ⟨gb104, 4, none⟩ = some (.int .i64 a1_4) := (blk_cell BK104.out 4).trans rfl; have hcz26_5 : w23.cell? ⟨gb104, 5, none⟩ = some (.int .u64 a1_5) := (blk_cell BK104.out 5).trans rfl; have hfz26_0 := blk_frozen BK104.out 0; have hfz26_1 := blk_frozen BK104.out 1; have hfz26_2 := blk_frozen BK104.out 2; have hfz26_3 := blk_frozen BK104.out 3; have hfz26_4 := blk_frozen BK104.out 4; have hfz26_5 := blk_frozen BK104.out 5) | ((with_reducible refine gate_callee (f := 10) rfl ?_); refine goesL_ (some 9) rfl rfl Tryz.func10 (by kernel_rfl) rfl #[.slice A0_0 l0_0.length c0_0, .slice A1_0 l1_0.length c1_0] rfl (by (try simp only [List.map_toArray, List.map_cons, List.map_nil]); first | done | rfl | (simp only [List.length_drop, List.length_take]; rfl)) ?_; (with_reducible refine (slices_Equal_int_int.calls k _ _ l0_0 _ _ l1_0 false _ ?side1 ?side2 ?side3 ?side4 A3.out).mono ?_); (case side1 => repeat (first | exact (Kd.C_below HR0_0.out HB.out) | (with_reducible refine Kd.C_alloc ?_ _) | (with_reducible refine Kd.C_drewN ?_ _) | (with_reducible refine Kd.C_drew ?_))); (case side2 => exact HC0_0.out); (case side3 => repeat (first | exact (Kd.C_below HR1_0.out HB.out) | (with_reducible refine Kd.C_alloc ?_ _) | (with_reducible refine Kd.C_drewN ?_ _) | (with_reducible refine Kd.C_drew ?_))); (case side4 => exact HC1_0.out); rintro e w' ⟨rfl, ⟨nd, rfl⟩⟩; refine ⟨_, rfl, ?_⟩))
    go_ret
    exact ⟨by first | rfl | (simp [errW_none, errW_some] <;> rfl) | (simp [*, errW_none, errW_some] <;> rfl), by repeat (first | (with_reducible first | exact HB.out | apply below_alloc | apply pw_below_drewN | apply below_drew1 | refine below_set ?_ GE103.out | refine below_set ?_ GE104.out) | exact HB.out)⟩

end Go.Proofs.YtgapfnckannnfaaGreat.Q

namespace Go.Proofs.YtgapfnckannnfaaGreat.Q
open Go.RowKit Go.Proofs.YtgapfnckannnfaaGreatW.PrintWords Go.Proofs.YtgapfnckannnfaaGreatW.PrintLast Go.Proofs.YtgapfnckannnfaaGreatW.PrintMore
attribute [local go_sem] max2_int min2_int max_two min_two max_three min_three max_four min_four   -- for this text's walks alone
set_option linter.unusedVariables false
set_option linter.unusedSimpArgs false

/-! ### credenzalaw21_GenEquals: function 3 -/
def credenzalaw21_GenEquals.j0 : Nat → Bool → List Int → Int → Int → Int → Int → Int → List Int → Int → Int → Int → Int → Int → Option (Bool)
  | 0, _, _, _, _, _, _, _, _, _, _, _, _, _ => none
  | k + 1, x15, x397000, x397001, x397002, x397003, x397004, x397005, x398000, x398001, x398002, x398003, x398004, x398005 => if x15 = true then ((credenzalaw21_awake.f).bind fun t398 => (some t398)) else ((credenzalaw21_same.f k x397000 x398000).bind fun t399 => (if t399 = true then (if x397001 = x398001 then (if x397002 = x398002 then (if x397003 = x398003 then (if x397004 = x398004 then ((gen_Equal.f k x397000 x397001 x397002 x397003 x397004 x397005 x398000 x398001 x398002 x398003 x398004 x398005).bind fun t400 => (if (t400 == (x397005 == x398005)) = true then ((gen_Equal.f k x398000 x398001 x398002 x398003 x398004 x398005 x397000 x397001 x397002 x397003 x397004 x397005).bind fun t401 => (if (t401 == (x397005 == x398005)) = true then ((credenzalaw21_awake.f).bind fun t402 => (some t402)) else (some false))) else (some false))) else ((gen_Equal.f k x397000 x397001 x397002 x397003 x397004 x397005 x398000 x398001 x398002 x398003 x398004 x398005).bind fun t403 => (if (t403 == false) = true then ((gen_Equal.f k x398000 x398001 x398002 x398003 x398004 x398005 x397000 x397001 x397002 x397003 x397004 x397005).bind fun t404 => (if (t404 == false) = true then ((credenzalaw21_awake.f).bind fun t405 => (some t405)) else (some false))) else (some false)))) else ((gen_Equal.f k x397000 x397001 x397002 x397003 x397004 x397005 x398000 x398001 x398002 x398003 x398004 x398005).bind fun t406 => (if (t406 == false) = true then ((gen_Equal.f k x398000 x398001 x398002 x398003 x398004 x398005 x397000 x397001 x397002 x397003 x397004 x397005).bind fun t407 => (if (t407 == false) = true then ((credenzalaw21_awake.f).bind fun t408 => (some t408)) else (some false))) else (some false)))) else ((gen_Equal.f k x397000 x397001 x397002 x397003 x397004 x397005 x398000 x398001 x398002 x398003 x398004 x398005).bind fun t409 => (if (t409 == false) = true then ((gen_Equal.f k x398000 x398001 x398002 x398003 x398004 x398005 x397000 x397001 x397002 x397003 x397004 x397005).bind fun t410 => (if (t410 == false) = true then ((credenzalaw21_awake.f).bind fun t411 => (some t411)) else (some false))) else (some false)))) else ((gen_Equal.f k x397000 x397001 x397002 x397003 x397004 x397005 x398000 x398001 x398002 x398003 x398004 x398005).bind fun t412 => (if (t412 == false) = true then ((gen_Equal.f k x398000 x398001 x398002 x398003 x398004 x398005 x397000 x397001 x397002 x397003 x397004 x397005).bind fun t413 => (if (t413 == false) = true then ((credenzalaw21_awake.f).bind fun t414 => (some t414)) else (some false))) else (some false)))) else ((gen_Equal.f k x397000 x397001 x397002 x397003 x397004 x397005 x398000 x398001 x398002 x398003 x398004 x398005).bind fun t415 => (if (t415 == false) = true then ((gen_Equal.f k x398000 x398001 x398002 x398003 x398004 x398005 x397000 x397001 x397002 x397003 x397004 x397005).bind fun t416 => (if (t416 == false) = true then ((credenzalaw21_awake.f).bind fun t417 => (some t417)) else (some false))) else (some false)))))
def credenzalaw21_GenEquals.f (k : Nat) (l0_0 : List Int) (a0_1 : Int) (a0_2 : Int) (a0_3 : Int) (a0_4 : Int) (a0_5 : Int) (l1_0 : List Int) (a1_1 : Int) (a1_2 : Int) (a1_3 : Int) (a1_4 : Int) (a1_5 : Int) : Option (Bool) := if (l0_0.length : Int) > 200 then (credenzalaw21_GenEquals.j0 k true l0_0 a0_1 a0_2 a0_3 a0_4 a0_5 l1_0 a1_1 a1_2 a1_3 a1_4 a1_5) else (credenzalaw21_GenEquals.j0 k (decide ((l1_0.length : Int) > 200)) l0_0 a0_1 a0_2 a0_3 a0_4 a0_5 l1_0 a1_1 a1_2 a1_3 a1_4 a1_5)
theorem credenzalaw21_GenEquals.mono_l : ∀ k, (∀ y0 y1 y2 y3 y4 y5 y6 y7 y8 y9 y10 y11 y12, LeO (credenzalaw21_GenEquals.j0 k y0 y1 y2 y3 y4 y5 y6 y7 y8 y9 y10 y11 y12) (credenzalaw21_GenEquals.j0 (k + 1) y0 y1 y2 y3 y4 y5 y6 y7 y8 y9 y10 y11 y12))
  | 0 => fun _ _ _ _ _ _ _ _ _ _ _ _ _ r h => by simp [credenzalaw21_GenEquals.j0] at h
  | k + 1 => by
    have ih0 := credenzalaw21_GenEquals.mono_l k
    · intro y0 y1 y2 y3 y4 y5 y6 y7 y8 y9 y10 y11 y12
      unfold credenzalaw21_GenEquals.j0
      repeat' first
      | (with_reducible exact ih0 _ _ _ _ _ _ _ _ _ _ _ _ _)
      | (with_reducible exact credenzalaw21_same.mono _ _ _)
      | (with_reducible exact gen_Equal.mono _ _ _ _ _ _ _ _ _ _ _ _ _)
      | (with_reducible exact LeO.refl _)
      | (with_reducible exact LeO.none _)
      | (with_reducible refine LeO.ite ?_ ?_)
      | (with_reducible refine LeO.bind ?_ (fun _ => ?_))
      | exact ih0 _ _ _ _ _ _ _ _ _ _ _ _ _
      | exact credenzalaw21_same.mono _ _ _
      | exact gen_Equal.mono _ _ _ _ _ _ _ _ _ _ _ _ _
      | exact LeO.none _
      | refine LeO.ite ?_ ?_
      | refine LeO.bind ?_ (fun _ => ?_)
theorem credenzalaw21_GenEquals.mono : ∀ a0 a1 a2 a3 a4 a5 a6 a7 a8 a9 a10 a11 k, LeO (credenzalaw21_GenEquals.f k a0 a1 a2 a3 a4 a5 a6 a7 a8 a9 a10 a11) (credenzalaw21_GenEquals.f (k + 1) a0 a1 a2 a3 a4 a5 a6 a7 a8 a9 a10 a11) := by
  intro a0 a1 a2 a3 a4 a5 a6 a7 a8 a9 a10 a11 k
  have ih0 := credenzalaw21_GenEquals.mono_l k
  unfold credenzalaw21_GenEquals.f
  repeat' first
      | (with_reducible exact ih0 _ _ _ _ _ _ _ _ _ _ _ _ _)
      | (with_reducible exact credenzalaw21_same.mono _ _ _)
      | (with_reducible exact gen_Equal.mono _ _ _ _ _ _ _ _ _ _ _ _ _)
      | (with_reducible exact LeO.refl _)
      | (with_reducible exact LeO.none _)
      | (with_reducible refine LeO.ite ?_ ?_)
      | (with_reducible refine LeO.bind ?_ (fun _ => ?_))
      | exact ih0 _ _ _ _ _ _ _ _ _ _ _ _ _
      | exact credenzalaw21_same.mono _ _ _
      | exact gen_Equal.mono _ _ _ _ _ _ _ _ _ _ _ _ _
      | exact LeO.none _
      | refine LeO.ite ?_ ?_
      | refine LeO.bind ?_ (fun _ => ?_)
set_option maxHeartbeats 8000000 in
set_option maxRecDepth 100000 in
theorem credenzalaw21_GenEquals.calls (k : Nat) (A0_0 : Option Addr) (c0_0 : Nat) (l0_0 : List Int) (a0_1 : Int) (a0_2 : Int) (a0_3 : Int) (a0_4 : Int) (a0_5 : Int) (A1_0 : Option Addr) (c1_0 : Nat) (l1_0 : List Int) (a1_1 : Int) (a1_2 : Int) (a1_3 : Int) (a1_4 : Int) (a1_5 : Int) (r : Bool) (w : World) (hr0_0 : Kd.C (Kd.int .i64) w A0_0 l0_0.length l0_0) (hc0_0 : l0_0.length ≤ c0_0) (hr1_0 : Kd.C (Kd.int .i64) w A1_0 l1_0.length l1_0) (hc1_0 : l1_0.length ≤ c1_0) (h : credenzalaw21_GenEquals.f k l0_0 a0_1 a0_2 a0_3 a0_4 a0_5 l1_0 a1_1 a1_2 a1_3 a1_4 a1_5 = some r) :
    Calls Tryz.prog 3 #[.agg #[.slice A0_0 l0_0.length c0_0, .int .i64 a0_1, .int .i64 a0_2, .int .i32 a0_3, .int .i64 a0_4, .int .u64 a0_5], .agg #[.slice A1_0 l1_0.length c1_0, .int .i64 a1_1, .int .i64 a1_2, .int .i32 a1_3, .int .i64 a1_4, .int .u64 a1_5]] w fun e w' => e = .returned (.bool r) ∧ Below w.heap.size w w' := by
  have hu27 := Tryz.underlying27
  have HR0_0 := Aside0.mk hr0_0
  have HC0_0 := Aside0.mk hc0_0
  clear hr0_0 hc0_0
  have HR1_0 := Aside0.mk hr1_0
  have HC1_0 := Aside0.mk hc1_0
  clear hr1_0 hc1_0
  have HB := Aside0.mk (Below.refl w.heap.size w)
  have H : (if (l0_0.length : Int) > 200 then (credenzalaw21_GenEquals.j0 k true l0_0 a0_1 a0_2 a0_3 a0_4 a0_5 l1_0 a1_1 a1_2 a1_3 a1_4 a1_5) else (credenzalaw21_GenEquals.j0 k (decide ((l1_0.length : Int) > 200)) l0_0 a0_1 a0_2 a0_3 a0_4 a0_5 l1_0 a1_1 a1_2 a1_3 a1_4 a1_5)) = some r := h
  clear h
  have HC3 := Aside0.mk H
  clear H
  go_enter Tryz.func3, Tryz.ntmps3
  go_upto_region 1 with (first | ((with_reducible refine gate_dst (N := 2) rfl ?_); (try (refine gate_guard (by rfl) ?_; dsimp only)); refine box_event ?hg (N := 2) ?hd (cs := #[.slice A0_0 l0_0.length c0_0, .int .i64 a0_1, .int .i64 a0_2, .int .i32 a0_3, .int .i64 a0_4, .int .u64 a0_5]) (t := 27) ?hr ?_; (case hd => rfl); (case hg => rfl); (case hr => first | (go_simp; done) | (go_simp; rfl)); intro gb396 hg w4 hbox hb; have n0_ := Aside0.mk (below_step (by repeat (first | (with_reducible first | exact HB.out | apply below_alloc | apply pw_below_drewN | apply below_drew1) | exact HB.out)) hb); have n1_ := Aside0.mk (hbox); have n2_ := Aside0.mk ((by rw [hg]; exact (below_size (by repeat (first | (with_reducible first | exact HB.out | apply below_alloc | apply pw_below_drewN | apply below_drew1) | exact HB.out))) : w.heap.size ≤ gb396)); have n3_ := Aside0.mk ((by rw [hg]; exact (below_size (by repeat (first | (with_reducible first | exact HB.out | apply below_alloc | apply pw_below_drewN | apply below_drew1) | exact HB.out))) : w.heap.size ≤ gb396)); clear HB; have HB := n0_; have BK396 := n1_; have GW396 := n2_; have GE396 := n3_; clear n0_ n1_ n2_ n3_; clear hb hbox hg) | ((with_reducible refine gate_dst (N := 3) rfl ?_); (try (refine gate_guard (by rfl) ?_; dsimp only)); refine box_event ?hg (N := 3) ?hd (cs := #[.slice A1_0 l1_0.length c1_0, .int .i64 a1_1, .int .i64 a1_2, .int .i32 a1_3, .int .i64 a1_4, .int .u64 a1_5]) (t := 27) ?hr ?_; (case hd => rfl); (case hg => rfl); (case hr => first | (go_simp; done) | (go_simp; rfl)); intro gb397 hg w5 hbox hb; have n0_ := Aside0.mk (blk_below (g := gb396) (o := .cells #[.slice A0_0 l0_0.length c0_0, .int .i64 a0_1, .int .i64 a0_2, .int .i32 a0_3, .int .i64 a0_4, .int .u64 a0_5] 27 (0, 0)) (by (with_reducible repeat (first | refine blk_drewN ?_ _ | refine blk_drew ?_ | refine blk_alloc ?_ _)); exact BK396.out) hb); have n1_ := Aside0.mk (below_step (by repeat (first | (with_reducible first | exact HB.out | apply below_alloc | apply pw_below_drewN | apply below_drew1 | refine below_set ?_ GE396.out) | exact HB.out)) hb); have n2_ := Aside0.mk (hbox); have n3_ := Aside0.mk ((by rw [hg]; exact (below_size (by repeat (first | (with_reducible first | exact HB.out | apply below_alloc | apply pw_below_drewN | apply below_drew1 | refine below_set ?_ GE396.out) | exact HB.out))) : w.heap.size ≤ gb397)); have n4_ := Aside0.mk ((by rw [hg]; exact (below_size (by repeat (first | (with_reducible first | exact HB.out | apply below_alloc | apply pw_below_drewN | apply below_drew1 | refine below_set ?_ GE396.out) | exact HB.out))) : w.heap.size ≤ gb397)); have n5_ := Aside0.mk ((by rw [hg]; exact Nat.ne_of_lt (blk_lt (g := gb396) (o := .cells #[.slice A0_0 l0_0.length c0_0, .int .i64 a0_1, .int .i64 a0_2, .int .i32 a0_3, .int .i64 a0_4, .int .u64 a0_5] 27 (0, 0)) (by (with_reducible repeat (first | refine blk_drewN ?_ _ | refine blk_drew ?_ | refine blk_alloc ?_ _)); exact BK396.out)) : gb396 ≠ gb397)); have n6_ := Aside0.mk ((by rw [hg]; exact Nat.ne_of_gt (blk_lt (g := gb396) (o := .cells #[.slice A0_0 l0_0.length c0_0, .int .i64 a0_1, .int .i64 a0_2, .int .i32 a0_3, .int .i64 a0_4, .int .u64 a0_5] 27 (0, 0)) (by (with_reducible repeat (first | refine blk_drewN ?_ _ | refine blk_drew ?_ | refine blk_alloc ?_ _)); exact BK396.out)) : gb397 ≠ gb396)); clear BK396; clear HB; have BK396 := n0_; have HB := n1_; have BK397 := n2_; have GW397 := n3_; have GE397 := n4_; have NB396_397 := n5_; have NB397_396 := n6_; clear n0_ n1_ n2_ n3_ n4_ n5_ n6_; clear hb hbox hg))
  (try simp only [Act.put, List.setIfInBounds_toArray, List.set_cons_zero, List.set_cons_succ])
  go_cut [15] (fun v15 wc => ∃ (kq : Nat) (x15_2 : Bool), v15 = .bool x15_2 ∧ Aside0 (credenzalaw21_GenEquals.j0 kq x15_2 l0_0 a0_1 a0_2 a0_3 a0_4 a0_5 l1_0 a1_1 a1_2 a1_3 a1_4 a1_5 = some r) ∧ Aside0 (kq ≤ k) ∧ Aside0 (wc.heap[gb396]? = some (.cells #[(.slice A0_0 l0_0.length c0_0), .int .i64 a0_1, .int .i64 a0_2, .int .i32 a0_3, .int .i64 a0_4, .int .u64 a0_5] 27 (0, 0))) ∧ Aside0 (wc.heap[gb397]? = some (.cells #[(.slice A1_0 l1_0.length c1_0), .int .i64 a1_1, .int .i64 a1_2, .int .i32 a1_3, .int .i64 a1_4, .int .u64 a1_5] 27 (0, 0))) ∧ Aside0 (Below w.heap.size w wc))
  case first =>
    have H := HC3.out
    clear HC3
    by_cases c6 : (l0_0.length : Int) > 200
    · rw [if_pos c6] at H
      have c6b0 : decide (200 < (l0_0.length : Int)) = true := decide_eq_true c6
      have c6b1 : decide (200 < l0_0.length) = true := decide_eq_true (by omega)
      clear c6
      (first | rw [c6b0] | (simp only [i64_w, i32_w]; rw [c6b0]) | skip)
      have H' := Aside0.mk H
      clear H
      have hnb7 := NB396_397.out
      have hnc7 := NB397_396.out
      have hcz8_0 : w5.cell? ⟨gb396, 0, none⟩ = some (.slice A0_0 l0_0.length c0_0) := (blk_cell BK396.out 0).trans rfl
      have hcz8_1 : w5.cell? ⟨gb396, 1, none⟩ = some (.int .i64 a0_1) := (blk_cell BK396.out 1).trans rfl
      have hcz8_2 : w5.cell? ⟨gb396, 2, none⟩ = some (.int .i64 a0_2) := (blk_cell BK396.out 2).trans rfl
      have hcz8_3 : w5.cell? ⟨gb396, 3, none⟩ = some (.int .i32 a0_3) := (blk_cell BK396.out 3).trans rfl
      have hcz8_4 : w5.cell? ⟨gb396, 4, none⟩ = some (.int .i64 a0_4) := (blk_cell BK396.out 4).trans rfl
      have hcz8_5 : w5.cell? ⟨gb396, 5, none⟩ = some (.int .u64 a0_5) := (blk_cell BK396.out 5).trans rfl
      have hfz8_0 := blk_frozen BK396.out 0
      have hfz8_1 := blk_frozen BK396.out 1
      have hfz8_2 := blk_frozen BK396.out 2
      have hfz8_3 := blk_frozen BK396.out 3
      have hfz8_4 := blk_frozen BK396.out 4
      have hfz8_5 := blk_frozen BK396.out 5
      go_wp2
      go_meet
      case rel => exact ⟨_, (true), (by first | rfl | (simp; done) | (simp [*]; done)), H', ⟨by first | omega | exact Nat.le_refl _⟩, ⟨by (with_reducible repeat (first | refine blk_drewN ?_ _ | refine blk_drew ?_ | refine blk_alloc ?_ _)); exact BK396.out⟩, ⟨by (with_reducible repeat (first | refine blk_drewN ?_ _ | refine blk_drew ?_ | refine blk_alloc ?_ _)); exact BK397.out⟩, ⟨by repeat (first | (with_reducible first | exact HB.out | apply below_alloc | apply pw_below_drewN | apply below_drew1 | refine below_set ?_ GE396.out | refine below_set ?_ GE397.out) | exact HB.out)⟩⟩
    · rw [if_neg c6] at H
      have c6b0 : decide (200 < (l0_0.length : Int)) = false := decide_eq_false c6
      have c6b1 : decide (200 < l0_0.length) = false := decide_eq_false (by omega)
      clear c6
      (first | rw [c6b0] | (simp only [i64_w, i32_w]; rw [c6b0]) | skip)
      have H' := Aside0.mk H
      clear H
      have hnb9 := NB396_397.out
      have hnc9 := NB397_396.out
      have hcz10_0 : w5.cell? ⟨gb396, 0, none⟩ = some (.slice A0_0 l0_0.length c0_0) := (blk_cell BK396.out 0).trans rfl
      have hcz10_1 : w5.cell? ⟨gb396, 1, none⟩ = some (.int .i64 a0_1) := (blk_cell BK396.out 1).trans rfl
      have hcz10_2 : w5.cell? ⟨gb396, 2, none⟩ = some (.int .i64 a0_2) := (blk_cell BK396.out 2).trans rfl
      have hcz10_3 : w5.cell? ⟨gb396, 3, none⟩ = some (.int .i32 a0_3) := (blk_cell BK396.out 3).trans rfl
      have hcz10_4 : w5.cell? ⟨gb396, 4, none⟩ = some (.int .i64 a0_4) := (blk_cell BK396.out 4).trans rfl
      have hcz10_5 : w5.cell? ⟨gb396, 5, none⟩ = some (.int .u64 a0_5) := (blk_cell BK396.out 5).trans rfl
      have hfz10_0 := blk_frozen BK396.out 0
      have hfz10_1 := blk_frozen BK396.out 1
      have hfz10_2 := blk_frozen BK396.out 2
      have hfz10_3 := blk_frozen BK396.out 3
      have hfz10_4 := blk_frozen BK396.out 4
      have hfz10_5 := blk_frozen BK396.out 5
      have hcz11_0 : w5.cell? ⟨gb397, 0, none⟩ = some (.slice A1_0 l1_0.length c1_0) := (blk_cell BK397.out 0).trans rfl
      have hcz11_1 : w5.cell? ⟨gb397, 1, none⟩ = some (.int .i64 a1_1) := (blk_cell BK397.out 1).trans rfl
      have hcz11_2 : w5.cell? ⟨gb397, 2, none⟩ = some (.int .i64 a1_2) := (blk_cell BK397.out 2).trans rfl
      have hcz11_3 : w5.cell? ⟨gb397, 3, none⟩ = some (.int .i32 a1_3) := (blk_cell BK397.out 3).trans rfl
      have hcz11_4 : w5.cell? ⟨gb397, 4, none⟩ = some (.int .i64 a1_4) := (blk_cell BK397.out 4).trans rfl
      have hcz11_5 : w5.cell? ⟨gb397, 5, none⟩ = some (.int .u64 a1_5) := (blk_cell BK397.out 5).trans rfl
      have hfz11_0 := blk_frozen BK397.out 0
      have hfz11_1 := blk_frozen BK397.out 1
      have hfz11_2 := blk_frozen BK397.out 2
      have hfz11_3 := blk_frozen BK397.out 3
      have hfz11_4 := blk_frozen BK397.out 4
      have hfz11_5 := blk_frozen BK397.out 5
      go_wp2
      go_meet
      case rel => exact ⟨_, (decide ((l1_0.length : Int) > 200)), (by first | rfl | (simp; done) | (simp [*]; done)), H', ⟨by first | omega | exact Nat.le_refl _⟩, ⟨by (with_reducible repeat (first | refine blk_drewN ?_ _ | refine blk_drew ?_ | refine blk_alloc ?_ _)); exact BK396.out⟩, ⟨by (with_reducible repeat (first | refine blk_drewN ?_ _ | refine blk_drew ?_ | refine blk_alloc ?_ _)); exact BK397.out⟩, ⟨by repeat (first | (with_reducible first | exact HB.out | apply below_alloc | apply pw_below_drewN | apply below_drew1 | refine below_set ?_ GE396.out | refine below_set ?_ GE397.out) | exact HB.out)⟩⟩
  case rest =>
    clear HC3
    try clear c1
    try clear p2
    try clear c3
    try clear c6
    try clear c6b0
    try clear c6b1
    try clear c7
    try clear c9
    try clear hcz10_0
    try clear hcz10_1
    try clear hcz10_2
    try clear hcz10_3
    try clear hcz10_4
    try clear hcz10_5
    try clear hcz11_0
    try clear hcz11_1
    try clear hcz11_2
    try clear hcz11_3
    try clear hcz11_4
    try clear hcz11_5
    try clear hcz8_0
    try clear hcz8_1
    try clear hcz8_2
    try clear hcz8_3
    try clear hcz8_4
    try clear hcz8_5
    try clear hfz10_0
    try clear hfz10_1
    try clear hfz10_2
    try clear hfz10_3
    try clear hfz10_4
    try clear hfz10_5
    try clear hfz11_0
    try clear hfz11_1
    try clear hfz11_2
    try clear hfz11_3
    try clear hfz11_4
    try clear hfz11_5
    try clear hfz8_0
    try clear hfz8_1
    try clear hfz8_2
    try clear hfz8_3
    try clear hfz8_4
    try clear hfz8_5
    obtain ⟨kq, x15_2, rfl, HA, HJ2, BK396, BK397, HB⟩ := hcut
    cases kq with
    | zero => exact absurd HA.out (by simp [credenzalaw21_GenEquals.j0])
    | succ kj2 =>
      have H := HA.out
      clear HA
      simp only [credenzalaw21_GenEquals.j0] at H
      by_cases c12 : x15_2 = true
      · subst c12
        have H1 : ((credenzalaw21_awake.f).bind fun t398 => (some t398)) = some r := by rw [if_pos rfl] at H; exact H
        clear H
        have H := H1
        clear H1
        replace H := Option.bind_eq_some_iff.mp H
        obtain ⟨t398, A130, H⟩ := H
        replace H : (some t398) = some r := H
        have A13 := Aside0.mk A130
        clear A130
        obtain rfl := Option.some.inj H
        go_wp2_with (first | ((with_reducible refine gate_callee (f := 4) rfl ?_); refine goesL_ (some 16) rfl rfl Tryz.func4 (by kernel_rfl) rfl #[] rfl (by (try simp only [List.map_toArray, List.map_cons, List.map_nil]); first | done | rfl | (simp only [List.length_drop, List.length_take]; rfl)) ?_; (with_reducible refine (credenzalaw21_awake.calls  t398 _ A13.out).mono ?_); rintro e w14 ⟨rfl, hb⟩; refine ⟨_, rfl, ?_⟩; have n0_ := Aside0.mk (blk_below (g := gb396) (o := .cells #[.slice A0_0 l0_0.length c0_0, .int .i64 a0_1, .int .i64 a0_2, .int .i32 a0_3, .int .i64 a0_4, .int .u64 a0_5] 27 (0, 0)) (by (with_reducible repeat (first | refine blk_drewN ?_ _ | refine blk_drew ?_ | refine blk_alloc ?_ _)); exact BK396.out) hb); have n1_ := Aside0.mk (blk_below (g := gb397) (o := .cells #[.slice A1_0 l1_0.length c1_0, .int .i64 a1_1, .int .i64 a1_2, .int .i32 a1_3, .int .i64 a1_4, .int .u64 a1_5] 27 (0, 0)) (by (with_reducible repeat (first | refine blk_drewN ?_ _ | refine blk_drew ?_ | refine blk_alloc ?_ _)); exact BK397.out) hb); have n2_ := Aside0.mk (below_step (by repeat (first | (with_reducible first | exact HB.out | apply below_alloc | apply pw_below_drewN | apply below_drew1 | refine below_set ?_ GE396.out | refine below_set ?_ GE397.out) | exact HB.out)) hb); clear BK396; clear BK397; clear HB; have BK396 := n0_; have BK397 := n1_; have HB := n2_; clear n0_ n1_ n2_; (try clear hb); (try clear hb2); (try clear hk); (try clear hi)))
        go_ret
        exact ⟨by first | rfl | (simp [errW_none, errW_some] <;> rfl) | (simp [*, errW_none, errW_some] <;> rfl), by repeat (first | (with_reducible first | exact HB.out | apply below_alloc | apply pw_below_drewN | apply below_drew1 | refine below_set ?_ GE396.out | refine below_set ?_ GE397.out) | exact HB.out)⟩
      · replace c12 := Bool.eq_false_iff.mpr c12
        subst c12
        have H1 : ((credenzalaw21_same.f kj2 l0_0 l1_0).bind fun t399 => (if t399 = true then (if a0_1 = a1_1 then (if a0_2 = a1_2 then (if a0_3 = a1_3 then (if a0_4 = a1_4 then ((gen_Equal.f kj2 l0_0 a0_1 a0_2 a0_3 a0_4 a0_5 l1_0 a1_1 a1_2 a1_3 a1_4 a1_5).bind fun t400 => (if (t400 == (a0_5 == a1_5)) = true then ((gen_Equal.f kj2 l1_0 a1_1 a1_2 a1_3 a1_4 a1_5 l0_0 a0_1 a0_2 a0_3 a0_4 a0_5).bind fun t401 => (if (t401 == (a0_5 == a1_5)) = true then ((credenzalaw21_awake.f).bind fun t402 => (some t402)) else (some false))) else (some false))) else ((gen_Equal.f kj2 l0_0 a0_1 a0_2 a0_3 a0_4 a0_5 l1_0 a1_1 a1_2 a1_3 a1_4 a1_5).bind fun t403 => (if (t403 == false) = true then ((gen_Equal.f kj2 l1_0 a1_1 a1_2 a1_3 a1_4 a1_5 l0_0 a0_1 a0_2 a0_3 a0_4 a0_5).bind fun t404 => (if (t404 == false) = true then ((credenzalaw21_awake.f).bind fun t405 => (some t405)) else (some false))) else (some false)))) else ((gen_Equal.f kj2 l0_0 a0_1 a0_2 a0_3 a0_4 a0_5 l1_0 a1_1 a1_2 a1_3 a1_4 a1_5).bind fun t406 => (if (t406 == false) = true then ((gen_Equal.f kj2 l1_0 a1_1 a1_2 a1_3 a1_4 a1_5 l0_0 a0_1 a0_2 a0_3 a0_4 a0_5).bind fun t407 => (if (t407 == false) = true then ((credenzalaw21_awake.f).bind fun t408 => (some t408)) else (some false))) else (some false)))) else ((gen_Equal.f kj2 l0_0 a0_1 a0_2 a0_3 a0_4 a0_5 l1_0 a1_1 a1_2 a1_3 a1_4 a1_5).bind fun t409 => (if (t409 == false) = true then ((gen_Equal.f kj2 l1_0 a1_1 a1_2 a1_3 a1_4 a1_5 l0_0 a0_1 a0_2 a0_3 a0_4 a0_5).bind fun t410 => (if (t410 == false) = true then ((credenzalaw21_awake.f).bind fun t411 => (some t411)) else (some false))) else (some false)))) else ((gen_Equal.f kj2 l0_0 a0_1 a0_2 a0_3 a0_4 a0_5 l1_0 a1_1 a1_2 a1_3 a1_4 a1_5).bind fun t412 => (if (t412 == false) = true then ((gen_Equal.f kj2 l1_0 a1_1 a1_2 a1_3 a1_4 a1_5 l0_0 a0_1 a0_2 a0_3 a0_4 a0_5).bind fun t413 => (if (t413 == false) = true then ((credenzalaw21_awake.f).bind fun t414 => (some t414)) else (some false))) else (some false)))) else ((gen_Equal.f kj2 l0_0 a0_1 a0_2 a0_3 a0_4 a0_5 l1_0 a1_1 a1_2 a1_3 a1_4 a1_5).bind fun t415 => (if (t415 == false) = true then ((gen_Equal.f kj2 l1_0 a1_1 a1_2 a1_3 a1_4 a1_5 l0_0 a0_1 a0_2 a0_3 a0_4 a0_5).bind fun t416 => (if (t416 == false) = true then ((credenzalaw21_awake.f).bind fun t417 => (some t417)) else (some false))) else (some false))))) = some r := by rw [if_neg (show ¬ (false = true) by decide)] at H; exact H
        clear H
        have H := H1
        clear H1
        replace H := Option.bind_eq_some_iff.mp H
        obtain ⟨t399, A150, H⟩ := H
        replace H : (if t399 = true then (if a0_1 = a1_1 then (if a0_2 = a1_2 then (if a0_3 = a1_3 then (if a0_4 = a1_4 then ((gen_Equal.f kj2 l0_0 a0_1 a0_2 a0_3 a0_4 a0_5 l1_0 a1_1 a1_2 a1_3 a1_4 a1_5).bind fun t400 => (if (t400 == (a0_5 == a1_5)) = true then ((gen_Equal.f kj2 l1_0 a1_1 a1_2 a1_3 a1_4 a1_5 l0_0 a0_1 a0_2 a0_3 a0_4 a0_5).bind fun t401 => (if (t401 == (a0_5 == a1_5)) = true then ((credenzalaw21_awake.f).bind fun t402 => (some t402)) else (some false))) else (some false))) else ((gen_Equal.f kj2 l0_0 a0_1 a0_2 a0_3 a0_4 a0_5 l1_0 a1_1 a1_2 a1_3 a1_4 a1_5).bind fun t403 => (if (t403 == false) = true then ((gen_Equal.f kj2 l1_0 a1_1 a1_2 a1_3 a1_4 a1_5 l0_0 a0_1 a0_2 a0_3 a0_4 a0_5).bind fun t404 => (if (t404 == false) = true then ((credenzalaw21_awake.f).bind fun t405 => (some t405)) else (some false))) else (some false)))) else ((gen_Equal.f kj2 l0_0 a0_1 a0_2 a0_3 a0_4 a0_5 l1_0 a1_1 a1_2 a1_3 a1_4 a1_5).bind fun t406 => (if (t406 == false) = true then ((gen_Equal.f kj2 l1_0 a1_1 a1_2 a1_3 a1_4 a1_5 l0_0 a0_1 a0_2 a0_3 a0_4 a0_5).bind fun t407 => (if (t407 == false) = true then ((credenzalaw21_awake.f).bind fun t408 => (some t408)) else (some false))) else (some false)))) else ((gen_Equal.f kj2 l0_0 a0_1 a0_2 a0_3 a0_4 a0_5 l1_0 a1_1 a1_2 a1_3 a1_4 a1_5).bind fun t409 => (if (t409 == false) = true then ((gen_Equal.f kj2 l1_0 a1_1 a1_2 a1_3 a1_4 a1_5 l0_0 a0_1 a0_2 a0_3 a0_4 a0_5).bind fun t410 => (if (t410 == false) = true then ((credenzalaw21_awake.f).bind fun t411 => (some t411)) else (some false))) else (some false)))) else ((gen_Equal.f kj2 l0_0 a0_1 a0_2 a0_3 a0_4 a0_5 l1_0 a1_1 a1_2 a1_3 a1_4 a1_5).bind fun t412 => (if (t412 == false) = true then ((gen_Equal.f kj2 l1_0 a1_1 a1_2 a1_3 a1_4 a1_5 l0_0 a0_1 a0_2 a0_3 a0_4 a0_5).bind fun t413 => (if (t413 == false) = true then ((credenzalaw21_awake.f).bind fun t414 => (some t414)) else (some false))) else (some false)))) else ((gen_Equal.f kj2 l0_0 a0_1 a0_2 a0_3 a0_4 a0_5 l1_0 a1_1 a1_2 a1_3 a1_4 a1_5).bind fun t415 => (if (t415 == false) = true then ((gen_Equal.f kj2 l1_0 a1_1 a1_2 a1_3 a1_4 a1_5 l0_0 a0_1 a0_2 a0_3 a0_4 a0_5).bind fun t416 => (if (t416 == false) = true then ((credenzalaw21_awake.f).bind fun t417 => (some t417)) else (some false))) else (some false)))) = some r := H
        have A15 := Aside0.mk A150
        clear A150
        by_cases c16 : t399 = true
        · subst c16
          have H1 : (if a0_1 = a1_1 then (if a0_2 = a1_2 then (if a0_3 = a1_3 then (if a0_4 = a1_4 then ((gen_Equal.f kj2 l0_0 a0_1 a0_2 a0_3 a0_4 a0_5 l1_0 a1_1 a1_2 a1_3 a1_4 a1_5).bind fun t400 => (if (t400 == (a0_5 == a1_5)) = true then ((gen_Equal.f kj2 l1_0 a1_1 a1_2 a1_3 a1_4 a1_5 l0_0 a0_1 a0_2 a0_3 a0_4 a0_5).bind fun t401 => (if (t401 == (a0_5 == a1_5)) = true then ((credenzalaw21_awake.f).bind fun t402 => (some t402)) else (some false))) else (some false))) else ((gen_Equal.f kj2 l0_0 a0_1 a0_2 a0_3 a0_4 a0_5 l1_0 a1_1 a1_2 a1_3 a1_4 a1_5).bind fun t403 => (if (t403 == false) = true then ((gen_Equal.f kj2 l1_0 a1_1 a1_2 a1_3 a1_4 a1_5 l0_0 a0_1 a0_2 a0_3 a0_4 a0_5).bind fun t404 => (if (t404 == false) = true then ((credenzalaw21_awake.f).bind fun t405 => (some t405)) else (some false))) else (some false)))) else ((gen_Equal.f kj2 l0_0 a0_1 a0_2 a0_3 a0_4 a0_5 l1_0 a1_1 a1_2 a1_3 a1_4 a1_5).bind fun t406 => (if (t406 == false) = true then ((gen_Equal.f kj2 l1_0 a1_1 a1_2 a1_3 a1_4 a1_5 l0_0 a0_1 a0_2 a0_3 a0_4 a0_5).bind fun t407 => (if (t407 == false) = true then ((credenzalaw21_awake.f).bind fun t408 => (some t408)) else (some false))) else (some false)))) else ((gen_Equal.f kj2 l0_0 a0_1 a0_2 a0_3 a0_4 a0_5 l1_0 a1_1 a1_2 a1_3 a1_4 a1_5).bind fun t409 => (if (t409 == false) = true then ((gen_Equal.f kj2 l1_0 a1_1 a1_2 a1_3 a1_4 a1_5 l0_0 a0_1 a0_2 a0_3 a0_4 a0_5).bind fun t410 => (if (t410 == false) = true then ((credenzalaw21_awake.f).bind fun t411 => (some t411)) else (some false))) else (some false)))) else ((gen_Equal.f kj2 l0_0 a0_1 a0_2 a0_3 a0_4 a0_5 l1_0 a1_1 a1_2 a1_3 a1_4 a1_5).bind fun t412 => (if (t412 == false) = true then ((gen_Equal.f kj2 l1_0 a1_1 a1_2 a1_3 a1_4 a1_5 l0_0 a0_1 a0_2 a0_3 a0_4 a0_5).bind fun t413 => (if (t413 == false) = true then ((credenzalaw21_awake.f).bind fun t414 => (some t414)) else (some false))) else (some false)))) = some r := by rw [if_pos rfl] at H; exact H
          clear H
          have H := H1
          clear H1
          by_cases c17 : a0_1 = a1_1
          · rw [if_pos c17] at H
            have c17b0 : (a0_1 == a1_1) = true := beq_iff_eq.mpr c17
            have c17b1 : (a0_1 != a1_1) = false := bne_eq_false_iff_eq.mpr c17
            clear c17
            by_cases c18 : a0_2 = a1_2
            · rw [if_pos c18] at H
              have c18b0 : (a0_2 == a1_2) = true := beq_iff_eq.mpr c18
              have c18b1 : (a0_2 != a1_2) = false := bne_eq_false_iff_eq.mpr c18
              clear c18
              by_cases c19 : a0_3 = a1_3
              · rw [if_pos c19] at H
                have c19b0 : (a0_3 == a1_3) = true := beq_iff_eq.mpr c19
                have c19b1 : (a0_3 != a1_3) = false := bne_eq_false_iff_eq.mpr c19
                clear c19
                by_cases c20 : a0_4 = a1_4
                · rw [if_pos c20] at H
                  have c20b0 : (a0_4 == a1_4) = true := beq_iff_eq.mpr c20
                  have c20b1 : (a0_4 != a1_4) = false := bne_eq_false_iff_eq.mpr c20
                  clear c20
                  replace H := Option.bind_eq_some_iff.mp H
                  obtain ⟨t400, A210, H⟩ := H
                  replace H : (if (t400 == (a0_5 == a1_5)) = true then ((gen_Equal.f kj2 l1_0 a1_1 a1_2 a1_3 a1_4 a1_5 l0_0 a0_1 a0_2 a0_3 a0_4 a0_5).bind fun t401 => (if (t401 == (a0_5 == a1_5)) = true then ((credenzalaw21_awake.f).bind fun t402 => (some t402)) else (some false))) else (some false)) = some r := H
                  have A21 := Aside0.mk A210
                  clear A210
                  by_cases c22 : (t400 == (a0_5 == a1_5)) = true
                  · rw [if_pos c22] at H
                    have c22b0 : (t400 == (a0_5 == a1_5)) = true := c22
                    (try (have c22b1 : decide (t400 = (a0_5 == a1_5)) = true := by simpa using c22))
                    (try (have c22b2 : (t400 == (a0_5 == a1_5)) = true := by simpa using c22))
                    clear c22
                    replace H := Option.bind_eq_some_iff.mp H
                    obtain ⟨t401, A230, H⟩ := H
                    replace H : (if (t401 == (a0_5 == a1_5)) = true then ((credenzalaw21_awake.f).bind fun t402 => (some t402)) else (some false)) = some r := H
                    have A23 := Aside0.mk A230
                    clear A230
                    by_cases c24 : (t401 == (a0_5 == a1_5)) = true
                    · rw [if_pos c24] at H
                      have c24b0 : (t401 == (a0_5 == a1_5)) = true := c24
                      (try (have c24b1 : decide (t401 = (a0_5 == a1_5)) = true := by simpa using c24))
                      (try (have c24b2 : (t401 == (a0_5 == a1_5)) = true := by simpa using c24))
                      clear c24
                      replace H := Option.bind_eq_some_iff.mp H
                      obtain ⟨t402, A250, H⟩ := H
                      replace H : (some t402) = some r := H
                      have A25 := Aside0.mk A250
                      clear A250
                      obtain rfl := Option.some.inj H
                      have hnb26 := NB396_397.out
                      have hnc26 := NB397_396.out
                      have hcz27_0 : wc.cell? ⟨gb396, 0, none⟩ = some (.slice A0_0 l0_0.length c0_0) := (blk_cell BK396.out 0).trans rfl
                      have hcz27_1 : wc.cell? ⟨gb396, 1, none⟩ = some (.int .i64 a0_1) := (blk_cell BK396.out 1).trans rfl
                      have hcz27_2 : wc.cell? ⟨gb396, 2, none⟩ = some (.int .i64 a0_2) := (blk_cell BK396.out 2).trans rfl
                      have hcz27_3 : wc.cell? ⟨gb396, 3, none⟩ = some (.int .i32 a0_3) := (blk_cell BK396.out 3).trans rfl
                      have hcz27_4 : wc.cell? ⟨gb396, 4, none⟩ = some (.int .i64 a0_4) := (blk_cell BK396.out 4).trans rfl
                      have hcz27_5 : wc.cell? ⟨gb396, 5, none⟩ = some (.int .u64 a0_5) := (blk_cell BK396.out 5).trans rfl
                      have hfz27_0 := blk_frozen BK396.out 0
                      have hfz27_1 := blk_frozen BK396.out 1
                      have hfz27_2 := blk_frozen BK396.out 2
                      have hfz27_3 := blk_frozen BK396.out 3
                      have hfz27_4 := blk_frozen BK396.out 4
                      have hfz27_5 := blk_frozen BK396.out 5
                      have hcz28_0 : wc.cell? ⟨gb397, 0, none⟩ = some (.slice A1_0 l1_0.length c1_0) := (blk_cell BK397.out 0).trans rfl
                      have hcz28_1 : wc.cell? ⟨gb397, 1, none⟩ = some (.int .i64 a1_1) := (blk_cell BK397.out 1).trans rfl
                      have hcz28_2 : wc.cell? ⟨gb397, 2, none⟩ = some (.int .i64 a1_2) := (blk_cell BK397.out 2).trans rfl
                      have hcz28_3 : wc.cell? ⟨gb397, 3, none⟩ = some (.int .i32 a1_3) := (blk_cell BK397.out 3).trans rfl
                      have hcz28_4 : wc.cell? ⟨gb397, 4, none⟩ = some (.int .i64 a1_4) := (blk_cell BK397.out 4).trans rfl
                      have hcz28_5 : wc.cell? ⟨gb397, 5, none⟩ = some (.int .u64 a1_5) := (blk_cell BK397.out 5).trans rfl
                      have hfz28_0 := blk_frozen BK397.out 0
                      have hfz28_1 := blk_frozen BK397.out 1
                      have hfz28_2 := blk_frozen BK397.out 2
                      have hfz28_3 := blk_frozen BK397.out 3
                      have hfz28_4 := blk_frozen BK397.out 4
                      have hfz28_5 := blk_frozen BK397.out 5
                      go_wp2_with (first | ((with_reducible refine gate_callee (f := 5) rfl ?_); refine goesL_ (some 21) rfl rfl Tryz.func5 (by kernel_rfl) rfl #[.slice A0_0 l0_0.length c0_0, .slice A1_0 l1_0.length c1_0] rfl (by (try simp only [List.map_toArray, List.map_cons, List.map_nil]); first | done | rfl | (simp only [List.length_drop, List.length_take]; rfl)) ?_; (with_reducible refine (credenzalaw21_same.calls kj2 _ _ l0_0 _ _ l1_0 true _ ?side1 ?side2 ?side3 ?side4 A15.out).mono ?_); (case side1 => repeat (first | exact (Kd.C_below HR0_0.out HB.out) | (with_reducible refine Kd.C_alloc ?_ _) | (with_reducible refine Kd.C_drewN ?_ _) | (with_reducible refine Kd.C_drew ?_))); (case side2 => exact HC0_0.out); (case side3 => repeat (first | exact (Kd.C_below HR1_0.out HB.out) | (with_reducible refine Kd.C_alloc ?_ _) | (with_reducible refine Kd.C_drewN ?_ _) | (with_reducible refine Kd.C_drew ?_))); (case side4 => exact HC1_0.out); rintro e w' ⟨rfl, ⟨nd, rfl⟩⟩; refine ⟨_, rfl, ?_⟩) | ((with_reducible refine gate_callee (f := 6) rfl ?_); refine goesL_ (some 65) rfl rfl Tryz.func6 (by kernel_rfl) rfl #[.agg #[.slice A0_0 l0_0.length c0_0, .int .i64 a0_1, .int .i64 a0_2, .int .i32 a0_3, .int .i64 a0_4, .int .u64 a0_5], .agg #[.slice A1_0 l1_0.length c1_0, .int .i64 a1_1, .int .i64 a1_2, .int .i32 a1_3, .int .i64 a1_4, .int .u64 a1_5]] rfl (by (try simp only [List.map_toArray, List.map_cons, List.map_nil]); first | done | rfl | (simp only [List.length_drop, List.length_take]; rfl)) ?_; (with_reducible refine (gen_Equal.calls kj2 _ _ l0_0 a0_1 a0_2 a0_3 a0_4 a0_5 _ _ l1_0 a1_1 a1_2 a1_3 a1_4 a1_5 t400 _ ?side1 ?side2 ?side3 ?side4 A21.out).mono ?_); (case side1 => repeat (first | exact (Kd.C_below HR0_0.out (by repeat (first | (with_reducible first | exact HB.out | apply below_alloc | apply pw_below_drewN | apply below_drew1 | refine below_set ?_ GE396.out | refine below_set ?_ GE397.out) | exact HB.out))) | (with_reducible refine Kd.C_alloc ?_ _) | (with_reducible refine Kd.C_drewN ?_ _) | (with_reducible refine Kd.C_drew ?_))); (case side2 => exact HC0_0.out); (case side3 => repeat (first | exact (Kd.C_below HR1_0.out (by repeat (first | (with_reducible first | exact HB.out | apply below_alloc | apply pw_below_drewN | apply below_drew1 | refine below_set ?_ GE396.out | refine below_set ?_ GE397.out) | exact HB.out))) | (with_reducible refine Kd.C_alloc ?_ _) | (with_reducible refine Kd.C_drewN ?_ _) | (with_reducible refine Kd.C_drew ?_))); (case side4 => exact HC1_0.out); rintro e w29 ⟨rfl, hb⟩; refine ⟨_, rfl, ?_⟩; have n0_ := Aside0.mk (blk_below (g := gb396) (o := .cells #[.slice A0_0 l0_0.length c0_0, .int .i64 a0_1, .int .i64 a0_2, .int .i32 a0_3, .int .i64 a0_4, .int .u64 a0_5] 27 (0, 0)) (by (with_reducible repeat (first | refine blk_drewN ?_ _ | refine blk_drew ?_ | refine blk_alloc ?_ _)); exact BK396.out) hb); have n1_ := Aside0.mk (blk_below (g := gb397) (o := .cells #[.slice A1_0 l1_0.length c1_0, .int .i64 a1_1, .int .i64 a1_2, .int .i32 a1_3, .int .i64 a1_4, .int .u64 a1_5] 27 (0, 0)) (by (with_reducible repeat (first | refine blk_drewN ?_ _ | refine blk_drew ?_ | refine blk_alloc ?_ _)); exact BK397.out) hb); have n2_ := Aside0.mk (below_step (by repeat (first | (with_reducible first | exact HB.out | apply below_alloc | apply pw_below_drewN | apply below_drew1 | refine below_set ?_ GE396.out | refine below_set ?_ GE397.out) | exact HB.out)) hb); clear BK396; clear BK397; clear HB; have BK396 := n0_; have BK397 := n1_; have HB := n2_; clear n0_ n1_ n2_; (try clear hb); (try clear hb2); (try clear hk); (try clear hi); have hcz30_0 : w29.cell? ⟨gb397, 0, none⟩ = some (.slice A1_0 l1_0.length c1_0) := (blk_cell BK397.out 0).trans rfl; have hcz30_1 : w29.cell? ⟨gb397, 1, none⟩ = some (.int .i64 a1_1) := (blk_cell BK397.out 1).trans rfl; have hcz30_2 : w29.cell? ⟨gb397, 2, none⟩ = some (.int .i64 a1_2) := (blk_cell BK397.out 2).trans rfl; have hcz30_3 : w29.cell? ⟨gb397, 3, none⟩ = some (.int .i32 a1_3) := (blk_cell BK397.out 3).trans rfl; have hcz30_4 : w29.cell? ⟨gb397, 4, none⟩ = some (.int .i64 a1_4) := (blk_cell BK397.out 4).trans rfl; have hcz30_5 : w29.cell? ⟨gb397, 5, none⟩ = some (.int .u64 a1_5) := (blk_cell BK397.out 5).trans rfl; have hfz30_0 := blk_frozen BK397.out 0; have hfz30_1 := blk_frozen BK397.out 1; have hfz30_2 := blk_frozen BK397.out 2; have hfz30_3 := blk_frozen BK397.out 3; have hfz30_4 := blk_frozen BK397.out 4; have hfz30_5 := blk_frozen BK397.out 5; have hcz31_0 : w29.cell? ⟨gb396, 0, none⟩ = some (.slice A0_0 l0_0.length c0_0) := (blk_cell BK396.out 0).trans rfl; have hcz31_1 : w29.cell? ⟨gb396, 1, none⟩ = some (.int .i64 a0_1) := (blk_cell BK396.out 1).trans rfl; have hcz31_2 : w29.cell? ⟨gb396, 2, none⟩ = some (.int .i64 a0_2) := (blk_cell BK396.out 2).trans rfl; have hcz31_3 : w29.cell? ⟨gb396, 3, none⟩ = some (.int .i32 a0_3) := (blk_cell BK396.out 3).trans rfl; have hcz31_4 : w29.cell? ⟨gb396, 4, none⟩ = some (.int .i64 a0_4) := (blk_cell BK396.out 4).trans rfl; have hcz31_5 : w29.cell? ⟨gb396, 5, none⟩ = some (.int .u64 a0_5) := (blk_cell BK396.out 5).trans rfl; have hfz31_0 := blk_frozen BK396.out 0; have hfz31_1 := blk_frozen BK396.out 1; have hfz31_2 := blk_frozen BK396.out 2; have hfz31_3 := blk_frozen BK396.out 3; have hfz31_4 := blk_frozen BK396.out 4; have hfz31_5 := blk_frozen BK396.out 5) | (go_at_call 6; (with_reducible refine (gen_Equal.calls kj2 _ _ l1_0 a1_1 a1_2 a1_3 a1_4 a1_5 _ _ l0_0 a0_1 a0_2 a0_3 a0_4 a0_5 t401 _ ?side1 ?side2 ?side3 ?side4 A23.out).mono ?_); (case side1 => repeat (first | exact (Kd.C_below HR1_0.out HB.out) | (with_reducible refine Kd.C_alloc ?_ _) | (with_reducible refine Kd.C_drewN ?_ _) | (with_reducible refine Kd.C_drew ?_))); (case side2 => exact HC1_0.out); (case side3 => repeat (first | exact (Kd.C_below HR0_0.out HB.out) | (with_reducible refine Kd.C_alloc ?_ _) | (with_reducible refine Kd.C_drewN ?_ _) | (with_reducible refine Kd.C_drew ?_))); (case side4 => exact HC0_0.out); rintro e w32 ⟨rfl, hb⟩; have n0_ := Aside0.mk (blk_below (g := gb396) (o := .cells #[.slice A0_0 l0_0.length c0_0, .int .i64 a0_1, .int .i64 a0_2, .int .i32 a0_3, .int .i64 a0_4, .int .u64 a0_5] 27 (0, 0)) (by (with_reducible repeat (first | refine blk_drewN ?_ _ | refine blk_drew ?_ | refine blk_alloc ?_ _)); exact BK396.out) hb); have n1_ := Aside0.mk (blk_below (g := gb397) (o := .cells #[.slice A1_0 l1_0.length c1_0, .int .i64 a1_1, .int .i64 a1_2, .int .i32 a1_3, .int .i64 a1_4, .int .u64 a1_5] 27 (0, 0)) (by (with_reducible repeat (first | refine blk_drewN ?_ _ | refine blk_drew ?_ | refine blk_alloc ?_ _)); exact BK397.out) hb); have n2_ := Aside0.mk (below_step (by repeat (first | (with_reducible first | exact HB.out | apply below_alloc | apply pw_below_drewN | apply below_drew1 | refine below_set ?_ GE396.out | refine below_set ?_ GE397.out) | exact HB.out)) hb); clear BK396; clear BK397; clear HB; have BK396 := n0_; have BK397 := n1_; have HB := n2_; clear n0_ n1_ n2_; (try clear hb); (try clear hb2); (try clear hk); (try clear hi)) | (go_at_call 4; (with_reducible refine (credenzalaw21_awake.calls  t402 _ A25.out).mono ?_); rintro e w33 ⟨rfl, hb⟩; have n0_ := Aside0.mk (blk_below (g := gb396) (o := .cells #[.slice A0_0 l0_0.length c0_0, .int .i64 a0_1, .int .i64 a0_2, .int .i32 a0_3, .int .i64 a0_4, .int .u64 a0_5] 27 (0, 0)) (by (with_reducible repeat (first | refine blk_drewN ?_ _ | refine blk_drew ?_ | refine blk_alloc ?_ _)); exact BK396.out) hb); have n1_ := Aside0.mk (blk_below (g := gb397) (o := .cells #[.slice A1_0 l1_0.length c1_0, .int .i64 a1_1, .int .i64 a1_2, .int .i32 a1_3, .int .i64 a1_4, .int .u64 a1_5] 27 (0, 0)) (by (with_reducible repeat (first | refine blk_drewN ?_ _ | refine blk_drew ?_ | refine blk_alloc ?_ _)); exact BK397.out) hb); have n2_ := Aside0.mk (below_step (by repeat (first | (with_reducible first | exact HB.out | apply below_alloc | apply pw_below_drewN | apply below_drew1 | refine below_set ?_ GE396.out | refine below_set ?_ GE397.out) | exact HB.out)) hb); clear BK396; clear BK397; clear HB; have BK396 := n0_; have BK397 := n1_; have HB := n2_; clear n0_ n1_ n2_; (try clear hb); (try clear hb2); (try clear hk); (try clear hi)))
                      go_ret
                      exact ⟨by first | rfl | (simp [errW_none, errW_some] <;> rfl) | (simp [*, errW_none, errW_some] <;> rfl), by repeat (first | (with_reducible first | exact HB.out | apply below_alloc | apply pw_below_drewN | apply below_drew1 | refine below_set ?_ GE396.out | refine below_set ?_ GE397.out) | exact HB.out)⟩
                    · rw [if_neg c24] at H
                      have c24b0 : (t401 == (a0_5 == a1_5)) = false := by simpa using c24
                      (try (have c24b1 : decide (t401 = (a0_5 == a1_5)) = false := by simpa using c24))
                      (try (have c24b2 : (t401 == (a0_5 == a1_5)) = false := by simpa using c24))
                      (try (have c24b3 : ¬ (t401 = (a0_5 == a1_5)) := by simpa using c24))
                      clear c24
                      obtain rfl := Option.some.inj H
                      have hnb34 := NB396_397.out
                      have hnc34 := NB397_396.out
                      have hcz35_0 : wc.cell? ⟨gb396, 0, none⟩ = some (.slice A0_0 l0_0.length c0_0) := (blk_cell BK396.out 0).trans rfl
                      have hcz35_1 : wc.cell? ⟨gb396, 1, none⟩ = some (.int .i64 a0_1) := (blk_cell BK396.out 1).trans rfl
                      have hcz35_2 : wc.cell? ⟨gb396, 2, none⟩ = some (.int .i64 a0_2) := (blk_cell BK396.out 2).trans rfl
                      have hcz35_3 : wc.cell? ⟨gb396, 3, none⟩ = some (.int .i32 a0_3) := (blk_cell BK396.out 3).trans rfl
                      have hcz35_4 : wc.cell? ⟨gb396, 4, none⟩ = some (.int .i64 a0_4) := (blk_cell BK396.out 4).trans rfl
                      have hcz35_5 : wc.cell? ⟨gb396, 5, none⟩ = some (.int .u64 a0_5) := (blk_cell BK396.out 5).trans rfl
                      have hfz35_0 := blk_frozen BK396.out 0
                      have hfz35_1 := blk_frozen BK396.out 1
                      have hfz35_2 := blk_frozen BK396.out 2
                      have hfz35_3 := blk_frozen BK396.out 3
                      have hfz35_4 := blk_frozen BK396.out 4
                      have hfz35_5 := blk_frozen BK396.out 5
                      have hcz36_0 : wc.cell? ⟨gb397, 0, none⟩ = some (.slice A1_0 l1_0.length c1_0) := (blk_cell BK397.out 0).trans rfl
                      have hcz36_1 : wc.cell? ⟨gb397, 1, none⟩ = some (.int .i64 a1_1) := (blk_cell BK397.out 1).trans rfl
                      have hcz36_2 : wc.cell? ⟨gb397, 2, none⟩ = some (.int .i64 a1_2) := (blk_cell BK397.out 2).trans rfl
                      have hcz36_3 : wc.cell? ⟨gb397, 3, none⟩ = some (.int .i32 a1_3) := (blk_cell BK397.out 3).trans rfl
                      have hcz36_4 : wc.cell? ⟨gb397, 4, none⟩ = some (.int .i64 a1_4) := (blk_cell BK397.out 4).trans rfl
                      have hcz36_5 : wc.cell? ⟨gb397, 5, none⟩ = some (.int .u64 a1_5) := (blk_cell BK397.out 5).trans rfl
                      have hfz36_0 := blk_frozen BK397.out 0
                      have hfz36_1 := blk_frozen BK397.out 1
                      have hfz36_2 := blk_frozen BK397.out 2
                      have hfz36_3 := blk_frozen BK397.out 3
                      have hfz36_4 := blk_frozen BK397.out 4
                      have hfz36_5 := blk_frozen BK397.out 5
                      go_wp2_with (first | ((with_reducible refine gate_callee (f := 5) rfl ?_); refine goesL_ (some 21) rfl rfl Tryz.func5 (by kernel_rfl) rfl #[.slice A0_0 l0_0.length c0_0, .slice A1_0 l1_0.length c1_0] rfl (by (try simp only [List.map_toArray, List.map_cons, List.map_nil]); first | done | rfl | (simp only [List.length_drop, List.length_take]; rfl)) ?_; (with_reducible refine (credenzalaw21_same.calls kj2 _ _ l0_0 _ _ l1_0 true _ ?side1 ?side2 ?side3 ?side4 A15.out).mono ?_); (case side1 => repeat (first | exact (Kd.C_below HR0_0.out HB.out) | (with_reducible refine Kd.C_alloc ?_ _) | (with_reducible refine Kd.C_drewN ?_ _) | (with_reducible refine Kd.C_drew ?_))); (case side2 => exact HC0_0.out); (case side3 => repeat (first | exact (Kd.C_below HR1_0.out HB.out) | (with_reducible refine Kd.C_alloc ?_ _) | (with_reducible refine Kd.C_drewN ?_ _) | (with_reducible refine Kd.C_drew ?_))); (case side4 => exact HC1_0.out); rintro e w' ⟨rfl, ⟨nd, rfl⟩⟩; refine ⟨_, rfl, ?_⟩) | ((with_reducible refine gate_callee (f := 6) rfl ?_); refine goesL_ (some 65) rfl rfl Tryz.func6 (by kernel_rfl) rfl #[.agg #[.slice A0_0 l0_0.length c0_0, .int .i64 a0_1, .int .i64 a0_2, .int .i32 a0_3, .int .i64 a0_4, .int .u64 a0_5], .agg #[.slice A1_0 l1_0.length c1_0, .int .i64 a1_1, .int .i64 a1_2, .int .i32 a1_3, .int .i64 a1_4, .int .u64 a1_5]] rfl (by (try simp only [List.map_toArray, List.map_cons, List.map_nil]); first | done | rfl | (simp only [List.length_drop, List.length_take]; rfl)) ?_; (with_reducible refine (gen_Equal.calls kj2 _ _ l0_0 a0_1 a0_2 a0_3 a0_4 a0_5 _ _ l1_0 a1_1 a1_2 a1_3 a1_4 a1_5 t400 _ ?side1 ?side2 ?side3 ?side4 A21.out).mono ?_); (case side1 => repeat (first | exact (Kd.C_below HR0_0.out (by repeat (first | (with_reducible first | exact HB.out | apply below_alloc | apply pw_below_drewN | apply below_drew1 | refine below_set ?_ GE396.out | refine below_set ?_ GE397.out) | exact HB.out))) | (with_reducible refine Kd.C_alloc ?_ _) | (with_reducible refine Kd.C_drewN ?_ _) | (with_reducible refine Kd.C_drew ?_))); (case side2 => exact HC0_0.out); (case side3 => repeat (first | exact (Kd.C_below HR1_0.out (by repeat (first | (with_reducible first | exact HB.out | apply below_alloc | apply pw_below_drewN | apply below_drew1 | refine below_set ?_ GE396.out | refine below_set ?_ GE397.out) | exact HB.out))) | (with_reducible refine Kd.C_alloc ?_ _) | (with_reducible refine Kd.C_drewN ?_ _) | (with_reducible refine Kd.C_drew ?_))); (case side4 => exact HC1_0.out); rintro e w37 ⟨rfl, hb⟩; refine ⟨_, rfl, ?_⟩; have n0_ := Aside0.mk (blk_below (g := gb396) (o := .cells #[.slice A0_0 l0_0.length c0_0, .int .i64 a0_1, .int .i64 a0_2, .int .i32 a0_3, .int .i64 a0_4, .int .u64 a0_5] 27 (0, 0)) (by (with_reducible repeat (first | refine blk_drewN ?_ _ | refine blk_drew ?_ | refine blk_alloc ?_ _)); exact BK396.out) hb); have n1_ := Aside0.mk (blk_below (g := gb397) (o := .cells #[.slice A1_0 l1_0.length c1_0, .int .i64 a1_1, .int .i64 a1_2, .int .i32 a1_3, .int .i64 a1_4, .int .u64 a1_5] 27 (0, 0)) (by (with_reducible repeat (first | refine blk_drewN ?_ _ | refine blk_drew ?_ | refine blk_alloc ?_ _)); exact BK397.out) hb); have n2_ := Aside0.mk (below_step (by repeat (first | (with_reducible first | exact HB.out | apply below_alloc | apply pw_below_drewN | apply below_drew1 | refine below_set ?_ GE396.out | refine below_set ?_ GE397.out) | exact HB.out)) hb); clear BK396; clear BK397; clear HB; have BK396 := n0_; have BK397 := n1_; have HB := n2_; clear n0_ n1_ n2_; (try clear hb); (try clear hb2); (try clear hk); (try clear hi); have hcz38_0 : w37.cell? ⟨gb397, 0, none⟩ = some (.slice A1_0 l1_0.length c1_0) := (blk_cell BK397.out 0).trans rfl; have hcz38_1 : w37.cell? ⟨gb397, 1, none⟩ = some (.int .i64 a1_1) := (blk_cell BK397.out 1).trans rfl; have hcz38_2 : w37.cell? ⟨gb397, 2, none⟩ = some (.int .i64 a1_2) := (blk_cell BK397.out 2).trans rfl; have hcz38_3 : w37.cell? ⟨gb397, 3, none⟩ = some (.int .i32 a1_3) := (blk_cell BK397.out 3).trans rfl; have hcz38_4 : w37.cell? ⟨gb397, 4, none⟩ = some (.int .i64 a1_4) := (blk_cell BK397.out 4).trans rfl; have hcz38_5 : w37.cell? ⟨gb397, 5, none⟩ = some (.int .u64 a1_5) := (blk_cell BK397.out 5).trans rfl; have hfz38_0 := blk_frozen BK397.out 0; have hfz38_1 := blk_frozen BK397.out 1; have hfz38_2 := blk_frozen BK397.out 2; have hfz38_3 := blk_frozen BK397.out 3; have hfz38_4 := blk_frozen BK397.out 4; have hfz38_5 := blk_frozen BK397.out 5; have hcz39_0 : w37.cell? ⟨gb396, 0, none⟩ = some (.slice A0_0 l0_0.length c0_0) := (blk_cell BK396.out 0).trans rfl; have hcz39_1 : w37.cell? ⟨gb396, 1, none⟩ = some (.int .i64 a0_1) := (blk_cell BK396.out 1).trans rfl; have hcz39_2 : w37.cell? ⟨gb396, 2, none⟩ = some (.int .i64 a0_2) := (blk_cell BK396.out 2).trans rfl; have hcz39_3 : w37.cell? ⟨gb396, 3, none⟩ = some (.int .i32 a0_3) := (blk_cell BK396.out 3).trans rfl; have hcz39_4 : w37.cell? ⟨gb396, 4, none⟩ = some (.int .i64 a0_4) := (blk_cell BK396.out 4).trans rfl; have hcz39_5 : w37.cell? ⟨gb396, 5, none⟩ = some (.int .u64 a0_5) := (blk_cell BK396.out 5).trans rfl; have hfz39_0 := blk_frozen BK396.out 0; have hfz39_1 := blk_frozen BK396.out 1; have hfz39_2 := blk_frozen BK396.out 2; have hfz39_3 := blk_frozen BK396.out 3; have hfz39_4 := blk_frozen BK396.out 4; have hfz39_5 := blk_frozen BK396.out 5) | (go_at_call 6; (with_reducible refine (gen_Equal.calls kj2 _ _ l1_0 a1_1 a1_2 a1_3 a1_4 a1_5 _ _ l0_0 a0_1 a0_2 a0_3 a0_4 a0_5 t401 _ ?side1 ?side2 ?side3 ?side4 A23.out).mono ?_); (case side1 => repeat (first | exact (Kd.C_below HR1_0.out HB.out) | (with_reducible refine Kd.C_alloc ?_ _) | (with_reducible refine Kd.C_drewN ?_ _) | (with_reducible refine Kd.C_drew ?_))); (case side2 => exact HC1_0.out); (case side3 => repeat (first | exact (Kd.C_below HR0_0.out HB.out) | (with_reducible refine Kd.C_alloc ?_ _) | (with_reducible refine Kd.C_drewN ?_ _) | (with_reducible refine Kd.C_drew ?_))); (case side4 => exact HC0_0.out); rintro e w40 ⟨rfl, hb⟩; have n0_ := Aside0.mk (blk_below (g := gb396) (o := .cells #[.slice A0_0 l0_0.length c0_0, .int .i64 a0_1, .int .i64 a0_2, .int .i32 a0_3, .int .i64 a0_4, .int .u64 a0_5] 27 (0, 0)) (by (with_reducible repeat (first | refine blk_drewN ?_ _ | refine blk_drew ?_ | refine blk_alloc ?_ _)); exact BK396.out) hb); have n1_ := Aside0.mk (blk_below (g := gb397) (o := .cells #[.slice A1_0 l1_0.length c1_0, .int .i64 a1_1, .int .i64 a1_2, .int .i32 a1_3, .int .i64 a1_4, .int .u64 a1_5] 27 (0, 0)) (by (with_reducible repeat (first | refine blk_drewN ?_ _ | refine blk_drew ?_ | refine blk_alloc ?_ _)); exact BK397.out) hb); have n2_ := Aside0.mk (below_step (by repeat (first | (with_reducible first | exact HB.out | apply below_alloc | apply pw_below_drewN | apply below_drew1 | refine below_set ?_ GE396.out | refine below_set ?_ GE397.out) | exact HB.out)) hb); clear BK396; clear BK397; clear HB; have BK396 := n0_; have BK397 := n1_; have HB := n2_; clear n0_ n1_ n2_; (try clear hb); (try clear hb2); (try clear hk); (try clear hi)))
                      go_ret
                      exact ⟨by first | rfl | (simp [errW_none, errW_some] <;> rfl) | (simp [*, errW_none, errW_some] <;> rfl), by repeat (first | (with_reducible first | exact HB.out | apply below_alloc | apply pw_below_drewN | apply below_drew1 | refine below_set ?_ GE396.out | refine below_set ?_ GE397.out) | exact HB.out)⟩
                  · rw [if_neg c22] at H
                    have c22b0 : (t400 == (a0_5 == a1_5)) = false := by simpa using c22
                    (try (have c22b1 : decide (t400 = (a0_5 == a1_5)) = false := by simpa using c22))
                    (try (have c22b2 : (t400 == (a0_5 == a1_5)) = false := by simpa using c22))
                    (try (have c22b3 : ¬ (t400 = (a0_5 == a1_5)) := by simpa using c22))
                    clear c22
                    obtain rfl := Option.some.inj H
                    have hnb41 := NB396_397.out
                    have hnc41 := NB397_396.out
                    have hcz42_0 : wc.cell? ⟨gb396, 0, none⟩ = some (.slice A0_0 l0_0.length c0_0) := (blk_cell BK396.out 0).trans rfl
                    have hcz42_1 : wc.cell? ⟨gb396, 1, none⟩ = some (.int .i64 a0_1) := (blk_cell BK396.out 1).trans rfl
                    have hcz42_2 : wc.cell? ⟨gb396, 2, none⟩ = some (.int .i64 a0_2) := (blk_cell BK396.out 2).trans rfl
                    have hcz42_3 : wc.cell? ⟨gb396, 3, none⟩ = some (.int .i32 a0_3) := (blk_cell BK396.out 3).trans rfl
                    have hcz42_4 : wc.cell? ⟨gb396, 4, none⟩ = some (.int .i64 a0_4) := (blk_cell BK396.out 4).trans rfl
                    have hcz42_5 : wc.cell? ⟨gb396, 5, none⟩ = some (.int .u64 a0_5) := (blk_cell BK396.out 5).trans rfl
                    have hfz42_0 := blk_frozen BK396.out 0
                    have hfz42_1 := blk_frozen BK396.out 1
                    have hfz42_2 := blk_frozen BK396.out 2
                    have hfz42_3 := blk_frozen BK396.out 3
                    have hfz42_4 := blk_frozen BK396.out 4
                    have hfz42_5 := blk_frozen BK396.out 5
                    have hcz43_0 : wc.cell? ⟨gb397, 0, none⟩ = some (.slice A1_0 l1_0.length c1_0) := (blk_cell BK397.out 0).trans rfl
                    have hcz43_1 : wc.cell? ⟨gb397, 1, none⟩ = some (.int .i64 a1_1) := (blk_cell BK397.out 1).trans rfl
                    have hcz43_2 : wc.cell? ⟨gb397, 2, none⟩ = some (.int .i64 a1_2) := (blk_cell BK397.out 2).trans rfl
                    have hcz43_3 : wc.cell? ⟨gb397, 3, none⟩ = some (.int .i32 a1_3) := (blk_cell BK397.out 3).trans rfl
                    have hcz43_4 : wc.cell? ⟨gb397, 4, none⟩ = some (.int .i64 a1_4) := (blk_cell BK397.out 4).trans rfl
                    have hcz43_5 : wc.cell? ⟨gb397, 5, none⟩ = some (.int .u64 a1_5) := (blk_cell BK397.out 5).trans rfl
                    have hfz43_0 := blk_frozen BK397.out 0
                    have hfz43_1 := blk_frozen BK397.out 1
                    have hfz43_2 := blk_frozen BK397.out 2
                    have hfz43_3 := blk_frozen BK397.out 3
                    have hfz43_4 := blk_frozen BK397.out 4
                    have hfz43_5 := blk_frozen BK397.out 5
                    go_wp2_with (first | ((with_reducible refine gate_callee (f := 5) rfl ?_); refine goesL_ (some 21) rfl rfl Tryz.func5 (by kernel_rfl) rfl #[.slice A0_0 l0_0.length c0_0, .slice A1_0 l1_0.length c1_0] rfl (by (try simp only [List.map_toArray, List.map_cons, List.map_nil]); first | done | rfl | (simp only [List.length_drop, List.length_take]; rfl)) ?_; (with_reducible refine (credenzalaw21_same.calls kj2 _ _ l0_0 _ _ l1_0 true _ ?side1 ?side2 ?side3 ?side4 A15.out).mono ?_); (case side1 => repeat (first | exact (Kd.C_below HR0_0.out HB.out) | (with_reducible refine Kd.C_alloc ?_ _) | (with_reducible refine Kd.C_drewN ?_ _) | (with_reducible refine Kd.C_drew ?_))); (case side2 => exact HC0_0.out); (case side3 => repeat (first | exact (Kd.C_below HR1_0.out HB.out) | (with_reducible refine Kd.C_alloc ?_ _) | (with_reducible refine Kd.C_drewN ?_ _) | (with_reducible refine Kd.C_drew ?_))); (case side4 => exact HC1_0.out); rintro e w' ⟨rfl, ⟨nd, rfl⟩⟩; refine ⟨_, rfl, ?_⟩) | ((with_reducible refine gate_callee (f := 6) rfl ?_); refine goesL_ (some 65) rfl rfl Tryz.func6 (by kernel_rfl) rfl #[.agg #[.slice A0_0 l0_0.length c0_0, .int .i64 a0_1, .int .i64 a0_2, .int .i32 a0_3, .int .i64 a0_4, .int .u64 a0_5], .agg #[.slice A1_0 l1_0.length c1_0, .int .i64 a1_1, .int .i64 a1_2, .int .i32 a1_3, .int .i64 a1_4, .int .u64 a1_5]] rfl (by (try simp only [List.map_toArray, List.map_cons, List.map_nil]); first | done | rfl | (simp only [List.length_drop, List.length_take]; rfl)) ?_; (with_reducible refine (gen_Equal.calls kj2 _ _ l0_0 a0_1 a0_2 a0_3 a0_4 a0_5 _ _ l1_0 a1_1 a1_2 a1_3 a1_4 a1_5 t400 _ ?side1 ?side2 ?side3 ?side4 A21.out).mono ?_); (case side1 => repeat (first | exact (Kd.C_below HR0_0.out (by repeat (first | (with_reducible first | exact HB.out | apply below_alloc | apply pw_below_drewN | apply below_drew1 | refine below_set ?_ GE396.out | refine below_set ?_ GE397.out) | exact HB.out))) | (with_reducible refine Kd.C_alloc ?_ _) | (with_reducible refine Kd.C_drewN ?_ _) | (with_reducible refine Kd.C_drew ?_))); (case side2 => exact HC0_0.out); (case side3 => repeat (first | exact (Kd.C_below HR1_0.out (by repeat (first | (with_reducible first | exact HB.out | apply below_alloc | apply pw_below_drewN | apply below_drew1 | refine below_set ?_ GE396.out | refine below_set ?_ GE397.out) | exact HB.out))) | (with_reducible refine Kd.C_alloc ?_ _) | (with_reducible refine Kd.C_drewN ?_ _) | (with_reducible refine Kd.C_drew ?_))); (case side4 => exact HC1_0.out); rintro e w44 ⟨rfl, hb⟩; refine ⟨_, rfl, ?_⟩; have n0_ := Aside0.mk (blk_below (g := gb396) (o := .cells #[.slice A0_0 l0_0.length c0_0, .int .i64 a0_1, .int .i64 a0_2, .int .i32 a0_3, .int .i64 a0_4, .int .u64 a0_5] 27 (0, 0)) (by (with_reducible repeat (first | refine blk_drewN ?_ _ | refine blk_drew ?_ | refine blk_alloc ?_ _)); exact BK396.out) hb); have n1_ := Aside0.mk (blk_below (g := gb397) (o := .cells #[.slice A1_0 l1_0.length c1_0, .int .i64 a1_1, .int .i64 a1_2, .int .i32 a1_3, .int .i64 a1_4, .int .u64 a1_5] 27 (0, 0)) (by (with_reducible repeat (first | refine blk_drewN ?_ _ | refine blk_drew ?_ | refine blk_alloc ?_ _)); exact BK397.out) hb); have n2_ := Aside0.mk (below_step (by repeat (first | (with_reducible first | exact HB.out | apply below_alloc | apply pw_below_drewN | apply below_drew1 | refine below_set ?_ GE396.out | refine below_set ?_ GE397.out) | exact HB.out)) hb); clear BK396; clear BK397; clear HB; have BK396 := n0_; have BK397 := n1_; have HB := n2_; clear n0_ n1_ n2_; (try clear hb); (try clear hb2); (try clear hk); (try clear hi)))
                    go_ret
                    exact ⟨by first | rfl | (simp [errW_none, errW_some] <;> rfl) | (simp [*, errW_none, errW_some] <;> rfl), by repeat (first | (with_reducible first | exact HB.out | apply below_alloc | apply pw_below_drewN | apply below_drew1 | refine below_set ?_ GE396.out | refine below_set ?_ GE397.out) | exact HB.out)⟩
                · rw [if_neg c20] at H
                  have c20b0 : (a0_4 == a1_4) = false := beq_eq_false_iff_ne.mpr c20
                  have c20b1 : (a0_4 != a1_4) = true := bne_iff_ne.mpr c20
                  replace H := Option.bind_eq_some_iff.mp H
                  obtain ⟨t403, A450, H⟩ := H
                  replace H : (if (t403 == false) = true then ((gen_Equal.f kj2 l1_0 a1_1 a1_2 a1_3 a1_4 a1_5 l0_0 a0_1 a0_2 a0_3 a0_4 a0_5).bind fun t404 => (if (t404 == false) = true then ((credenzalaw21_awake.f).bind fun t405 => (some t405)) else (some false))) else (some false)) = some r := H
                  have A45 := Aside0.mk A450
                  clear A450
                  by_cases c46 : (t403 == false) = true
                  · rw [if_pos c46] at H
                    have c46b0 : (t403 == false) = true := c46
                    (try (have c46b1 : decide (t403 = false) = true := by simpa using c46))
                    (try (have c46b2 : (t403 == false) = true := by simpa using c46))
                    clear c46
                    replace H := Option.bind_eq_some_iff.mp H
                    obtain ⟨t404, A470, H⟩ := H
                    replace H : (if (t404 == false) = true then ((credenzalaw21_awake.f).bind fun t405 => (some t405)) else (some false)) = some r := H
                    have A47 := Aside0.mk A470
                    clear A470
                    by_cases c48 : (t404 == false) = true
                    · rw [if_pos c48] at H
                      have c48b0 : (t404 == false) = true := c48
                      (try (have c48b1 : decide (t404 = false) = true := by simpa using c48))
                      (try (have c48b2 : (t404 == false) = true := by simpa using c48))
                      clear c48
                      replace H := Option.bind_eq_some_iff.mp H
                      obtain ⟨t405, A490, H⟩ := H
                      replace H : (some t405) = some r := H
                      have A49 := Aside0.mk A490
                      clear A490
                      obtain rfl := Option.some.inj H
                      have hnb50 := NB396_397.out
                      have hnc50 := NB397_396.out
                      have hcz51_0 : wc.cell? ⟨gb396, 0, none⟩ = some (.slice A0_0 l0_0.length c0_0) := (blk_cell BK396.out 0).trans rfl
                      have hcz51_1 : wc.cell? ⟨gb396, 1, none⟩ = some (.int .i64 a0_1) := (blk_cell BK396.out 1).trans rfl
                      have hcz51_2 : wc.cell? ⟨gb396, 2, none⟩ = some (.int .i64 a0_2) := (blk_cell BK396.out 2).trans rfl
                      have hcz51_3 : wc.cell? ⟨gb396, 3, none⟩ = some (.int .i32 a0_3) := (blk_cell BK396.out 3).trans rfl
                      have hcz51_4 : wc.cell? ⟨gb396, 4, none⟩ = some (.int .i64 a0_4) := (blk_cell BK396.out 4).trans rfl
                      have hcz51_5 : wc.cell? ⟨gb396, 5, none⟩ = some (.int .u64 a0_5) := (blk_cell BK396.out 5).trans rfl
                      have hfz51_0 := blk_frozen BK396.out 0
                      have hfz51_1 := blk_frozen BK396.out 1
                      have hfz51_2 := blk_frozen BK396.out 2
                      have hfz51_3 := blk_frozen BK396.out 3
                      have hfz51_4 := blk_frozen BK396.out 4
                      have hfz51_5 := blk_frozen BK396.out 5
                      have hcz52_0 : wc.cell? ⟨gb397, 0, none⟩ = some (.slice A1_0 l1_0.length c1_0) := (blk_cell BK397.out 0).trans rfl
                      have hcz52_1 : wc.cell? ⟨gb397, 1, none⟩ = some (.int .i64 a1_1) := (blk_cell BK397.out 1).trans rfl
                      have hcz52_2 : wc.cell? ⟨gb397, 2, none⟩ = some (.int .i64 a1_2) := (blk_cell BK397.out 2).trans rfl
                      have hcz52_3 : wc.cell? ⟨gb397, 3, none⟩ = some (.int .i32 a1_3) := (blk_cell BK397.out 3).trans rfl
                      have hcz52_4 : wc.cell? ⟨gb397, 4, none⟩ = some (.int .i64 a1_4) := (blk_cell BK397.out 4).trans rfl
                      have hcz52_5 : wc.cell? ⟨gb397, 5, none⟩ = some (.int .u64 a1_5) := (blk_cell BK397.out 5).trans rfl
                      have hfz52_0 := blk_frozen BK397.out 0
                      have hfz52_1 := blk_frozen BK397.out 1
                      have hfz52_2 := blk_frozen BK397.out 2
                      have hfz52_3 := blk_frozen BK397.out 3
                      have hfz52_4 := blk_frozen BK397.out 4
                      have hfz52_5 := blk_frozen BK397.out 5
                      go_wp2_with (first | ((with_reducible refine gate_callee (f := 5) rfl ?_); refine goesL_ (some 21) rfl rfl Tryz.func5 (by kernel_rfl) rfl #[.slice A0_0 l0_0.length c0_0, .slice A1_0 l1_0.length c1_0] rfl (by (try simp only [List.map_toArray, List.map_cons, List.map_nil]); first | done | rfl | (simp only [List.length_drop, List.length_take]; rfl)) ?_; (with_reducible refine (credenzalaw21_same.calls kj2 _ _ l0_0 _ _ l1_0 true _ ?side1 ?side2 ?side3 ?side4 A15.out).mono ?_); (case side1 => repeat (first | exact (Kd.C_below HR0_0.out HB.out) | (with_reducible refine Kd.C_alloc ?_ _) | (with_reducible refine Kd.C_drewN ?_ _) | (with_reducible refine Kd.C_drew ?_))); (case side2 => exact HC0_0.out); (case side3 => repeat (first | exact (Kd.C_below HR1_0.out HB.out) | (with_reducible refine Kd.C_alloc ?_ _) | (with_reducible refine Kd.C_drewN ?_ _) | (with_reducible refine Kd.C_drew ?_))); (case side4 => exact HC1_0.out); rintro e w' ⟨rfl, ⟨nd, rfl⟩⟩; refine ⟨_, rfl, ?_⟩) | ((with_reducible refine gate_callee (f := 6) rfl ?_); refine goesL_ (some 65) rfl rfl Tryz.func6 (by kernel_rfl) rfl #[.agg #[.slice A0_0 l0_0.length c0_0, .int .i64 a0_1, .int .i64 a0_2, .int .i32 a0_3, .int .i64 a0_4, .int .u64 a0_5], .agg #[.slice A1_0 l1_0.length c1_0, .int .i64 a1_1, .int .i64 a1_2, .int .i32 a1_3, .int .i64 a1_4, .int .u64 a1_5]] rfl (by (try simp only [List.map_toArray, List.map_cons, List.map_nil]); first | done | rfl | (simp only [List.length_drop, List.length_take]; rfl)) ?_; (with_reducible refine (gen_Equal.calls kj2 _ _ l0_0 a0_1 a0_2 a0_3 a0_4 a0_5 _ _ l1_0 a1_1 a1_2 a1_3 a1_4 a1_5 t403 _ ?side1 ?side2 ?side3 ?side4 A45.out).mono ?_); (case side1 => repeat (first | exact (Kd.C_below HR0_0.out (by repeat (first | (with_reducible first | exact HB.out | apply below_alloc | apply pw_below_drewN | apply below_drew1 | refine below_set ?_ GE396.out | refine below_set ?_ GE397.out) | exact HB.out))) | (with_reducible refine Kd.C_alloc ?_ _) | (with_reducible refine Kd.C_drewN ?_ _) | (with_reducible refine Kd.C_drew ?_))); (case side2 => exact HC0_0.out); (case side3 => repeat (first | exact (Kd.C_below HR1_0.out (by repeat (first | (with_reducible first | exact HB.out | apply below_alloc | apply pw_below_drewN | apply below_drew1 | refine below_set ?_ GE396.out | refine below_set ?_ GE397.out) | exact HB.out))) | (with_reducible refine Kd.C_alloc ?_ _) | (with_reducible refine Kd.C_drewN ?_ _) | (with_reducible refine Kd.C_drew ?_))); (case side4 => exact HC1_0.out); rintro e w53 ⟨rfl, hb⟩; refine ⟨_, rfl, ?_⟩; have n0_ := Aside0.mk (blk_below (g := gb396) (o := .cells #[.slice A0_0 l0_0.length c0_0, .int .i64 a0_1, .int .i64 a0_2, .int .i32 a0_3, .int .i64 a0_4, .int .u64 a0_5] 27 (0, 0)) (by (with_reducible repeat (first | refine blk_drewN ?_ _ | refine blk_drew ?_ | refine blk_alloc ?_ _)); exact BK396.out) hb); have n1_ := Aside0.mk (blk_below (g := gb397) (o := .cells #[.slice A1_0 l1_0.length c1_0, .int .i64 a1_1, .int .i64 a1_2, .int .i32 a1_3, .int .i64 a1_4, .int .u64 a1_5] 27 (0, 0)) (by (with_reducible repeat (first | refine blk_drewN ?_ _ | refine blk_drew ?_ | refine blk_alloc ?_ _)); exact BK397.out) hb); have n2_ := Aside0.mk (below_step (by repeat (first | (with_reducible first | exact HB.out | apply below_alloc | apply pw_below_drewN | apply below_drew1 | refine below_set ?_ GE396.out | refine below_set ?_ GE397.out) | exact HB.out)) hb); clear BK396; clear BK397; clear HB; have BK396 := n0_; have BK397 := n1_; have HB := n2_; clear n0_ n1_ n2_; (try clear hb); (try clear hb2); (try clear hk); (try clear hi); have hcz54_0 : w53.cell? ⟨gb397, 0, none⟩ = some (.slice A1_0 l1_0.length c1_0) := (blk_cell BK397.out 0).trans rfl; have hcz54_1 : w53.cell? ⟨gb397, 1, none⟩ = some (.int .i64 a1_1) := (blk_cell BK397.out 1).trans rfl; have hcz54_2 : w53.cell? ⟨gb397, 2, none⟩ = some (.int .i64 a1_2) := (blk_cell BK397.out 2).trans rfl; have hcz54_3 : w53.cell? ⟨gb397, 3, none⟩ = some (.int .i32 a1_3) := (blk_cell BK397.out 3).trans rfl; have hcz54_4 : w53.cell? ⟨gb397, 4, none⟩ = some (.int .i64 a1_4) := (blk_cell BK397.out 4).trans rfl; have hcz54_5 : w53.cell? ⟨gb397, 5, none⟩ = some (.int .u64 a1_5) := (blk_cell BK397.out 5).trans rfl; have hfz54_0 := blk_frozen BK397.out 0; have hfz54_1 := blk_frozen BK397.out 1; have hfz54_2 := blk_frozen BK397.out 2; have hfz54_3 := blk_frozen BK397.out 3; have hfz54_4 := blk_frozen BK397.out 4; have hfz54_5 := blk_frozen BK397.out 5; have hcz55_0 : w53.cell? ⟨gb396, 0, none⟩ = some (.slice A0_0 l0_0.length c0_0) := (blk_cell BK396.out 0).trans rfl; have hcz55_1 : w53.cell? ⟨gb396, 1, none⟩ = some (.int .i64 a0_1) := (blk_cell BK396.out 1).trans rfl; have hcz55_2 : w53.cell? ⟨gb396, 2, none⟩ = some (.int .i64 a0_2) := (blk_cell BK396.out 2).trans rfl; have hcz55_3 : w53.cell? ⟨gb396, 3, none⟩ = some (.int .i32 a0_3) := (blk_cell BK396.out 3).trans rfl; have hcz55_4 : w53.cell? ⟨gb396, 4, none⟩ = some (.int .i64 a0_4) := (blk_cell BK396.out 4).trans rfl; have hcz55_5 : w53.cell? ⟨gb396, 5, none⟩ = some (.int .u64 a0_5) := (blk_cell BK396.out 5).trans rfl; have hfz55_0 := blk_frozen BK396.out 0; have hfz55_1 := blk_frozen BK396.out 1; have hfz55_2 := blk_frozen BK396.out 2; have hfz55_3 := blk_frozen BK396.out 3; have hfz55_4 := blk_frozen BK396.out 4; have hfz55_5 := blk_frozen BK396.out 5) | (go_at_call 6; (with_reducible refine (gen_Equal.calls kj2 _ _ l1_0 a1_1 a1_2 a1_3 a1_4 a1_5 _ _ l0_0 a0_1 a0_2 a0_3 a0_4 a0_5 t404 _ ?side1 ?side2 ?side3 ?side4 A47.out).mono ?_); (case side1 => repeat (first | exact (Kd.C_below HR1_0.out HB.out) | (with_reducible refine Kd.C_alloc ?_ _) | (with_reducible refine Kd.C_drewN ?_ _) | (with_reducible refine Kd.C_drew ?_))); (case side2 => exact HC1_0.out); (case side3 => repeat (first | exact (Kd.C_below HR0_0.out HB.out) | (with_reducible refine Kd.C_alloc ?_ _) | (with_reducible refine Kd.C_drewN ?_ _) | (with_reducible refine Kd.C_drew ?_))); (case side4 => exact HC0_0.out); rintro e w56 ⟨rfl, hb⟩; have n0_ := Aside0.mk (blk_below (g := gb396) (o := .cells #[.slice A0_0 l0_0.length c0_0, .int .i64 a0_1, .int .i64 a0_2, .int .i32 a0_3, .int .i64 a0_4, .int .u64 a0_5] 27 (0, 0)) (by (with_reducible repeat (first | refine blk_drewN ?_ _ | refine blk_drew ?_ | refine blk_alloc ?_ _)); exact BK396.out) hb); have n1_ := Aside0.mk (blk_below (g := gb397) (o := .cells #[.slice A1_0 l1_0.length c1_0, .int .i64 a1_1, .int .i64 a1_2, .int .i32 a1_3, .int .i64 a1_4, .int .u64 a1_5] 27 (0, 0)) (by (with_reducible repeat (first | refine blk_drewN ?_ _ | refine blk_drew ?_ | refine blk_alloc ?_ _)); exact BK397.out) hb); have n2_ := Aside0.mk (below_step (by repeat (first | (with_reducible first | exact HB.out | apply below_alloc | apply pw_below_drewN | apply below_drew1 | refine below_set ?_ GE396.out | refine below_set ?_ GE397.out) | exact HB.out)) hb); clear BK396; clear BK397; clear HB; have BK396 := n0_; have BK397 := n1_; have HB := n2_; clear n0_ n1_ n2_; (try clear hb); (try clear hb2); (try clear hk); (try clear hi)) | (go_at_call 4; (with_reducible refine (credenzalaw21_awake.calls  t405 _ A49.out).mono ?_); rintro e w57 ⟨rfl, hb⟩; have n0_ := Aside0.mk (blk_below (g := gb396) (o := .cells #[.slice A0_0 l0_0.length c0_0, .int .i64 a0_1, .int .i64 a0_2, .int .i32 a0_3, .int .i64 a0_4, .int .u64 a0_5] 27 (0, 0)) (by (with_reducible repeat (first | refine blk_drewN ?_ _ | refine blk_drew ?_ | refine blk_alloc ?_ _)); exact BK396.out) hb); have n1_ := Aside0.mk (blk_below (g := gb397) (o := .cells #[.slice A1_0 l1_0.length c1_0, .int .i64 a1_1, .int .i64 a1_2, .int .i32 a1_3, .int .i64 a1_4, .int .u64 a1_5] 27 (0, 0)) (by (with_reducible repeat (first | refine blk_drewN ?_ _ | refine blk_drew ?_ | refine blk_alloc ?_ _)); exact BK397.out) hb); have n2_ := Aside0.mk (below_step (by repeat (first | (with_reducible first | exact HB.out | apply below_alloc | apply pw_below_drewN | apply below_drew1 | refine below_set ?_ GE396.out | refine below_set ?_ GE397.out) | exact HB.out)) hb); clear BK396; clear BK397; clear HB; have BK396 := n0_; have BK397 := n1_; have HB := n2_; clear n0_ n1_ n2_; (try clear hb); (try clear hb2); (try clear hk); (try clear hi)))
                      go_ret
                      exact ⟨by first | rfl | (simp [errW_none, errW_some] <;> rfl) | (simp [*, errW_none, errW_some] <;> rfl), by repeat (first | (with_reducible first | exact HB.out | apply below_alloc | apply pw_below_drewN | apply below_drew1 | refine below_set ?_ GE396.out | refine below_set ?_ GE397.out) | exact HB.out)⟩
                    · rw [if_neg c48] at H
                      have c48b0 : (t404 == false) = false := by simpa using c48
                      (try (have c48b1 : decide (t404 = false) = false := by simpa using c48))
                      (try (have c48b2 : (t404 == false) = false := by simpa using c48))
                      (try (have c48b3 : ¬ (t404 = false) := by simpa using c48))
                      clear c48
                      obtain rfl := Option.some.inj H
                      have hnb58 := NB396_397.out
                      have hnc58 := NB397_396.out
                      have hcz59_0 : wc.cell? ⟨gb396, 0, none⟩ = some (.slice A0_0 l0_0.length c0_0) := (blk_cell BK396.out 0).trans rfl
                      have hcz59_1 : wc.cell? ⟨gb396, 1, none⟩ = some (.int .i64 a0_1) := (blk_cell BK396.out 1).trans rfl
                      have hcz59_2 : wc.cell? ⟨gb396, 2, none⟩ = some (.int .i64 a0_2) := (blk_cell BK396.out 2).trans rfl
                      have hcz59_3 : wc.cell? ⟨gb396, 3, none⟩ = some (.int .i32 a0_3) := (blk_cell BK396.out 3).trans rfl
                      have hcz59_4 : wc.cell? ⟨gb396, 4, none⟩ = some (.int .i64 a0_4) := (blk_cell BK396.out 4).trans rfl
                      have hcz59_5 : wc.cell? ⟨gb396, 5, none⟩ = some (.int .u64 a0_5) := (blk_cell BK396.out 5).trans rfl
                      have hfz59_0 := blk_frozen BK396.out 0
                      have hfz59_1 := blk_frozen BK396.out 1
                      have hfz59_2 := blk_frozen BK396.out 2
                      have hfz59_3 := blk_frozen BK396.out 3
                      have hfz59_4 := blk_frozen BK396.out 4
                      have hfz59_5 := blk_frozen BK396.out 5
                      have hcz60_0 : wc.cell? ⟨gb397, 0, none⟩ = some (.slice A1_0 l1_0.length c1_0) := (blk_cell BK397.out 0).trans rfl
                      have hcz60_1 : wc.cell? ⟨gb397, 1, none⟩ = some (.int .i64 a1_1) := (blk_cell BK397.out 1).trans rfl
                      have hcz60_2 : wc.cell? ⟨gb397, 2, none⟩ = some (.int .i64 a1_2) := (blk_cell BK397.out 2).trans rfl
                      have hcz60_3 : wc.cell? ⟨gb397, 3, none⟩ = some (.int .i32 a1_3) := (blk_cell BK397.out 3).trans rfl
                      have hcz60_4 : wc.cell? ⟨gb397, 4, none⟩ = some (.int .i64 a1_4) := (blk_cell BK397.out 4).trans rfl
                      have hcz60_5 : wc.cell? ⟨gb397, 5, none⟩ = some (.int .u64 a1_5) := (blk_cell BK397.out 5).trans rfl
                      have hfz60_0 := blk_frozen BK397.out 0
                      have hfz60_1 := blk_frozen BK397.out 1
                      have hfz60_2 := blk_frozen BK397.out 2
                      have hfz60_3 := blk_frozen BK397.out 3
                      have hfz60_4 := blk_frozen BK397.out 4
                      have hfz60_5 := blk_frozen BK397.out 5
                      go_wp2_with (first | ((with_reducible refine gate_callee (f := 5) rfl ?_); refine goesL_ (some 21) rfl rfl Tryz.func5 (by kernel_rfl) rfl #[.slice A0_0 l0_0.length c0_0, .slice A1_0 l1_0.length c1_0] rfl (by (try simp only [List.map_toArray, List.map_cons, List.map_nil]); first | done | rfl | (simp only [List.length_drop, List.length_take]; rfl)) ?_; (with_reducible refine (credenzalaw21_same.calls kj2 _ _ l0_0 _ _ l1_0 true _ ?side1 ?side2 ?side3 ?side4 A15.out).mono ?_); (case side1 => repeat (first | exact (Kd.C_below HR0_0.out HB.out) | (with_reducible refine Kd.C_alloc ?_ _) | (with_reducible refine Kd.C_drewN ?_ _) | (with_reducible refine Kd.C_drew ?_))); (case side2 => exact HC0_0.out); (case side3 => repeat (first | exact (Kd.C_below HR1_0.out HB.out) | (with_reducible refine Kd.C_alloc ?_ _) | (with_reducible refine Kd.C_drewN ?_ _) | (with_reducible refine Kd.C_drew ?_))); (case side4 => exact HC1_0.out); rintro e w' ⟨rfl, ⟨nd, rfl⟩⟩; refine ⟨_, rfl, ?_⟩) | ((with_reducible refine gate_callee (f := 6) rfl ?_); refine goesL_ (some 65) rfl rfl Tryz.func6 (by kernel_rfl) rfl #[.agg #[.slice A0_0 l0_0.length c0_0, .int .i64 a0_1, .int .i64 a0_2, .int .i32 a0_3, .int .i64 a0_4, .int .u64 a0_5], .agg #[.slice A1_0 l1_0.length c1_0, .int .i64 a1_1, .int .i64 a1_2, .int .i32 a1_3, .int .i64 a1_4, .int .u64 a1_5]] rfl (by (try simp only [List.map_toArray, List.map_cons, List.map_nil]); first | done | rfl | (simp only [List.length_drop, List.length_take]; rfl)) ?_; (with_reducible refine (gen_Equal.calls kj2 _ _ l0_0 a0_1 a0_2 a0_3 a0_4 a0_5 _ _ l1_0 a1_1 a1_2 a1_3 a1_4 a1_5 t403 _ ?side1 ?side2 ?side3 ?side4 A45.out).mono ?_); (case side1 => repeat (first | exact (Kd.C_below HR0_0.out (by repeat (first | (with_reducible first | exact HB.out | apply below_alloc | apply pw_below_drewN | apply below_drew1 | refine below_set ?_ GE396.out | refine below_set ?_ GE397.out) | exact HB.out))) | (with_reducible refine Kd.C_alloc ?_ _) | (with_reducible refine Kd.C_drewN ?_ _) | (with_reducible refine Kd.C_drew ?_))); (case side2 => exact HC0_0.out); (case side3 => repeat (first | exact (Kd.C_below HR1_0.out (by repeat (first | (with_reducible first | exact HB.out | apply below_alloc | apply pw_below_drewN | apply below_drew1 | refine below_set ?_ GE396.out | refine below_set ?_ GE397.out) | exact HB.out))) | (with_reducible refine Kd.C_alloc ?_ _) | (with_reducible refine Kd.C_drewN ?_ _) | (with_reducible refine Kd.C_drew ?_))); (case side4 => exact HC1_0.out); rintro e w61 ⟨rfl, hb⟩; refine ⟨_, rfl, ?_⟩; have n0_ := Aside0.mk (blk_below (g := gb396) (o := .cells #[.slice A0_0 l0_0.length c0_0, .int .i64 a0_1, .int .i64 a0_2, .int .i32 a0_3, .int .i64 a0_4, .int .u64 a0_5] 27 (0, 0)) (by (with_reducible repeat (first | refine blk_drewN ?_ _ | refine blk_drew ?_ | refine blk_alloc ?_ _)); exact BK396.out) hb); have n1_ := Aside0.mk (blk_below (g := gb397) (o := .cells #[.slice A1_0 l1_0.length c1_0, .int .i64 a1_1, .int .i64 a1_2, .int .i32 a1_3, .int .i64 a1_4, .int .u64 a1_5] 27 (0, 0)) (by (with_reducible repeat (first | refine blk_drewN ?_ _ | refine blk_drew ?_ | refine blk_alloc ?_ _)); exact BK397.out) hb); have n2_ := Aside0.mk (below_step (by repeat (first | (with_reducible first | exact HB.out | apply below_alloc | apply pw_below_drewN | apply below_drew1 | refine below_set ?_ GE396.out | refine below_set ?_ GE397.out) | exact HB.out)) hb); clear BK396; clear BK397; clear HB; have BK396 := n0_; have BK397 := n1_; have HB := n2_; clear n0_ n1_ n2_; (try clear hb); (try clear hb2); (try clear hk); (try clear hi); have hcz62_0 : w61.cell? ⟨gb397, 0, none⟩ = some (.slice A1_0 l1_0.length c1_0) := (blk_cell BK397.out 0).trans rfl; have hcz62_1 : w61.cell? ⟨gb397, 1, none⟩ = some (.int .i64 a1_1) := (blk_cell BK397.out 1).trans rfl; have hcz62_2 : w61.cell? ⟨gb397, 2, none⟩ = some (.int .i64 a1_2) := (blk_cell BK397.out 2).trans rfl; have hcz62_3 : w61.cell? ⟨gb397, 3, none⟩ = some (.int .i32 a1_3) := (blk_cell BK397.out 3).trans rfl; have hcz62_4 : w61.cell? ⟨gb397, 4, none⟩ = some (.int .i64 a1_4) := (blk_cell BK397.out 4).trans rfl; have hcz62_5 : w61.cell? ⟨gb397, 5, none⟩ = some (.int .u64 a1_5) := (blk_cell BK397.out 5).trans rfl; have hfz62_0 := blk_frozen BK397.out 0; have hfz62_1 := blk_frozen BK397.out 1; have hfz62_2 := blk_frozen BK397.out 2; have hfz62_3 := blk_frozen BK397.out 3; have hfz62_4 := blk_frozen BK397.out 4; have hfz62_5 := blk_frozen BK397.out 5; have hcz63_0 : w61.cell? ⟨gb396, 0, none⟩ = some (.slice A0_0 l0_0.length c0_0) := (blk_cell BK396.out 0).trans rfl; have hcz63_1 : w61.cell? ⟨gb396, 1, none⟩ = some (.int .i64 a0_1) := (blk_cell BK396.out 1).trans rfl; have hcz63_2 : w61.cell? ⟨gb396, 2, none⟩ = some (.int .i64 a0_2) := (blk_cell BK396.out 2).trans rfl; have hcz63_3 : w61.cell? ⟨gb396, 3, none⟩ = some (.int .i32 a0_3) := (blk_cell BK396.out 3).trans rfl; have hcz63_4 : w61.cell? ⟨gb396, 4, none⟩ = some (.int .i64 a0_4) := (blk_cell BK396.out 4).trans rfl; have hcz63_5 : w61.cell? ⟨gb396, 5, none⟩ = some (.int .u64 a0_5) := (blk_cell BK396.out 5).trans rfl; have hfz63_0 := blk_frozen BK396.out 0; have hfz63_1 := blk_frozen BK396.out 1; have hfz63_2 := blk_frozen BK396.out 2; have hfz63_3 := blk_frozen BK396.out 3; have hfz63_4 := blk_frozen BK396.out 4; have hfz63_5 := blk_frozen BK396.out 5) | (go_at_call 6; (with_reducible refine (gen_Equal.calls kj2 _ _ l1_0 a1_1 a1_2 a1_3 a1_4 a1_5 _ _ l0_0 a0_1 a0_2 a0_3 a0_4 a0_5 t404 _ ?side1 ?side2 ?side3 ?side4 A47.out).mono ?_); (case side1 => repeat (first | exact (Kd.C_below HR1_0.out HB.out) | (with_reducible refine Kd.C_alloc ?_ _) | (with_reducible refine Kd.C_drewN ?_ _) | (with_reducible refine Kd.C_drew ?_))); (case side2 => exact HC1_0.out); (case side3 => repeat (first | exact (Kd.C_below HR0_0.out HB.out) | (with_reducible refine Kd.C_alloc ?_ _) | (with_reducible refine Kd.C_drewN ?_ _) | (with_reducible refine Kd.C_drew ?_))); (case side4 => exact HC0_0.out); rintro e w64 ⟨rfl, hb⟩; have n0_ := Aside0.mk (blk_below (g := gb396) (o := .cells #[.slice A0_0 l0_0.length c0_0, .int .i64 a0_1, .int .i64 a0_2, .int .i32 a0_3, .int .i64 a0_4, .int .u64 a0_5] 27 (0, 0)) (by (with_reducible repeat (first | refine blk_drewN ?_ _ | refine blk_drew ?_ | refine blk_alloc ?_ _)); exact BK396.out) hb); have n1_ := Aside0.mk (blk_below (g := gb397) (o := .cells #[.slice A1_0 l1_0.length c1_0, .int .i64 a1_1, .int .i64 a1_2, .int .i32 a1_3, .int .i64 a1_4, .int .u64 a1_5] 27 (0, 0)) (by (with_reducible repeat (first | refine blk_drewN ?_ _ | refine blk_drew ?_ | refine blk_alloc ?_ _)); exact BK397.out) hb); have n2_ := Aside0.mk (below_step (by repeat (first | (with_reducible first | exact HB.out | apply below_alloc | apply pw_below_drewN | apply below_drew1 | refine below_set ?_ GE396.out | refine below_set ?_ GE397.out) | exact HB.out)) hb); clear BK396; clear BK397; clear HB; have BK396 := n0_; have BK397 := n1_; have HB := n2_; clear n0_ n1_ n2_; (try clear hb); (try clear hb2); (try clear hk); (try clear hi)))
                      go_ret
                      exact ⟨by first | rfl | (simp [errW_none, errW_some] <;> rfl) | (simp [*, errW_none, errW_some] <;> rfl), by repeat (first | (with_reducible first | exact HB.out | apply below_alloc | apply pw_below_drewN | apply below_drew1 | refine below_set ?_ GE396.out | refine below_set ?_ GE397.out) | exact HB.out)⟩
                  · rw [if_neg c46] at H
                    have c46b0 : (t403 == false) = false := by simpa using c46
                    (try (have c46b1 : decide (t403 = false) = false := by simpa using c46))
                    (try (have c46b2 : (t403 == false) = false := by simpa using c46))
                    (try (have c46b3 : ¬ (t403 = false) := by simpa using c46))
                    clear c46
                    obtain rfl := Option.some.inj H
                    have hnb65 := NB396_397.out
                    have hnc65 := NB397_396.out
                    have hcz66_0 : wc.cell? ⟨gb396, 0, none⟩ = some (.slice A0_0 l0_0.length c0_0) := (blk_cell BK396.out 0).trans rfl
                    have hcz66_1 : wc.cell? ⟨gb396, 1, none⟩ = some (.int .i64 a0_1) := (blk_cell BK396.out 1).trans rfl
                    have hcz66_2 : wc.cell? ⟨gb396, 2, none⟩ = some (.int .i64 a0_2) := (blk_cell BK396.out 2).trans rfl
                    have hcz66_3 : wc.cell? ⟨gb396, 3, none⟩ = some (.int .i32 a0_3) := (blk_cell BK396.out 3).trans rfl
                    have hcz66_4 : wc.cell? ⟨gb396, 4, none⟩ = some (.int .i64 a0_4) := (blk_cell BK396.out 4).trans rfl
                    have hcz66_5 : wc.cell? ⟨gb396, 5, none⟩ = some (.int .u64 a0_5) := (blk_cell BK396.out 5).trans rfl
                    have hfz66_0 := blk_frozen BK396.out 0
                    have hfz66_1 := blk_frozen BK396.out 1
                    have hfz66_2 := blk_frozen BK396.out 2
                    have hfz66_3 := blk_frozen BK396.out 3
                    have hfz66_4 := blk_frozen BK396.out 4
                    have hfz66_5 := blk_frozen BK396.out 5
                    have hcz67_0 : wc.cell? ⟨gb397, 0, none⟩ = some (.slice A1_0 l1_0.length c1_0) := (blk_cell BK397.out 0).trans rfl
                    have hcz67_1 : wc.cell? ⟨gb397, 1, none⟩ = some (.int .i64 a1_1) := (blk_cell BK397.out 1).trans rfl
                    have hcz67_2 : wc.cell? ⟨gb397, 2, none⟩ = some (.int .i64 a1_2) := (blk_cell BK397.out 2).trans rfl
                    have hcz67_3 : wc.cell? ⟨gb397, 3, none⟩ = some (.int .i32 a1_3) := (blk_cell BK397.out 3).trans rfl
                    have hcz67_4 : wc.cell? ⟨gb397, 4, none⟩ = some (.int .i64 a1_4) := (blk_cell BK397.out 4).trans rfl
                    have hcz67_5 : wc.cell? ⟨gb397, 5, none⟩ = some (.int .u64 a1_5) := (blk_cell BK397.out 5).trans rfl
                    have hfz67_0 := blk_frozen BK397.out 0
                    have hfz67_1 := blk_frozen BK397.out 1
                    have hfz67_2 := blk_frozen BK397.out 2
                    have hfz67_3 := blk_frozen BK397.out 3
                    have hfz67_4 := blk_frozen BK397.out 4
                    have hfz67_5 := blk_frozen BK397.out 5
                    go_wp2_with (first | ((with_reducible refine gate_callee (f := 5) rfl ?_); refine goesL_ (some 21) rfl rfl Tryz.func5 (by kernel_rfl) rfl #[.slice A0_0 l0_0.length c0_0, .slice A1_0 l1_0.length c1_0] rfl (by (try simp only [List.map_toArray, List.map_cons, List.map_nil]); first | done | rfl | (simp only [List.length_drop, List.length_take]; rfl)) ?_; (with_reducible refine (credenzalaw21_same.calls kj2 _ _ l0_0 _ _ l1_0 true _ ?side1 ?side2 ?side3 ?side4 A15.out).mono ?_); (case side1 => repeat (first | exact (Kd.C_below HR0_0.out HB.out) | (with_reducible refine Kd.C_alloc ?_ _) | (with_reducible refine Kd.C_drewN ?_ _) | (with_reducible refine Kd.C_drew ?_))); (case side2 => exact HC0_0.out); (case side3 => repeat (first | exact (Kd.C_below HR1_0.out HB.out) | (with_reducible refine Kd.C_alloc ?_ _) | (with_reducible refine Kd.C_drewN ?_ _) | (with_reducible refine Kd.C_drew ?_))); (case side4 => exact HC1_0.out); rintro e w' ⟨rfl, ⟨nd, rfl⟩⟩; refine ⟨_, rfl, ?_⟩) | ((with_reducible refine gate_callee (f := 6) rfl ?_); refine goesL_ (some 65) rfl rfl Tryz.func6 (by kernel_rfl) rfl #[.agg #[.slice A0_0 l0_0.length c0_0, .int .i64 a0_1, .int .i64 a0_2, .int .i32 a0_3, .int .i64 a0_4, .int .u64 a0_5], .agg #[.slice A1_0 l1_0.length c1_0, .int .i64 a1_1, .int .i64 a1_2, .int .i32 a1_3, .int .i64 a1_4, .int .u64 a1_5]] rfl (by (try simp only [List.map_toArray, List.map_cons, List.map_nil]); first | done | rfl | (simp only [List.length_drop, List.length_take]; rfl)) ?_; (with_reducible refine (gen_Equal.calls kj2 _ _ l0_0 a0_1 a0_2 a0_3 a0_4 a0_5 _ _ l1_0 a1_1 a1_2 a1_3 a1_4 a1_5 t403 _ ?side1 ?side2 ?side3 ?side4 A45.out).mono ?_); (case side1 => repeat (first | exact (Kd.C_below HR0_0.out (by repeat (first | (with_reducible first | exact HB.out | apply below_alloc | apply pw_below_drewN | apply below_drew1 | refine below_set ?_ GE396.out | refine below_set ?_ GE397.out) | exact HB.out))) | (with_reducible refine Kd.C_alloc ?_ _) | (with_reducible refine Kd.C_drewN ?_ _) | (with_reducible refine Kd.C_drew ?_))); (case side2 => exact HC0_0.out); (case side3 => repeat (first | exact (Kd.C_below HR1_0.out (by repeat (first | (with_reducible first | exact HB.out | apply below_alloc | apply pw_below_drewN | apply below_drew1 | refine below_set ?_ GE396.out | refine below_set ?_ GE397.out) | exact HB.out))) | (with_reducible refine Kd.C_alloc ?_ _) | (with_reducible refine Kd.C_drewN ?_ _) | (with_reducible refine Kd.C_drew ?_))); (case side4 => exact HC1_0.out); rintro e w68 ⟨rfl, hb⟩; refine ⟨_, rfl, ?_⟩; have n0_ := Aside0.mk (blk_below (g := gb396) (o := .cells #[.slice A0_0 l0_0.length c0_0, .int .i64 a0_1, .int .i64 a0_2, .int .i32 a0_3, .int .i64 a0_4, .int .u64 a0_5] 27 (0, 0)) (by (with_reducible repeat (first | refine blk_drewN ?_ _ | refine blk_drew ?_ | refine blk_alloc ?_ _)); exact BK396.out) hb); have n1_ := Aside0.mk (blk_below (g := gb397) (o := .cells #[.slice A1_0 l1_0.length c1_0, .int .i64 a1_1, .int .i64 a1_2, .int .i32 a1_3, .int .i64 a1_4, .int .u64 a1_5] 27 (0, 0)) (by (with_reducible repeat (first | refine blk_drewN ?_ _ | refine blk_drew ?_ | refine blk_alloc ?_ _)); exact BK397.out) hb); have n2_ := Aside0.mk (below_step (by repeat (first | (with_reducible first | exact HB.out | apply below_alloc | apply pw_below_drewN | apply below_drew1 | refine below_set ?_ GE396.out | refine below_set ?_ GE397.out) | exact HB.out)) hb); clear BK396; clear BK397; clear HB; have BK396 := n0_; have BK397 := n1_; have HB := n2_; clear n0_ n1_ n2_; (try clear hb); (try clear hb2); (try clear hk); (try clear hi)))
                    go_ret
                    exact ⟨by first | rfl | (simp [errW_none, errW_some] <;> rfl) | (simp [*, errW_none, errW_some] <;> rfl), by repeat (first | (with_reducible first | exact HB.out | apply below_alloc | apply pw_below_drewN | apply below_drew1 | refine below_set ?_ GE396.out | refine below_set ?_ GE397.out) | exact HB.out)⟩
              · rw [if_neg c19] at H
                have c19b0 : (a0_3 == a1_3) = false := beq_eq_false_iff_ne.mpr c19
                have c19b1 : (a0_3 != a1_3) = true := bne_iff_ne.mpr c19
                replace H := Option.bind_eq_some_iff.mp H
                obtain ⟨t406, A690, H⟩ := H
                replace H : (if (t406 == false) = true then ((gen_Equal.f kj2 l1_0 a1_1 a1_2 a1_3 a1_4 a1_5 l0_0 a0_1 a0_2 a0_3 a0_4 a0_5).bind fun t407 => (if (t407 == false) = true then ((credenzalaw21_awake.f).bind fun t408 => (some t408)) else (some false))) else (some false)) = some r := H
                have A69 := Aside0.mk A690
                clear A690
                by_cases c70 : (t406 == false) = true
                · rw [if_pos c70] at H
                  have c70b0 : (t406 == false) = true := c70
                  (try (have c70b1 : decide (t406 = false) = true := by simpa using c70))
                  (try (have c70b2 : (t406 == false) = true := by simpa using c70))
                  clear c70
                  replace H := Option.bind_eq_some_iff.mp H
                  obtain ⟨t407, A710, H⟩ := H
                  replace H : (if (t407 == false) = true then ((credenzalaw21_awake.f).bind fun t408 => (some t408)) else (some false)) = some r := H
                  have A71 := Aside0.mk A710
                  clear A710
                  by_cases c72 : (t407 == false) = true
                  · rw [if_pos c72] at H
                    have c72b0 : (t407 == false) = true := c72
                    (try (have c72b1 : decide (t407 = false) = true := by simpa using c72))
                    (try (have c72b2 : (t407 == false) = true := by simpa using c72))
                    clear c72
                    replace H := Option.bind_eq_some_iff.mp H
                    obtain ⟨t408, A730, H⟩ := H
                    replace H : (some t408) = some r := H
                    have A73 := Aside0.mk A730
                    clear A730
                    obtain rfl := Option.some.inj H
                    have hnb74 := NB396_397.out
                    have hnc74 := NB397_396.out
                    have hcz75_0 : wc.cell? ⟨gb396, 0, none⟩ = some (.slice A0_0 l0_0.length c0_0) := (blk_cell BK396.out 0).trans rfl
                    have hcz75_1 : wc.cell? ⟨gb396, 1, none⟩ = some (.int .i64 a0_1) := (blk_cell BK396.out 1).trans rfl
                    have hcz75_2 : wc.cell? ⟨gb396, 2, none⟩ = some (.int .i64 a0_2) := (blk_cell BK396.out 2).trans rfl
                    have hcz75_3 : wc.cell? ⟨gb396, 3, none⟩ = some (.int .i32 a0_3) := (blk_cell BK396.out 3).trans rfl
                    have hcz75_4 : wc.cell? ⟨gb396, 4, none⟩ = some (.int .i64 a0_4) := (blk_cell BK396.out 4).trans rfl
                    have hcz75_5 : wc.cell? ⟨gb396, 5, none⟩ = some (.int .u64 a0_5) := (blk_cell BK396.out 5).trans rfl
                    have hfz75_0 := blk_frozen BK396.out 0
                    have hfz75_1 := blk_frozen BK396.out 1
                    have hfz75_2 := blk_frozen BK396.out 2
                    have hfz75_3 := blk_frozen BK396.out 3
                    have hfz75_4 := blk_frozen BK396.out 4
                    have hfz75_5 := blk_frozen BK396.out 5
                    have hcz76_0 : wc.cell? ⟨gb397, 0, none⟩ = some (.slice A1_0 l1_0.length c1_0) := (blk_cell BK397.out 0).trans rfl
                    have hcz76_1 : wc.cell? ⟨gb397, 1, none⟩ = some (.int .i64 a1_1) := (blk_cell BK397.out 1).trans rfl
                    have hcz76_2 : wc.cell? ⟨gb397, 2, none⟩ = some (.int .i64 a1_2) := (blk_cell BK397.out 2).trans rfl
                    have hcz76_3 : wc.cell? ⟨gb397, 3, none⟩ = some (.int .i32 a1_3) := (blk_cell BK397.out 3).trans rfl
                    have hcz76_4 : wc.cell? ⟨gb397, 4, none⟩ = some (.int .i64 a1_4) := (blk_cell BK397.out 4).trans rfl
                    have hcz76_5 : wc.cell? ⟨gb397, 5, none⟩ = some (.int .u64 a1_5) := (blk_cell BK397.out 5).trans rfl
                    have hfz76_0 := blk_frozen BK397.out 0
                    have hfz76_1 := blk_frozen BK397.out 1
                    have hfz76_2 := blk_frozen BK397.out 2
                    have hfz76_3 := blk_frozen BK397.out 3
                    have hfz76_4 := blk_frozen BK397.out 4
                    have hfz76_5 := blk_frozen BK397.out 5
                    go_wp2_with (first | ((with_reducible refine gate_callee (f := 5) rfl ?_); refine goesL_ (some 21) rfl rfl Tryz.func5 (by kernel_rfl) rfl #[.slice A0_0 l0_0.length c0_0, .slice A1_0 l1_0.length c1_0] rfl (by (try simp only [List.map_toArray, List.map_cons, List.map_nil]); first | done | rfl | (simp only [List.length_drop, List.length_take]; rfl)) ?_; (with_reducible refine (credenzalaw21_same.calls kj2 _ _ l0_0 _ _ l1_0 true _ ?side1 ?side2 ?side3 ?side4 A15.out).mono ?_); (case side1 => repeat (first | exact (Kd.C_below HR0_0.out HB.out) | (with_reducible refine Kd.C_alloc ?_ _) | (with_reducible refine Kd.C_drewN ?_ _) | (with_reducible refine Kd.C_drew ?_))); (case side2 => exact HC0_0.out); (case side3 => repeat (first | exact (Kd.C_below HR1_0.out HB.out) | (with_reducible refine Kd.C_alloc ?_ _) | (with_reducible refine Kd.C_drewN ?_ _) | (with_reducible refine Kd.C_drew ?_))); (case side4 => exact HC1_0.out); rintro e w' ⟨rfl, ⟨nd, rfl⟩⟩; refine ⟨_, rfl, ?_⟩) | ((with_reducible refine gate_callee (f := 6) rfl ?_); refine goesL_ (some 65) rfl rfl Tryz.func6 (by kernel_rfl) rfl #[.agg #[.slice A0_0 l0_0.length c0_0, .int .i64 a0_1, .int .i64 a0_2, .int .i32 a0_3, .int .i64 a0_4, .int .u64 a0_5], .agg #[.slice A1_0 l1_0.length c1_0, .int .i64 a1_1, .int .i64 a1_2, .int .i32 a1_3, .int .i64 a1_4, .int .u64 a1_5]] rfl (by (try simp only [List.map_toArray, List.map_cons, List.map_nil]); first | done | rfl | (simp only [List.length_drop, List.length_take]; rfl)) ?_; (with_reducible refine (gen_Equal.calls kj2 _ _ l0_0 a0_1 a0_2 a0_3 a0_4 a0_5 _ _ l1_0 a1_1 a1_2 a1_3 a1_4 a1_5 t406 _ ?side1 ?side2 ?side3 ?side4 A69.out).mono ?_); (case side1 => repeat (first | exact (Kd.C_below HR0_0.out (by repeat (first | (with_reducible first | exact HB.out | apply below_alloc | apply pw_below_drewN | apply below_drew1 | refine below_set ?_ GE396.out | refine below_set ?_ GE397.out) | exact HB.out))) | (with_reducible refine Kd.C_alloc ?_ _) | (with_reducible refine Kd.C_drewN ?_ _) | (with_reducible refine Kd.C_drew ?_))); (case side2 => exact HC0_0.out); (case side3 => repeat (first | exact (Kd.C_below HR1_0.out (by repeat (first | (with_reducible first | exact HB.out | apply below_alloc | apply pw_below_drewN | apply below_drew1 | refine below_set ?_ GE396.out | refine below_set ?_ GE397.out) | exact HB.out))) | (with_reducible refine Kd.C_alloc ?_ _) | (with_reducible refine Kd.C_drewN ?_ _) | (with_reducible refine Kd.C_drew ?_))); (case side4 => exact HC1_0.out); rintro e w77 ⟨rfl, hb⟩; refine ⟨_, rfl, ?_⟩; have n0_ := Aside0.mk (blk_below (g := gb396) (o := .cells #[.slice A0_0 l0_0.length c0_0, .int .i64 a0_1, .int .i64 a0_2, .int .i32 a0_3, .int .i64 a0_4, .int .u64 a0_5] 27 (0, 0)) (by (with_reducible repeat (first | refine blk_drewN ?_ _ | refine blk_drew ?_ | refine blk_alloc ?_ _)); exact BK396.out) hb); have n1_ := Aside0.mk (blk_below (g := gb397) (o := .cells #[.slice A1_0 l1_0.length c1_0, .int .i64 a1_1, .int .i64 a1_2, .int .i32 a1_3, .int .i64 a1_4, .int .u64 a1_5] 27 (0, 0)) (by (with_reducible repeat (first | refine blk_drewN ?_ _ | refine blk_drew ?_ | refine blk_alloc ?_ _)); exact BK397.out) hb); have n2_ := Aside0.mk (below_step (by repeat (first | (with_reducible first | exact HB.out | apply below_alloc | apply pw_below_drewN | apply below_drew1 | refine below_set ?_ GE396.out | refine below_set ?_ GE397.out) | exact HB.out)) hb); clear BK396; clear BK397; clear HB; have BK396 := n0_; have BK397 := n1_; have HB := n2_; clear n0_ n1_ n2_; (try clear hb); (try clear hb2); (try clear hk); (try clear hi); have hcz78_0 : w77.cell? ⟨gb397, 0, none⟩ = some (.slice A1_0 l1_0.length c1_0) := (blk_cell BK397.out 0).trans rfl; have hcz78_1 : w77.cell? ⟨gb397, 1, none⟩ = some (.int .i64 a1_1) := (blk_cell BK397.out 1).trans rfl; have hcz78_2 : w77.cell? ⟨gb397, 2, none⟩ = some (.int .i64 a1_2) := (blk_cell BK397.out 2).trans rfl; have hcz78_3 : w77.cell? ⟨gb397, 3, none⟩ = some (.int .i32 a1_3) := (blk_cell BK397.out 3).trans rfl; have hcz78_4 : w77.cell? ⟨gb397, 4, none⟩ = some (.int .i64 a1_4) := (blk_cell BK397.out 4).trans rfl; have hcz78_5 : w77.cell? ⟨gb397, 5, none⟩ = some (.int .u64 a1_5) := (blk_cell BK397.out 5).trans rfl; have hfz78_0 := blk_frozen BK397.out 0; have hfz78_1 := blk_frozen BK397.out 1; have hfz78_2 := blk_frozen BK397.out 2; have hfz78_3 := blk_frozen BK397.out 3; have hfz78_4 := blk_frozen BK397.out 4; have hfz78_5 := blk_frozen BK397.out 5; have hcz79_0 : w77.cell? ⟨gb396, 0, none⟩ = some (.slice A0_0 l0_0.length c0_0) := (blk_cell BK396.out 0).trans rfl; have hcz79_1 : w77.cell? ⟨gb396, 1, none⟩ = some (.int .i64 a0_1) := (blk_cell BK396.out 1).trans rfl; have hcz79_2 : w77.cell? ⟨gb396, 2, none⟩ = some (.int .i64 a0_2) := (blk_cell BK396.out 2).trans rfl; have hcz79_3 : w77.cell? ⟨gb396, 3, none⟩ = some (.int .i32 a0_3) := (blk_cell BK396.out 3).trans rfl; have hcz79_4 : w77.cell? ⟨gb396, 4, none⟩ = some (.int .i64 a0_4) := (blk_cell BK396.out 4).trans rfl; have hcz79_5 : w77.cell? ⟨gb396, 5, none⟩ = some (.int .u64 a0_5) := (blk_cell BK396.out 5).trans rfl; have hfz79_0 := blk_frozen BK396.out 0; have hfz79_1 := blk_frozen BK396.out 1; have hfz79_2 := blk_frozen BK396.out 2; have hfz79_3 := blk_frozen BK396.out 3; have hfz79_4 := blk_frozen BK396.out 4; have hfz79_5 := blk_frozen BK396.out 5) | (go_at_call 6; (with_reducible refine (gen_Equal.calls kj2 _ _ l1_0 a1_1 a1_2 a1_3 a1_4 a1_5 _ _ l0_0 a0_1 a0_2 a0_3 a0_4 a0_5 t407 _ ?side1 ?side2 ?side3 ?side4 A71.out).mono ?_); (case side1 => repeat (first | exact (Kd.C_below HR1_0.out HB.out) | (with_reducible refine Kd.C_alloc ?_ _) | (with_reducible refine Kd.C_drewN ?_ _) | (with_reducible refine Kd.C_drew ?_))); (case side2 => exact HC1_0.out); (case side3 => repeat (first | exact (Kd.C_below HR0_0.out HB.out) | (with_reducible refine Kd.C_alloc ?_ _) | (with_reducible refine Kd.C_drewN ?_ _) | (with_reducible refine Kd.C_drew ?_))); (case side4 => exact HC0_0.out); rintro e w80 ⟨rfl, hb⟩; have n0_ := Aside0.mk (blk_below (g := gb396) (o := .cells #[.slice A0_0 l0_0.length c0_0, .int .i64 a0_1, .int .i64 a0_2, .int .i32 a0_3, .int .i64 a0_4, .int .u64 a0_5] 27 (0, 0)) (by (with_reducible repeat (first | refine blk_drewN ?_ _ | refine blk_drew ?_ | refine blk_alloc ?_ _)); exact BK396.out) hb); have n1_ := Aside0.mk (blk_below (g := gb397) (o := .cells #[.slice A1_0 l1_0.length c1_0, .int .i64 a1_1, .int .i64 a1_2, .int .i32 a1_3, .int .i64 a1_4, .int .u64 a1_5] 27 (0, 0)) (by (with_reducible repeat (first | refine blk_drewN ?_ _ | refine blk_drew ?_ | refine blk_alloc ?_ _)); exact BK397.out) hb); have n2_ := Aside0.mk (below_step (by repeat (first | (with_reducible first | exact HB.out | apply below_alloc | apply pw_below_drewN | apply below_drew1 | refine below_set ?_ GE396.out | refine below_set ?_ GE397.out) | exact HB.out)) hb); clear BK396; clear BK397; clear HB; have BK396 := n0_; have BK397 := n1_; have HB := n2_; clear n0_ n1_ n2_; (try clear hb); (try clear hb2); (try clear hk); (try clear hi)) | (go_at_call 4; (with_reducible refine (credenzalaw21_awake.calls  t408 _ A73.out).mono ?_); rintro e w81 ⟨rfl, hb⟩; have n0_ := Aside0.mk (blk_below (g := gb396) (o := .cells #[.slice A0_0 l0_0.length c0_0, .int .i64 a0_1, .int .i64 a0_2, .int .i32 a0_3, .int .i64 a0_4, .int .u64 a0_5] 27 (0, 0)) (by (with_reducible repeat (first | refine blk_drewN ?_ _ | refine blk_drew ?_ | refine blk_alloc ?_ _)); exact BK396.out) hb); have n1_ := Aside0.mk (blk_below (g := gb397) (o := .cells #[.slice A1_0 l1_0.length c1_0, .int .i64 a1_1, .int .i64 a1_2, .int .i32 a1_3, .int .i64 a1_4, .int .u64 a1_5] 27 (0, 0)) (by (with_reducible repeat (first | refine blk_drewN ?_ _ | refine blk_drew ?_ | refine blk_alloc ?_ _)); exact BK397.out) hb); have n2_ := Aside0.mk (below_step (by repeat (first | (with_reducible first | exact HB.out | apply below_alloc | apply pw_below_drewN | apply below_drew1 | refine below_set ?_ GE396.out | refine below_set ?_ GE397.out) | exact HB.out)) hb); clear BK396; clear BK397; clear HB; have BK396 := n0_; have BK397 := n1_; have HB := n2_; clear n0_ n1_ n2_; (try clear hb); (try clear hb2); (try clear hk); (try clear hi)))
                    go_ret
                    exact ⟨by first | rfl | (simp [errW_none, errW_some] <;> rfl) | (simp [*, errW_none, errW_some] <;> rfl), by repeat (first | (with_reducible first | exact HB.out | apply below_alloc | apply pw_below_drewN | apply below_drew1 | refine below_set ?_ GE396.out | refine below_set ?_ GE397.out) | exact HB.out)⟩
                  · rw [if_neg c72] at H
                    have c72b0 : (t407 == false) = false := by simpa using c72
                    (try (have c72b1 : decide (t407 = false) = false := by simpa using c72))
                    (try (have c72b2 : (t407 == false) = false := by simpa using c72))
                    (try (have c72b3 : ¬ (t407 = false) := by simpa using c72))
                    clear c72
                    obtain rfl := Option.some.inj H
                    have hnb82 := NB396_397.out
                    have hnc82 := NB397_396.out
                    have hcz83_0 : wc.cell? ⟨gb396, 0, none⟩ = some (.slice A0_0 l0_0.length c0_0) := (blk_cell BK396.out 0).trans rfl
                    have hcz83_1 : wc.cell? ⟨gb396, 1, none⟩ = some (.int .i64 a0_1) := (blk_cell BK396.out 1).trans rfl
                    have hcz83_2 : wc.cell? ⟨gb396, 2, none⟩ = some (.int .i64 a0_2) := (blk_cell BK396.out 2).trans rfl
                    have hcz83_3 : wc.cell? ⟨gb396, 3, none⟩ = some (.int .i32 a0_3) := (blk_cell BK396.out 3).trans rfl
                    have hcz83_4 : wc.cell? ⟨gb396, 4, none⟩ = some (.int .i64 a0_4) := (blk_cell BK396.out 4).trans rfl
                    have hcz83_5 : wc.cell? ⟨gb396, 5, none⟩ = some (.int .u64 a0_5) := (blk_cell BK396.out 5).trans rfl
                    have hfz83_0 := blk_frozen BK396.out 0
                    have hfz83_1 := blk_frozen BK396.out 1
                    have hfz83_2 := blk_frozen BK396.out 2
                    have hfz83_3 := blk_frozen BK396.out 3
                    have hfz83_4 := blk_frozen BK396.out 4
                    have hfz83_5 := blk_frozen BK396.out 5
                    have hcz84_0 : wc.cell? ⟨gb397, 0, none⟩ = some (.slice A1_0 l1_0.length c1_0) := (blk_cell BK397.out 0).trans rfl
                    have hcz84_1 : wc.cell? ⟨gb397, 1, none⟩ = some (.int .i64 a1_1) := (blk_cell BK397.out 1).trans rfl
                    have hcz84_2 : wc.cell? ⟨gb397, 2, none⟩ = some (.int .i64 a1_2) := (blk_cell BK397.out 2).trans rfl
                    have hcz84_3 : wc.cell? ⟨gb397, 3, none⟩ = some (.int .i32 a1_3) := (blk_cell BK397.out 3).trans rfl
                    have hcz84_4 : wc.cell? ⟨gb397, 4, none⟩ = some (.int .i64 a1_4) := (blk_cell BK397.out 4).trans rfl
                    have hcz84_5 : wc.cell? ⟨gb397, 5, none⟩ = some (.int .u64 a1_5) := (blk_cell BK397.out 5).trans rfl
                    have hfz84_0 := blk_frozen BK397.out 0
                    have hfz84_1 := blk_frozen BK397.out 1
                    have hfz84_2 := blk_frozen BK397.out 2
                    have hfz84_3 := blk_frozen BK397.out 3
                    have hfz84_4 := blk_frozen BK397.out 4
                    have hfz84_5 := blk_frozen BK397.out 5
                    go_wp2_with (first | ((with_reducible refine gate_callee (f := 5) rfl ?_); refine goesL_ (some 21) rfl rfl Tryz.func5 (by kernel_rfl) rfl #[.slice A0_0 l0_0.length c0_0, .slice A1_0 l1_0.length c1_0] rfl (by (try simp only [List.map_toArray, List.map_cons, List.map_nil]); first | done | rfl | (simp only [List.length_drop, List.length_take]; rfl)) ?_; (with_reducible refine (credenzalaw21_same.calls kj2 _ _ l0_0 _ _ l1_0 true _ ?side1 ?side2 ?side3 ?side4 A15.out).mono ?_); (case side1 => repeat (first | exact (Kd.C_below HR0_0.out HB.out) | (with_reducible refine Kd.C_alloc ?_ _) | (with_reducible refine Kd.C_drewN ?_ _) | (with_reducible refine Kd.C_drew ?_))); (case side2 => exact HC0_0.out); (case side3 => repeat (first | exact (Kd.C_below HR1_0.out HB.out) | (with_reducible refine Kd.C_alloc ?_ _) | (with_reducible refine Kd.C_drewN ?_ _) | (with_reducible refine Kd.C_drew ?_))); (case side4 => exact HC1_0.out); rintro e w' ⟨rfl, ⟨nd, rfl⟩⟩; refine ⟨_, rfl, ?_⟩) | ((with_reducible refine gate_callee (f := 6) rfl ?_); refine goesL_ (some 65) rfl rfl Tryz.func6 (by kernel_rfl) rfl #[.agg #[.slice A0_0 l0_0.length c0_0, .int .i64 a0_1, .int .i64 a0_2, .int .i32 a0_3, .int .i64 a0_4, .int .u64 a0_5], .agg #[.slice A1_0 l1_0.length c1_0, .int .i64 a1_1, .int .i64 a1_2, .int .i32 a1_3, .int .i64 a1_4, .int .u64 a1_5]] rfl (by (try simp only [List.map_toArray, List.map_cons, List.map_nil]); first | done | rfl | (simp only [List.length_drop, List.length_take]; rfl)) ?_; (with_reducible refine (gen_Equal.calls kj2 _ _ l0_0 a0_1 a0_2 a0_3 a0_4 a0_5 _ _ l1_0 a1_1 a1_2 a1_3 a1_4 a1_5 t406 _ ?side1 ?side2 ?side3 ?side4 A69.out).mono ?_); (case side1 => repeat (first | exact (Kd.C_below HR0_0.out (by repeat (first | (with_reducible first | exact HB.out | apply below_alloc | apply pw_below_drewN | apply below_drew1 | refine below_set ?_ GE396.out | refine below_set ?_ GE397.out) | exact HB.out))) | (with_reducible refine Kd.C_alloc ?_ _) | (with_reducible refine Kd.C_drewN ?_ _) | (with_reducible refine Kd.C_drew ?_))); (case side2 => exact HC0_0.out); (case side3 => repeat (first | exact (Kd.C_below HR1_0.out (by repeat (first | (with_reducible first | exact HB.out | apply below_alloc | apply pw_below_drewN | apply below_drew1 | refine below_set ?_ GE396.out | refine below_set ?_ GE397.out) | exact HB.out))) | (with_reducible refine Kd.C_alloc ?_ _) | (with_reducible refine Kd.C_drewN ?_ _) | (with_reducible refine Kd.C_drew ?_))); (case side4 => exact HC1_0.out); rintro e w85 ⟨rfl, hb⟩; refine ⟨_, rfl, ?_⟩; have n0_ := Aside0.mk (blk_below (g := gb396) (o := .cells #[.slice A0_0 l0_0.length c0_0, .int .i64 a0_1, .int .i64 a0_2, .int .i32 a0_3, .int .i64 a0_4, .int .u64 a0_5] 27 (0, 0)) (by (with_reducible repeat (first | refine blk_drewN ?_ _ | refine blk_drew ?_ | refine blk_alloc ?_ _)); exact BK396.out) hb); have n1_ := Aside0.mk (blk_below (g := gb397) (o := .cells #[.slice A1_0 l1_0.length c1_0, .int .i64 a1_1, .int .i64 a1_2, .int .i32 a1_3, .int .i64 a1_4, .int .u64 a1_5] 27 (0, 0)) (by (with_reducible repeat (first | refine blk_drewN ?_ _ | refine blk_drew ?_ | refine blk_alloc ?_ _)); exact BK397.out) hb); have n2_ := Aside0.mk (below_step (by repeat (first | (with_reducible first | exact HB.out | apply below_alloc | apply pw_below_drewN | apply below_drew1 | refine below_set ?_ GE396.out | refine below_set ?_ GE397.out) | exact HB.out)) hb); clear BK396; clear BK397; clear HB; have BK396 := n0_; have BK397 := n1_; have HB := n2_; clear n0_ n1_ n2_; (try clear hb); (try clear hb2); (try clear hk); (try clear hi); have hcz86_0 : w85.cell? ⟨gb397, 0, none⟩ = some (.slice A1_0 l1_0.length c1_0) := (blk_cell BK397.out 0).trans rfl; have hcz86_1 : w85.cell? ⟨gb397, 1, none⟩ = some (.int .i64 a1_1) := (blk_cell BK397.out 1).trans rfl; have hcz86_2 : w85.cell? ⟨gb397, 2, none⟩ = some (.int .i64 a1_2) := (blk_cell BK397.out 2).trans rfl; have hcz86_3 : w85.cell? ⟨gb397, 3, none⟩ = some (.int .i32 a1_3) := (blk_cell BK397.out 3).trans rfl; have hcz86_4 : w85.cell? ⟨gb397, 4, none⟩ = some (.int .i64 a1_4) := (blk_cell BK397.out 4).trans rfl; have hcz86_5 : w85.cell? ⟨gb397, 5, none⟩ = some (.int .u64 a1_5) := (blk_cell BK397.out 5).trans rfl; have hfz86_0 := blk_frozen BK397.out 0; have hfz86_1 := blk_frozen BK397.out 1; have hfz86_2 := blk_frozen BK397.out 2; have hfz86_3 := blk_frozen BK397.out 3; have hfz86_4 := blk_frozen BK397.out 4; have hfz86_5 := blk_frozen BK397.out 5; have hcz87_0 : w85.cell? ⟨gb396, 0, none⟩ = some (.slice A0_0 l0_0.length c0_0) := (blk_cell BK396.out 0).trans rfl; have hcz87_1 : w85.cell? ⟨gb396, 1, none⟩ = some (.int .i64 a0_1) := (blk_cell BK396.out 1).trans rfl; have hcz87_2 : w85.cell? ⟨gb396, 2, none⟩ = some (.int .i64 a0_2) := (blk_cell BK396.out 2).trans rfl; have hcz87_3 : w85.cell? ⟨gb396, 3, none⟩ = some (.int .i32 a0_3) := (blk_cell BK396.out 3).trans rfl; have hcz87_4 : w85.cell? ⟨gb396, 4, none⟩ = some (.int .i64 a0_4) := (blk_cell BK396.out 4).trans rfl; have hcz87_5 : w85.cell? ⟨gb396, 5, none⟩ = some (.int .u64 a0_5) := (blk_cell BK396.out 5).trans rfl; have hfz87_0 := blk_frozen BK396.out 0; have hfz87_1 := blk_frozen BK396.out 1; have hfz87_2 := blk_frozen BK396.out 2; have hfz87_3 := blk_frozen BK396.out 3; have hfz87_4 := blk_frozen BK396.out 4; have hfz87_5 := blk_frozen BK396.out 5) | (go_at_call 6; (with_reducible refine (gen_Equal.calls kj2 _ _ l1_0 a1_1 a1_2 a1_3 a1_4 a1_5 _ _ l0_0 a0_1 a0_2 a0_3 a0_4 a0_5 t407 _ ?side1 ?side2 ?side3 ?side4 A71.out).mono ?_); (case side1 => repeat (first | exact (Kd.C_below HR1_0.out HB.out) | (with_reducible refine Kd.C_alloc ?_ _) | (with_reducible refine Kd.C_drewN ?_ _) | (with_reducible refine Kd.C_drew ?_))); (case side2 => exact HC1_0.out); (case side3 => repeat (first | exact (Kd.C_below HR0_0.out HB.out) | (with_reducible refine Kd.C_alloc ?_ _) | (with_reducible refine Kd.C_drewN ?_ _) | (with_reducible refine Kd.C_drew ?_))); (case side4 => exact HC0_0.out); rintro e w88 ⟨rfl, hb⟩; have n0_ := Aside0.mk (blk_below (g := gb396) (o := .cells #[.slice A0_0 l0_0.length c0_0, .int .i64 a0_1, .int .i64 a0_2, .int .i32 a0_3, .int .i64 a0_4, .int .u64 a0_5] 27 (0, 0)) (by (with_reducible repeat (first | refine blk_drewN ?_ _ | refine blk_drew ?_ | refine blk_alloc ?_ _)); exact BK396.out) hb); have n1_ := Aside0.mk (blk_below (g := gb397) (o := .cells #[.slice A1_0 l1_0.length c1_0, .int .i64 a1_1, .int .i64 a1_2, .int .i32 a1_3, .int .i64 a1_4, .int .u64 a1_5] 27 (0, 0)) (by (with_reducible repeat (first | refine blk_drewN ?_ _ | refine blk_drew ?_ | refine blk_alloc ?_ _)); exact BK397.out) hb); have n2_ := Aside0.mk (below_step (by repeat (first | (with_reducible first | exact HB.out | apply below_alloc | apply pw_below_drewN | apply below_drew1 | refine below_set ?_ GE396.out | refine below_set ?_ GE397.out) | exact HB.out)) hb); clear BK396; clear BK397; clear HB; have BK396 := n0_; have BK397 := n1_; have HB := n2_; clear n0_ n1_ n2_; (try clear hb); (try clear hb2); (try clear hk); (try clear hi)))
                    go_ret
                    exact ⟨by first | rfl | (simp [errW_none, errW_some] <;> rfl) | (simp [*, errW_none, errW_some] <;> rfl), by repeat (first | (with_reducible first | exact HB.out | apply below_alloc | apply pw_below_drewN | apply below_drew1 | refine below_set ?_ GE396.out | refine below_set ?_ GE397.out) | exact HB.out)⟩
                · rw [if_neg c70] at H
                  have c70b0 : (t406 == false) = false := by simpa using c70
                  (try (have c70b1 : decide (t406 = false) = false := by simpa using c70))
                  (try (have c70b2 : (t406 == false) = false := by simpa using c70))
                  (try (have c70b3 : ¬ (t406 = false) := by simpa using c70))
                  clear c70
                  obtain rfl := Option.some.inj H
                  have hnb89 := NB396_397.out
                  have hnc89 := NB397_396.out
                  have hcz90_0 : wc.cell? ⟨gb396, 0, none⟩ = some (.slice A0_0 l0_0.length c0_0) := (blk_cell BK396.out 0).trans rfl
                  have hcz90_1 : wc.cell? ⟨gb396, 1, none⟩ = some (.int .i64 a0_1) := (blk_cell BK396.out 1).trans rfl
                  have hcz90_2 : wc.cell? ⟨gb396, 2, none⟩ = some (.int .i64 a0_2) := (blk_cell BK396.out 2).trans rfl
                  have hcz90_3 : wc.cell? ⟨gb396, 3, none⟩ = some (.int .i32 a0_3) := (blk_cell BK396.out 3).trans rfl
                  have hcz90_4 : wc.cell? ⟨gb396, 4, none⟩ = some (.int .i64 a0_4) := (blk_cell BK396.out 4).trans rfl
                  have hcz90_5 : wc.cell? ⟨gb396, 5, none⟩ = some (.int .u64 a0_5) := (blk_cell BK396.out 5).trans rfl
                  have hfz90_0 := blk_frozen BK396.out 0
                  have hfz90_1 := blk_frozen BK396.out 1
                  have hfz90_2 := blk_frozen BK396.out 2
                  have hfz90_3 := blk_frozen BK396.out 3
                  have hfz90_4 := blk_frozen BK396.out 4
                  have hfz90_5 := blk_frozen BK396.out 5
                  have hcz91_0 : wc.cell? ⟨gb397, 0, none⟩ = some (.slice A1_0 l1_0.length c1_0) := (blk_cell BK397.out 0).trans rfl
                  have hcz91_1 : wc.cell? ⟨gb397, 1, none⟩ = some (.int .i64 a1_1) := (blk_cell BK397.out 1).trans rfl
                  have hcz91_2 : wc.cell? ⟨gb397, 2, none⟩ = some (.int .i64 a1_2) := (blk_cell BK397.out 2).trans rfl
                  have hcz91_3 : wc.cell? ⟨gb397, 3, none⟩ = some (.int .i32 a1_3) := (blk_cell BK397.out 3).trans rfl
                  have hcz91_4 : wc.cell? ⟨gb397, 4, none⟩ = some (.int .i64 a1_4) := (blk_cell BK397.out 4).trans rfl
                  have hcz91_5 : wc.cell? ⟨gb397, 5, none⟩ = some (.int .u64 a1_5) := (blk_cell BK397.out 5).trans rfl
                  have hfz91_0 := blk_frozen BK397.out 0
                  have hfz91_1 := blk_frozen BK397.out 1
                  have hfz91_2 := blk_frozen BK397.out 2
                  have hfz91_3 := blk_frozen BK397.out 3
                  have hfz91_4 := blk_frozen BK397.out 4
                  have hfz91_5 := blk_frozen BK397.out 5
                  go_wp2_with (first | ((with_reducible refine gate_callee (f := 5) rfl ?_); refine goesL_ (some 21) rfl rfl Tryz.func5 (by kernel_rfl) rfl #[.slice A0_0 l0_0.length c0_0, .slice A1_0 l1_0.length c1_0] rfl (by (try simp only [List.map_toArray, List.map_cons, List.map_nil]); first | done | rfl | (simp only [List.length_drop, List.length_take]; rfl)) ?_; (with_reducible refine (credenzalaw21_same.calls kj2 _ _ l0_0 _ _ l1_0 true _ ?side1 ?side2 ?side3 ?side4 A15.out).mono ?_); (case side1 => repeat (first | exact (Kd.C_below HR0_0.out HB.out) | (with_reducible refine Kd.C_alloc ?_ _) | (with_reducible refine Kd.C_drewN ?_ _) | (with_reducible refine Kd.C_drew ?_))); (case side2 => exact HC0_0.out); (case side3 => repeat (first | exact (Kd.C_below HR1_0.out HB.out) | (with_reducible refine Kd.C_alloc ?_ _) | (with_reducible refine Kd.C_drewN ?_ _) | (with_reducible refine Kd.C_drew ?_))); (case side4 => exact HC1_0.out); rintro e w' ⟨rfl, ⟨nd, rfl⟩⟩; refine ⟨_, rfl, ?_⟩) | ((with_reducible refine gate_callee (f := 6) rfl ?_); refine goesL_ (some 65) rfl rfl Tryz.func6 (by kernel_rfl) rfl #[.agg #[.slice A0_0 l0_0.length c0_0, .int .i64 a0_1, .int .i64 a0_2, .int .i32 a0_3, .int .i64 a0_4, .int .u64 a0_5], .agg #[.slice A1_0 l1_0.length c1_0, .int .i64 a1_1, .int .i64 a1_2, .int .i32 a1_3, .int .i64 a1_4, .int .u64 a1_5]] rfl (by (try simp only [List.map_toArray, List.map_cons, List.map_nil]); first | done | rfl | (simp only [List.length_drop, List.length_take]; rfl)) ?_; (with_reducible refine (gen_Equal.calls kj2 _ _ l0_0 a0_1 a0_2 a0_3 a0_4 a0_5 _ _ l1_0 a1_1 a1_2 a1_3 a1_4 a1_5 t406 _ ?side1 ?side2 ?side3 ?side4 A69.out).mono ?_); (case side1 => repeat (first | exact (Kd.C_below HR0_0.out (by repeat (first | (with_reducible first | exact HB.out | apply below_alloc | apply pw_below_drewN | apply below_drew1 | refine below_set ?_ GE396.out | refine below_set ?_ GE397.out) | exact HB.out))) | (with_reducible refine Kd.C_alloc ?_ _) | (with_reducible refine Kd.C_drewN ?_ _) | (with_reducible refine Kd.C_drew ?_))); (case side2 => exact HC0_0.out); (case side3 => repeat (first | exact (Kd.C_below HR1_0.out (by repeat (first | (with_reducible first | exact HB.out | apply below_alloc | apply pw_below_drewN | apply below_drew1 | refine below_set ?_ GE396.out | refine below_set ?_ GE397.out) | exact HB.out))) | (with_reducible refine Kd.C_alloc ?_ _) | (with_reducible refine Kd.C_drewN ?_ _) | (with_reducible refine Kd.C_drew ?_))); (case side4 => exact HC1_0.out); rintro e w92 ⟨rfl, hb⟩; refine ⟨_, rfl, ?_⟩; have n0_ := Aside0.mk (blk_below (g := gb396) (o := .cells #[.slice A0_0 l0_0.length c0_0, .int .i64 a0_1, .int .i64 a0_2, .int .i32 a0_3, .int .i64 a0_4, .int .u64 a0_5] 27 (0, 0)) (by (with_reducible repeat (first | refine blk_drewN ?_ _ | refine blk_drew ?_ | refine blk_alloc ?_ _)); exact BK396.out) hb); have n1_ := Aside0.mk (blk_below (g := gb397) (o := .cells #[.slice A1_0 l1_0.length c1_0, .int .i64 a1_1, .int .i64 a1_2, .int .i32 a1_3, .int .i64 a1_4, .int .u64 a1_5] 27 (0, 0)) (by (with_reducible repeat (first | refine blk_drewN ?_ _ | refine blk_drew ?_ | refine blk_alloc ?_ _)); exact BK397.out) hb); have n2_ := Aside0.mk (below_step (by repeat (first | (with_reducible first | exact HB.out | apply below_alloc | apply pw_below_drewN | apply below_drew1 | refine below_set ?_ GE396.out | refine below_set ?_ GE397.out) | exact HB.out)) hb); clear BK396; clear BK397; clear HB; have BK396 := n0_; have BK397 := n1_; have HB := n2_; clear n0_ n1_ n2_; (try clear hb); (try clear hb2); (try clear hk); (try clear hi)))
                  go_ret
                  exact ⟨by first | rfl | (simp [errW_none, errW_some] <;> rfl) | (simp [*, errW_none, errW_some] <;> rfl), by repeat (first | (with_reducible first | exact HB.out | apply below_alloc | apply pw_below_drewN | apply below_drew1 | refine below_set ?_ GE396.out | refine below_set ?_ GE397.out) | exact HB.out)⟩
            · rw [if_neg c18] at H
              have c18b0 : (a0_2 == a1_2) = false := beq_eq_false_iff_ne.mpr c18
              have c18b1 : (a0_2 != a1_2) = true := bne_iff_ne.mpr c18
              replace H := Option.bind_eq_some_iff.mp H
              obtain ⟨t409, A930, H⟩ := H
              replace H : (if (t409 == false) = true then ((gen_Equal.f kj2 l1_0 a1_1 a1_2 a1_3 a1_4 a1_5 l0_0 a0_1 a0_2 a0_3 a0_4 a0_5).bind fun t410 => (if (t410 == false) = true then ((credenzalaw21_awake.f).bind fun t411 => (some t411)) else (some false))) else (some false)) = some r := H
              have A93 := Aside0.mk A930
              clear A930
              by_cases c94 : (t409 == false) = true
              · rw [if_pos c94] at H
                have c94b0 : (t409 == false) = true := c94
                (try (have c94b1 : decide (t409 = false) = true := by simpa using c94))
                (try (have c94b2 : (t409 == false) = true := by simpa using c94))
                clear c94
                replace H := Option.bind_eq_some_iff.mp H
                obtain ⟨t410, A950, H⟩ := H
                replace H : (if (t410 == false) = true then ((credenzalaw21_awake.f).bind fun t411 => (some t411)) else (some false)) = some r := H
                have A95 := Aside0.mk A950
                clear A950
                by_cases c96 : (t410 == false) = true
                · rw [if_pos c96] at H
                  have c96b0 : (t410 == false) = true := c96
                  (try (have c96b1 : decide (t410 = false) = true := by simpa using c96))
                  (try (have c96b2 : (t410 == false) = true := by simpa using c96))
                  clear c96
                  replace H := Option.bind_eq_some_iff.mp H
                  obtain ⟨t411, A970, H⟩ := H
                  replace H : (some t411) = some r := H
                  have A97 := Aside0.mk A970
                  clear A970
                  obtain rfl := Option.some.inj H
                  have hnb98 := NB396_397.out
                  have hnc98 := NB397_396.out
                  have hcz99_0 : wc.cell? ⟨gb396, 0, none⟩ = some (.slice A0_0 l0_0.length c0_0) := (blk_cell BK396.out 0).trans rfl
                  have hcz99_1 : wc.cell? ⟨gb396, 1, none⟩ = some (.int .i64 a0_1) := (blk_cell BK396.out 1).trans rfl
                  have hcz99_2 : wc.cell? ⟨gb396, 2, none⟩ = some (.int .i64 a0_2) := (blk_cell BK396.out 2).trans rfl
                  have hcz99_3 : wc.cell? ⟨gb396, 3, none⟩ = some (.int .i32 a0_3) := (blk_cell BK396.out 3).trans rfl
                  have hcz99_4 : wc.cell? ⟨gb396, 4, none⟩ = some (.int .i64 a0_4) := (blk_cell BK396.out 4).trans rfl
                  have hcz99_5 : wc.cell? ⟨gb396, 5, none⟩ = some (.int .u64 a0_5) := (blk_cell BK396.out 5).trans rfl
                  have hfz99_0 := blk_frozen BK396.out 0
                  have hfz99_1 := blk_frozen BK396.out 1
                  have hfz99_2 := blk_frozen BK396.out 2
                  have hfz99_3 := blk_frozen BK396.out 3
                  have hfz99_4 := blk_frozen BK396.out 4
                  have hfz99_5 := blk_frozen BK396.out 5
                  have hcz100_0 : wc.cell? ⟨gb397, 0, none⟩ = some (.slice A1_0 l1_0.length c1_0) := (blk_cell BK397.out 0).trans rfl
                  have hcz100_1 : wc.cell? ⟨gb397, 1, none⟩ = some (.int .i64 a1_1) := (blk_cell BK397.out 1).trans rfl
                  have hcz100_2 : wc.cell? ⟨gb397, 2, none⟩ = some (.int .i64 a1_2) := (blk_cell BK397.out 2).trans rfl
                  have hcz100_3 : wc.cell? ⟨gb397, 3, none⟩ = some (.int .i32 a1_3) := (blk_cell BK397.out 3).trans rfl
                  have hcz100_4 : wc.cell? ⟨gb397, 4, none⟩ = some (.int .i64 a1_4) := (blk_cell BK397.out 4).trans rfl
                  have hcz100_5 : wc.cell? ⟨gb397, 5, none⟩ = some (.int .u64 a1_5) := (blk_cell BK397.out 5).trans rfl
                  have hfz100_0 := blk_frozen BK397.out 0
                  have hfz100_1 := blk_frozen BK397.out 1
                  have hfz100_2 := blk_frozen BK397.out 2
                  have hfz100_3 := blk_frozen BK397.out 3
                  have hfz100_4 := blk_frozen BK397.out 4
                  have hfz100_5 := blk_frozen BK397.out 5
                  go_wp2_with (first | ((with_reducible refine gate_callee (f := 5) rfl ?_); refine goesL_ (some 21) rfl rfl Tryz.func5 (by kernel_rfl) rfl #[.slice A0_0 l0_0.length c0_0, .slice A1_0 l1_0.length c1_0] rfl (by (try simp only [List.map_toArray, List.map_cons, List.map_nil]); first | done | rfl | (simp only [List.length_drop, List.length_take]; rfl)) ?_; (with_reducible refine (credenzalaw21_same.calls kj2 _ _ l0_0 _ _ l1_0 true _ ?side1 ?side2 ?side3 ?side4 A15.out).mono ?_); (case side1 => repeat (first | exact (Kd.C_below HR0_0.out HB.out) | (with_reducible refine Kd.C_alloc ?_ _) | (with_reducible refine Kd.C_drewN ?_ _) | (with_reducible refine Kd.C_drew ?_))); (case side2 => exact HC0_0.out); (case side3 => repeat (first | exact (Kd.C_below HR1_0.out HB.out) | (with_reducible refine Kd.C_alloc ?_ _) | (with_reducible refine Kd.C_drewN ?_ _) | (with_reducible refine Kd.C_drew ?_))); (case side4 => exact HC1_0.out); rintro e w' ⟨rfl, ⟨nd, rfl⟩⟩; refine ⟨_, rfl, ?_⟩) | ((with_reducible refine gate_callee (f := 6) rfl ?_); refine goesL_ (some 65) rfl rfl Tryz.func6 (by kernel_rfl) rfl #[.agg #[.slice A0_0 l0_0.length c0_0, .int .i64 a0_1, .int .i64 a0_2, .int .i32 a0_3, .int .i64 a0_4, .int .u64 a0_5], .agg #[.slice A1_0 l1_0.length c1_0, .int .i64 a1_1, .int .i64 a1_2, .int .i32 a1_3, .int .i64 a1_4, .int .u64 a1_5]] rfl (by (try simp only [List.map_toArray, List.map_cons, List.map_nil]); first | done | rfl | (simp only [List.length_drop, List.length_take]; rfl)) ?_; (with_reducible refine (gen_Equal.calls kj2 _ _ l0_0 a0_1 a0_2 a0_3 a0_4 a0_5 _ _ l1_0 a1_1 a1_2 a1_3 a1_4 a1_5 t409 _ ?side1 ?side2 ?side3 ?side4 A93.out).mono ?_); (case side1 => repeat (first | exact (Kd.C_below HR0_0.out (by repeat (first | (with_reducible first | exact HB.out | apply below_alloc | apply pw_below_drewN | apply below_drew1 | refine below_set ?_ GE396.out | refine below_set ?_ GE397.out) | exact HB.out))) | (with_reducible refine Kd.C_alloc ?_ _) | (with_reducible refine Kd.C_drewN ?_ _) | (with_reducible refine Kd.C_drew ?_))); (case side2 => exact HC0_0.out); (case side3 => repeat (first | exact (Kd.C_below HR1_0.out (by repeat (first | (with_reducible first | exact HB.out | apply below_alloc | apply pw_below_drewN | apply below_drew1 | refine below_set ?_ GE396.out | refine below_set ?_ GE397.out) | exact HB.out))) | (with_reducible refine Kd.C_alloc ?_ _) | (with_reducible refine Kd.C_drewN ?_ _) | (with_reducible refine Kd.C_drew ?_))); (case side4 => exact HC1_0.out); rintro e w101 ⟨rfl, hb⟩; refine ⟨_, rfl, ?_⟩; have n0_ := Aside0.mk (blk_below (g := gb396) (o := .cells #[.slice A0_0 l0_0.length c0_0, .int .i64 a0_1, .int .i64 a0_2, .int .i32 a0_3, .int .i64 a0_4, .int .u64 a0_5] 27 (0, 0)) (by (with_reducible repeat (first | refine blk_drewN ?_ _ | refine blk_drew ?_ | refine blk_alloc ?_ _)); exact BK396.out) hb); have n1_ := Aside0.mk (blk_below (g := gb397) (o := .cells #[.slice A1_0 l1_0.length c1_0, .int .i64 a1_1, .int .i64 a1_2, .int .i32 a1_3, .int .i64 a1_4, .int .u64 a1_5] 27 (0, 0)) (by (with_reducible repeat (first | refine blk_drewN ?_ _ | refine blk_drew ?_ | refine blk_alloc ?_ _)); exact BK397.out) hb); have n2_ := Aside0.mk (below_step (by repeat (first | (with_reducible first | exact HB.out | apply below_alloc | apply pw_below_drewN | apply below_drew1 | refine below_set ?_ GE396.out | refine below_set ?_ GE397.out) | exact HB.out)) hb); clear BK396; clear BK397; clear HB; have BK396 := n0_; have BK397 := n1_; have HB := n2_; clear n0_ n1_ n2_; (try clear hb); (try clear hb2); (try clear hk); (try clear hi); have hcz102_0 : w101.cell? ⟨gb397, 0, none⟩ = some (.slice A1_0 l1_0.length c1_0) := (blk_cell BK397.out 0).trans rfl; have hcz102_1 : w101.cell? ⟨gb397, 1, none⟩ = some (.int .i64 a1_1) := (blk_cell BK397.out 1).trans rfl; have hcz102_2 : w101.cell? ⟨gb397, 2, none⟩ = some (.int .i64 a1_2) := (blk_cell BK397.out 2).trans rfl; have hcz102_3 : w101.cell? ⟨gb397, 3, none⟩ = some (.int .i32 a1_3) := (blk_cell BK397.out 3).trans rfl; have hcz102_4 : w101.cell? ⟨gb397, 4, none⟩ = some (.int .i64 a1_4) := (blk_cell BK397.out 4).trans rfl; have hcz102_5 : w101.cell? ⟨gb397, 5, none⟩ = some (.int .u64 a1_5) := (blk_cell BK397.out 5).trans rfl; have hfz102_0 := blk_frozen BK397.out 0; have hfz102_1 := blk_frozen BK397.out 1; have hfz102_2 := blk_frozen BK397.out 2; have hfz102_3 := blk_frozen BK397.out 3; have hfz102_4 := blk_frozen BK397.out 4; have hfz102_5 := blk_frozen BK397.out 5; have hcz103_0 : w101.cell? ⟨gb396, 0, none⟩ = some (.slice A0_0 l0_0.length c0_0) := (blk_cell BK396.out 0).trans rfl; have hcz103_1 : w101.cell? ⟨gb396, 1, none⟩ = some (.int .i64 a0_1) := (blk_cell BK396.out 1).trans rfl; have hcz103_2 : w101.cell? ⟨gb396, 2, none⟩ = some (.int .i64 a0_2) := (blk_cell BK396.out 2).trans rfl; have hcz103_3 : w101.cell? ⟨gb396, 3, none⟩ = some (.int .i32 a0_3) := (blk_cell BK396.out 3).trans rfl; have hcz103_4 : w101.cell? ⟨gb396, 4, none⟩ = some (.int .i64 a0_4) := (blk_cell BK396.out 4).trans rfl; have hcz103_5 : w101.cell? ⟨gb396, 5, none⟩ = some (.int .u64 a0_5) := (blk_cell BK396.out 5).trans rfl; have hfz103_0 := blk_frozen BK396.out 0; have hfz103_1 := blk_frozen BK396.out 1; have hfz103_2 := blk_frozen BK396.out 2; have hfz103_3 := blk_frozen BK396.out 3; have hfz103_4 := blk_frozen BK396.out 4; have hfz103_5 := blk_frozen BK396.out 5) | (go_at_call 6; (with_reducible refine (gen_Equal.calls kj2 _ _ l1_0 a1_1 a1_2 a1_3 a1_4 a1_5 _ _ l0_0 a0_1 a0_2 a0_3 a0_4 a0_5 t410 _ ?side1 ?side2 ?side3 ?side4 A95.out).mono ?_); (case side1 => repeat (first | exact (Kd.C_below HR1_0.out HB.out) | (with_reducible refine Kd.C_alloc ?_ _) | (with_reducible refine Kd.C_drewN ?_ _) | (with_reducible refine Kd.C_drew ?_))); (case side2 => exact HC1_0.out); (case side3 => repeat (first | exact (Kd.C_below HR0_0.out HB.out) | (with_reducible refine Kd.C_alloc ?_ _) | (with_reducible refine Kd.C_drewN ?_ _) | (with_reducible refine Kd.C_drew ?_))); (case side4 => exact HC0_0.out); rintro e w104 ⟨rfl, hb⟩; have n0_ := Aside0.mk (blk_below (g := gb396) (o := .cells #[.slice A0_0 l0_0.length c0_0, .int .i64 a0_1, .int .i64 a0_2, .int .i32 a0_3, .int .i64 a0_4, .int .u64 a0_5] 27 (0, 0)) (by (with_reducible repeat (first | refine blk_drewN ?_ _ | refine blk_drew ?_ | refine blk_alloc ?_ _)); exact BK396.out) hb); have n1_ := Aside0.mk (blk_below (g := gb397) (o := .cells #[.slice A1_0 l1_0.length c1_0, .int .i64 a1_1, .int .i64 a1_2, .int .i32 a1_3, .int .i64 a1_4, .int .u64 a1_5] 27 (0, 0)) (by (with_reducible repeat (first | refine blk_drewN ?_ _ | refine blk_drew ?_ | refine blk_alloc ?_ _)); exact BK397.out) hb); have n2_ := Aside0.mk (below_step (by repeat (first | (with_reducible first | exact HB.out | apply below_alloc | apply pw_below_drewN | apply below_drew1 | refine below_set ?_ GE396.out | refine below_set ?_ GE397.out) | exact HB.out)) hb); clear BK396; clear BK397; clear HB; have BK396 := n0_; have BK397 := n1_; have HB := n2_; clear n0_ n1_ n2_; (try clear hb); (try clear hb2); (try clear hk); (try clear hi)) | (go_at_call 4; (with_reducible refine (credenzalaw21_awake.calls  t411 _ A97.out).mono ?_); rintro e w105 ⟨rfl, hb⟩; have n0_ := Aside0.mk (blk_below (g := gb396) (o := .cells #[.slice A0_0 l0_0.length c0_0, .int .i64 a0_1, .int .i64 a0_2, .int .i32 a0_3, .int .i64 a0_4, .int .u64 a0_5] 27 (0, 0)) (by (with_reducible repeat (first | refine blk_drewN ?_ _ | refine blk_drew ?_ | refine blk_alloc ?_ _)); exact BK396.out) hb); have n1_ := Aside0.mk (blk_below (g := gb397) (o := .cells #[.slice A1_0 l1_0.length c1_0, .int .i64 a1_1, .int .i64 a1_2, .int .i32 a1_3, .int .i64 a1_4, .int .u64 a1_5] 27 (0, 0)) (by (with_reducible repeat (first | refine blk_drewN ?_ _ | refine blk_drew ?_ | refine blk_alloc ?_ _)); exact BK397.out) hb); have n2_ := Aside0.mk (below_step (by repeat (first | (with_reducible first | exact HB.out | apply below_alloc | apply pw_below_drewN | apply below_drew1 | refine below_set ?_ GE396.out | refine below_set ?_ GE397.out) | exact HB.out)) hb); clear BK396; clear BK397; clear HB; have BK396 := n0_; have BK397 := n1_; have HB := n2_; clear n0_ n1_ n2_; (try clear hb); (try clear hb2); (try clear hk); (try clear hi)))
                  go_ret
                  exact ⟨by first | rfl | (simp [errW_none, errW_some] <;> rfl) | (simp [*, errW_none, errW_some] <;> rfl), by repeat (first | (with_reducible first | exact HB.out | apply below_alloc | apply pw_below_drewN | apply below_drew1 | refine below_set ?_ GE396.out | refine below_set ?_ GE397.out) | exact HB.out)⟩
                · rw [if_neg c96] at H
                  have c96b0 : (t410 == false) = false := by simpa using c96
                  (try (have c96b1 : decide (t410 = false) = false := by simpa using c96))
                  (try (have c96b2 : (t410 == false) = false := by simpa using c96))
                  (try (have c96b3 : ¬ (t410 = false) := by simpa using c96))
                  clear c96
                  obtain rfl := Option.some.inj H
                  have hnb106 := NB396_397.out
                  have hnc106 := NB397_396.out
                  have hcz107_0 : wc.cell? ⟨gb396, 0, none⟩ = some (.slice A0_0 l0_0.length c0_0) := (blk_cell BK396.out 0).trans rfl
                  have hcz107_1 : wc.cell? ⟨gb396, 1, none⟩ = some (.int .i64 a0_1) := (blk_cell BK396.out 1).trans rfl
                  have hcz107_2 : wc.cell? ⟨gb396, 2, none⟩ = some (.int .i64 a0_2) := (blk_cell BK396.out 2).trans rfl
                  have hcz107_3 : wc.cell? ⟨gb396, 3, none⟩ = some (.int .i32 a0_3) := (blk_cell BK396.out 3).trans rfl
                  have hcz107_4 : wc.cell? ⟨gb396, 4, none⟩ = some (.int .i64 a0_4) := (blk_cell BK396.out 4).trans rfl
                  have hcz107_5 : wc.cell? ⟨gb396, 5, none⟩ = some (.int .u64 a0_5) := (blk_cell BK396.out 5).trans rfl
                  have hfz107_0 := blk_frozen BK396.out 0
                  have hfz107_1 := blk_frozen BK396.out 1
                  have hfz107_2 := blk_frozen BK396.out 2
                  have hfz107_3 := blk_frozen BK396.out 3
                  have hfz107_4 := blk_frozen BK396.out 4
                  have hfz107_5 := blk_frozen BK396.out 5
                  have hcz108_0 : wc.cell? ⟨gb397, 0, none⟩ = some (.slice A1_0 l1_0.length c1_0) := (blk_cell BK397.out 0).trans rfl
                  have hcz108_1 : wc.cell? ⟨gb397, 1, none⟩ = some (.int .i64 a1_1) := (blk_cell BK397.out 1).trans rfl
                  have hcz108_2 : wc.cell? ⟨gb397, 2, none⟩ = some (.int .i64 a1_2) := (blk_cell BK397.out 2).trans rfl
                  have hcz108_3 : wc.cell? ⟨gb397, 3, none⟩ = some (.int .i32 a1_3) := (blk_cell BK397.out 3).trans rfl
                  have hcz108_4 : wc.cell? ⟨gb397, 4, none⟩ = some (.int .i64 a1_4) := (blk_cell BK397.out 4).trans rfl
                  have hcz108_5 : wc.cell? ⟨gb397, 5, none⟩ = some (.int .u64 a1_5) := (blk_cell BK397.out 5).trans rfl
                  have hfz108_0 := blk_frozen BK397.out 0
                  have hfz108_1 := blk_frozen BK397.out 1
                  have hfz108_2 := blk_frozen BK397.out 2
                  have hfz108_3 := blk_frozen BK397.out 3
                  have hfz108_4 := blk_frozen BK397.out 4
                  have hfz108_5 := blk_frozen BK397.out 5
                  go_wp2_with (first | ((with_reducible refine gate_callee (f := 5) rfl ?_); refine goesL_ (some 21) rfl rfl Tryz.func5 (by kernel_rfl) rfl #[.slice A0_0 l0_0.length c0_0, .slice A1_0 l1_0.length c1_0] rfl (by (try simp only [List.map_toArray, List.map_cons, List.map_nil]); first | done | rfl | (simp only [List.length_drop, List.length_take]; rfl)) ?_; (with_reducible refine (credenzalaw21_same.calls kj2 _ _ l0_0 _ _ l1_0 true _ ?side1 ?side2 ?side3 ?side4 A15.out).mono ?_); (case side1 => repeat (first | exact (Kd.C_below HR0_0.out HB.out) | (with_reducible refine Kd.C_alloc ?_ _) | (with_reducible refine Kd.C_drewN ?_ _) | (with_reducible refine Kd.C_drew ?_))); (case side2 => exact HC0_0.out); (case side3 => repeat (first | exact (Kd.C_below HR1_0.out HB.out) | (with_reducible refine Kd.C_alloc ?_ _) | (with_reducible refine Kd.C_drewN ?_ _) | (with_reducible refine Kd.C_drew ?_))); (case side4 => exact HC1_0.out); rintro e w' ⟨rfl, ⟨nd, rfl⟩⟩; refine ⟨_, rfl, ?_⟩) | ((with_reducible refine gate_callee (f := 6) rfl ?_); refine goesL_ (some 65) rfl rfl Tryz.func6 (by kernel_rfl) rfl #[.agg #[.slice A0_0 l0_0.length c0_0, .int .i64 a0_1, .int .i64 a0_2, .int .i32 a0_3, .int .i64 a0_4, .int .u64 a0_5], .agg #[.slice A1_0 l1_0.length c1_0, .int .i64 a1_1, .int .i64 a1_2, .int .i32 a1_3, .int .i64 a1_4, .int .u64 a1_5]] rfl (by (try simp only [List.map_toArray, List.map_cons, List.map_nil]); first | done | rfl | (simp only [List.length_drop, List.length_take]; rfl)) ?_; (with_reducible refine (gen_Equal.calls kj2 _ _ l0_0 a0_1 a0_2 a0_3 a0_4 a0_5 _ _ l1_0 a1_1 a1_2 a1_3 a1_4 a1_5 t409 _ ?side1 ?side2 ?side3 ?side4 A93.out).mono ?_); (case side1 => repeat (first | exact (Kd.C_below HR0_0.out (by repeat (first | (with_reducible first | exact HB.out | apply below_alloc | apply pw_below_drewN | apply below_drew1 | refine below_set ?_ GE396.out | refine below_set ?_ GE397.out) | exact HB.out))) | (with_reducible refine Kd.C_alloc ?_ _) | (with_reducible refine Kd.C_drewN ?_ _) | (with_reducible refine Kd.C_drew ?_))); (case side2 => exact HC0_0.out); (case side3 => repeat (first | exact (Kd.C_below HR1_0.out (by repeat (first | (with_reducible first | exact HB.out | apply below_alloc | apply pw_below_drewN | apply below_drew1 | refine below_set ?_ GE396.out | refine below_set ?_ GE397.out) | exact HB.out))) | (with_reducible refine Kd.C_alloc ?_ _) | (with_reducible refine Kd.C_drewN ?_ _) | (with_reducible refine Kd.C_drew ?_))); (case side4 => exact HC1_0.out); rintro e w109 ⟨rfl, hb⟩; refine ⟨_, rfl, ?_⟩; have n0_ := Aside0.mk (blk_below (g := gb396) (o := .cells #[.slice A0_0 l0_0.length c0_0, .int .i64 a0_1, .int .i64 a0_2, .int .i32 a0_3, .int .i64 a0_4, .int .u64 a0_5] 27 (0, 0)) (by (with_reducible repeat (first | refine blk_drewN ?_ _ | refine blk_drew ?_ | refine blk_alloc ?_ _)); exact BK396.out) hb); have n1_ := Aside0.mk (blk_below (g := gb397) (o := .cells #[.slice A1_0 l1_0.length c1_0, .int .i64 a1_1, .int .i64 a1_2, .int .i32 a1_3, .int .i64 a1_4, .int .u64 a1_5] 27 (0, 0)) (by (with_reducible repeat (first | refine blk_drewN ?_ _ | refine blk_drew ?_ | refine blk_alloc ?_ _)); exact BK397.out) hb); have n2_ := Aside0.mk (below_step (by repeat (first | (with_reducible first | exact HB.out | apply below_alloc | apply pw_below_drewN | apply below_drew1 | refine below_set ?_ GE396.out | refine below_set ?_ GE397.out) | exact HB.out)) hb); clear BK396; clear BK397; clear HB; have BK396 := n0_; have BK397 := n1_; have HB := n2_; clear n0_ n1_ n2_; (try clear hb); (try clear hb2); (try clear hk); (try clear hi); have hcz110_0 : w109.cell? ⟨gb397, 0, none⟩ = some (.slice A1_0 l1_0.length c1_0) := (blk_cell BK397.out 0).trans rfl; have hcz110_1 : w109.cell? ⟨gb397, 1, none⟩ = some (.int .i64 a1_1) := (blk_cell BK397.out 1).trans rfl; have hcz110_2 : w109.cell? ⟨gb397, 2, none⟩ = some (.int .i64 a1_2) := (blk_cell BK397.out 2).trans rfl; have hcz110_3 : w109.cell? ⟨gb397, 3, none⟩ = some (.int .i32 a1_3) := (blk_cell BK397.out 3).trans rfl; have hcz110_4 : w109.cell? ⟨gb397, 4, none⟩ = some (.int .i64 a1_4) := (blk_cell BK397.out 4).trans rfl; have hcz110_5 : w109.cell? ⟨gb397, 5, none⟩ = some (.int .u64 a1_5) := (blk_cell BK397.out 5).trans rfl; have hfz110_0 := blk_frozen BK397.out 0; have hfz110_1 := blk_frozen BK397.out 1; have hfz110_2 := blk_frozen BK397.out 2; have hfz110_3 := blk_frozen BK397.out 3; have hfz110_4 := blk_frozen BK397.out 4; have hfz110_5 := blk_frozen BK397.out 5; have hcz111_0 : w109.cell? ⟨gb396, 0, none⟩ = some (.slice A0_0 l0_0.length c0_0) := (blk_cell BK396.out 0).trans rfl; have hcz111_1 : w109.cell? ⟨gb396, 1, none⟩ = some (.int .i64 a0_1) := (blk_cell BK396.out 1).trans rfl; have hcz111_2 : w109.cell? ⟨gb396, 2, none⟩ = some (.int .i64 a0_2) := (blk_cell BK396.out 2).trans rfl; have hcz111_3 : w109.cell? ⟨gb396, 3, none⟩ = some (.int .i32 a0_3) := (blk_cell BK396.out 3).trans rfl; have hcz111_4 : w109.cell? ⟨gb396, 4, none⟩ = some (.int .i64 a0_4) := (blk_cell BK396.out 4).trans rfl; have hcz111_5 : w109.cell? ⟨gb396, 5, none⟩ = some (.int .u64 a0_5) := (blk_cell BK396.out 5).trans rfl; have hfz111_0 := blk_frozen BK396.out 0; have hfz111_1 := blk_frozen BK396.out 1; have hfz111_2 := blk_frozen BK396.out 2; have hfz111_3 := blk_frozen BK396.out 3; have hfz111_4 := blk_frozen BK396.out 4; have hfz111_5 := blk_frozen BK396.out 5) | (go_at_call 6; (with_reducible refine (gen_Equal.calls kj2 _ _ l1_0 a1_1 a1_2 a1_3 a1_4 a1_5 _ _ l0_0 a0_1 a0_2 a0_3 a0_4 a0_5 t410 _ ?side1 ?side2 ?side3 ?side4 A95.out).mono ?_); (case side1 => repeat (first | exact (Kd.C_below HR1_0.out HB.out) | (with_reducible refine Kd.C_alloc ?_ _) | (with_reducible refine Kd.C_drewN ?_ _) | (with_reducible refine Kd.C_drew ?_))); (case side2 => exact HC1_0.out); (case side3 => repeat (first | exact (Kd.C_below HR0_0.out HB.out) | (with_reducible refine Kd.C_alloc ?_ _) | (with_reducible refine Kd.C_drewN ?_ _) | (with_reducible refine Kd.C_drew ?_))); (case side4 => exact HC0_0.out); rintro e w112 ⟨rfl, hb⟩; have n0_ := Aside0.mk (blk_below (g := gb396) (o := .cells #[.slice A0_0 l0_0.length c0_0, .int .i64 a0_1, .int .i64 a0_2, .int .i32 a0_3, .int .i64 a0_4, .int .u64 a0_5] 27 (0, 0)) (by (with_reducible repeat (first | refine blk_drewN ?_ _ | refine blk_drew ?_ | refine blk_alloc ?_ _)); exact BK396.out) hb); have n1_ := Aside0.mk (blk_below (g := gb397) (o := .cells #[.slice A1_0 l1_0.length c1_0, .int .i64 a1_1, .int .i64 a1_2, .int .i32 a1_3, .int .i64 a1_4, .int .u64 a1_5] 27 (0, 0)) (by (with_reducible repeat (first | refine blk_drewN ?_ _ | refine blk_drew ?_ | refine blk_alloc ?_ _)); exact BK397.out) hb); have n2_ := Aside0.mk (below_step (by repeat (first | (with_reducible first | exact HB.out | apply below_alloc | apply pw_below_drewN | apply below_drew1 | refine below_set ?_ GE396.out | refine below_set ?_ GE397.out) | exact HB.out)) hb); clear BK396; clear BK397; clear HB; have BK396 := n0_; have BK397 := n1_; have HB := n2_; clear n0_ n1_ n2_; (try clear hb); (try clear hb2); (try clear hk); (try clear hi)))
                  go_ret
                  exact ⟨by first | rfl | (simp [errW_none, errW_some] <;> rfl) | (simp [*, errW_none, errW_some] <;> rfl), by repeat (first | (with_reducible first | exact HB.out | apply below_alloc | apply pw_below_drewN | apply below_drew1 | refine below_set ?_ GE396.out | refine below_set ?_ GE397.out) | exact HB.out)⟩
              · rw [if_neg c94] at H
                have c94b0 : (t409 == false) = false := by simpa using c94
                (try (have c94b1 : decide (t409 = false) = false := by simpa using c94))
                (try (have c94b2 : (t409 == false) = false := by simpa using c94))
                (try (have c94b3 : ¬ (t409 = false) := by simpa using c94))
                clear c94
                obtain rfl := Option.some.inj H
                have hnb113 := NB396_397.out
                have hnc113 := NB397_396.out
                have hcz114_0 : wc.cell? ⟨gb396, 0, none⟩ = some (.slice A0_0 l0_0.length c0_0) := (blk_cell BK396.out 0).trans rfl
                have hcz114_1 : wc.cell? ⟨gb396, 1, none⟩ = some (.int .i64 a0_1) := (blk_cell BK396.out 1).trans rfl
                have hcz114_2 : wc.cell? ⟨gb396, 2, none⟩ = some (.int .i64 a0_2) := (blk_cell BK396.out 2).trans rfl
                have hcz114_3 : wc.cell? ⟨gb396, 3, none⟩ = some (.int .i32 a0_3) := (blk_cell BK396.out 3).trans rfl
                have hcz114_4 : wc.cell? ⟨gb396, 4, none⟩ = some (.int .i64 a0_4) := (blk_cell BK396.out 4).trans rfl
                have hcz114_5 : wc.cell? ⟨gb396, 5, none⟩ = some (.int .u64 a0_5) := (blk_cell BK396.out 5).trans rfl
                have hfz114_0 := blk_frozen BK396.out 0
                have hfz114_1 := blk_frozen BK396.out 1
                have hfz114_2 := blk_frozen BK396.out 2
                have hfz114_3 := blk_frozen BK396.out 3
                have hfz114_4 := blk_frozen BK396.out 4
                have hfz114_5 := blk_frozen BK396.out 5
                have hcz115_0 : wc.cell? ⟨gb397, 0, none⟩ = some (.slice A1_0 l1_0.length c1_0) := (blk_cell BK397.out 0).trans rfl
                have hcz115_1 : wc.cell? ⟨gb397, 1, none⟩ = some (.int .i64 a1_1) := (blk_cell BK397.out 1).trans rfl
                have hcz115_2 : wc.cell? ⟨gb397, 2, none⟩ = some (.int .i64 a1_2) := (blk_cell BK397.out 2).trans rfl
                have hcz115_3 : wc.cell? ⟨gb397, 3, none⟩ = some (.int .i32 a1_3) := (blk_cell BK397.out 3).trans rfl
                have hcz115_4 : wc.cell? ⟨gb397, 4, none⟩ = some (.int .i64 a1_4) := (blk_cell BK397.out 4).trans rfl
                have hcz115_5 : wc.cell? ⟨gb397, 5, none⟩ = some (.int .u64 a1_5) := (blk_cell BK397.out 5).trans rfl
                have hfz115_0 := blk_frozen BK397.out 0
                have hfz115_1 := blk_frozen BK397.out 1
                have hfz115_2 := blk_frozen BK397.out 2
                have hfz115_3 := blk_frozen BK397.out 3
                have hfz115_4 := blk_frozen BK397.out 4
                have hfz115_5 := blk_frozen BK397.out 5
                go_wp2_with (first | ((with_reducible refine gate_callee (f := 5) rfl ?_); refine goesL_ (some 21) rfl rfl Tryz.func5 (by kernel_rfl) rfl #[.slice A0_0 l0_0.length c0_0, .slice A1_0 l1_0.length c1_0] rfl (by (try simp only [List.map_toArray, List.map_cons, List.map_nil]); first | done | rfl | (simp only [List.length_drop, List.length_take]; rfl)) ?_; (with_reducible refine (credenzalaw21_same.calls kj2 _ _ l0_0 _ _ l1_0 true _ ?side1 ?side2 ?side3 ?side4 A15.out).mono ?_); (case side1 => repeat (first | exact (Kd.C_below HR0_0.out HB.out) | (with_reducible refine Kd.C_alloc ?_ _) | (with_reducible refine Kd.C_drewN ?_ _) | (with_reducible refine Kd.C_drew ?_))); (case side2 => exact HC0_0.out); (case side3 => repeat (first | exact (Kd.C_below HR1_0.out HB.out) | (with_reducible refine Kd.C_alloc ?_ _) | (with_reducible refine Kd.C_drewN ?_ _) | (with_reducible refine Kd.C_drew ?_))); (case side4 => exact HC1_0.out); rintro e w' ⟨rfl, ⟨nd, rfl⟩⟩; refine ⟨_, rfl, ?_⟩) | ((with_reducible refine gate_callee (f := 6) rfl ?_); refine goesL_ (some 65) rfl rfl Tryz.func6 (by kernel_rfl) rfl #[.agg #[.slice A0_0 l0_0.length c0_0, .int .i64 a0_1, .int .i64 a0_2, .int .i32 a0_3, .int .i64 a0_4, .int .u64 a0_5], .agg #[.slice A1_0 l1_0.length c1_0, .int .i64 a1_1, .int .i64 a1_2, .int .i32 a1_3, .int .i64 a1_4, .int .u64 a1_5]] rfl (by (try simp only [List.map_toArray, List.map_cons, List.map_nil]); first | done | rfl | (simp only [List.length_drop, List.length_take]; rfl)) ?_; (with_reducible refine (gen_Equal.calls kj2 _ _ l0_0 a0_1 a0_2 a0_3 a0_4 a0_5 _ _ l1_0 a1_1 a1_2 a1_3 a1_4 a1_5 t409 _ ?side1 ?side2 ?side3 ?side4 A93.out).mono ?_); (case side1 => repeat (first | exact (Kd.C_below HR0_0.out (by repeat (first | (with_reducible first | exact HB.out | apply below_alloc | apply pw_below_drewN | apply below_drew1 | refine below_set ?_ GE396.out | refine below_set ?_ GE397.out) | exact HB.out))) | (with_reducible refine Kd.C_alloc ?_ _) | (with_reducible refine Kd.C_drewN ?_ _) | (with_reducible refine Kd.C_drew ?_))); (case side2 => exact HC0_0.out); (case side3 => repeat (first | exact (Kd.C_below HR1_0.out (by repeat (first | (with_reducible first | exact HB.out | apply below_alloc | apply pw_below_drewN | apply below_drew1 | refine below_set ?_ GE396.out | refine below_set ?_ GE397.out) | exact HB.out))) | (with_reducible refine Kd.C_alloc ?_ _) | (with_reducible refine Kd.C_drewN ?_ _) | (with_reducible refine Kd.C_drew ?_))); (case side4 => exact HC1_0.out); rintro e w116 ⟨rfl, hb⟩; refine ⟨_, rfl, ?_⟩; have n0_ := Aside0.mk (blk_below (g := gb396) (o := .cells #[.slice A0_0 l0_0.length c0_0, .int .i64 a0_1, .int .i64 a0_2, .int .i32 a0_3, .int .i64 a0_4, .int .u64 a0_5] 27 (0, 0)) (by (with_reducible repeat (first | refine blk_drewN ?_ _ | refine blk_drew ?_ | refine blk_alloc ?_ _)); exact BK396.out) hb); have n1_ := Aside0.mk (blk_below (g := gb397) (o := .cells #[.slice A1_0 l1_0.length c1_0, .int .i64 a1_1, .int .i64 a1_2, .int .i32 a1_3, .int .i64 a1_4, .int .u64 a1_5] 27 (0, 0)) (by (with_reducible repeat (first | refine blk_drewN ?_ _ | refine blk_drew ?_ | refine blk_alloc ?_ _)); exact BK397.out) hb); have n2_ := Aside0.mk (below_step (by repeat (first | (with_reducible first | exact HB.out | apply below_alloc | apply pw_below_drewN | apply below_drew1 | refine below_set ?_ GE396.out | refine below_set ?_ GE397.out) | exact HB.out)) hb); clear BK396; clear BK397; clear HB; have BK396 := n0_; have BK397 := n1_; have HB := n2_; clear n0_ n1_ n2_; (try clear hb); (try clear hb2); (try clear hk); (try clear hi)))
                go_ret
                exact ⟨by first | rfl | (simp [errW_none, errW_some] <;> rfl) | (simp [*, errW_none, errW_some] <;> rfl), by repeat (first | (with_reducible first | exact HB.out | apply below_alloc | apply pw_below_drewN | apply below_drew1 | refine below_set ?_ GE396.out | refine below_set ?_ GE397.out) | exact HB.out)⟩
          · rw [if_neg c17] at H
            have c17b0 : (a0_1 == a1_1) = false := beq_eq_false_iff_ne.mpr c17
            have c17b1 : (a0_1 != a1_1) = true := bne_iff_ne.mpr c17
            replace H := Option.bind_eq_some_iff.mp H
            obtain ⟨t412, A1170, H⟩ := H
            replace H : (if (t412 == false) = true then ((gen_Equal.f kj2 l1_0 a1_1 a1_2 a1_3 a1_4 a1_5 l0_0 a0_1 a0_2 a0_3 a0_4 a0_5).bind fun t413 => (if (t413 == false) = true then ((credenzalaw21_awake.f).bind fun t414 => (some t414)) else (some false))) else (some false)) = some r := H
            have A117 := Aside0.mk A1170
            clear A1170
            by_cases c118 : (t412 == false) = true
            · rw [if_pos c118] at H
              have c118b0 : (t412 == false) = true := c118
              (try (have c118b1 : decide (t412 = false) = true := by simpa using c118))
              (try (have c118b2 : (t412 == false) = true := by simpa using c118))
              clear c118
              replace H := Option.bind_eq_some_iff.mp H
              obtain ⟨t413, A1190, H⟩ := H
              replace H : (if (t413 == false) = true then ((credenzalaw21_awake.f).bind fun t414 => (some t414)) else (some false)) = some r := H
              have A119 := Aside0.mk A1190
              clear A1190
              by_cases c120 : (t413 == false) = true
              · rw [if_pos c120] at H
                have c120b0 : (t413 == false) = true := c120
                (try (have c120b1 : decide (t413 = false) = true := by simpa using c120))
                (try (have c120b2 : (t413 == false) = true := by simpa using c120))
                clear c120
                replace H := Option.bind_eq_some_iff.mp H
                obtain ⟨t414, A1210, H⟩ := H
                replace H : (some t414) = some r := H
                have A121 := Aside0.mk A1210
                clear A1210
                obtain rfl := Option.some.inj H
                have hnb122 := NB396_397.out
                have hnc122 := NB397_396.out
                have hcz123_0 : wc.cell? ⟨gb396, 0, none⟩ = some (.slice A0_0 l0_0.length c0_0) := (blk_cell BK396.out 0).trans rfl
                have hcz123_1 : wc.cell? ⟨gb396, 1, none⟩ = some (.int .i64 a0_1) := (blk_cell BK396.out 1).trans rfl
                have hcz123_2 : wc.cell? ⟨gb396, 2, none⟩ = some (.int .i64 a0_2) := (blk_cell BK396.out 2).trans rfl
                have hcz123_3 : wc.cell? ⟨gb396, 3, none⟩ = some (.int .i32 a0_3) := (blk_cell BK396.out 3).trans rfl
                have hcz123_4 : wc.cell? ⟨gb396, 4, none⟩ = some (.int .i64 a0_4) := (blk_cell BK396.out 4).trans rfl
                have hcz123_5 : wc.cell? ⟨gb396, 5, none⟩ = some (.int .u64 a0_5) := (blk_cell BK396.out 5).trans rfl
                have hfz123_0 := blk_frozen BK396.out 0
                have hfz123_1 := blk_frozen BK396.out 1
                have hfz123_2 := blk_frozen BK396.out 2
                have hfz123_3 := blk_frozen BK396.out 3
                have hfz123_4 := blk_frozen BK396.out 4
                have hfz123_5 := blk_frozen BK396.out 5
                have hcz124_0 : wc.cell? ⟨gb397, 0, none⟩ = some (.slice A1_0 l1_0.length c1_0) := (blk_cell BK397.out 0).trans rfl
                have hcz124_1 : wc.cell? ⟨gb397, 1, none⟩ = some (.int .i64 a1_1) := (blk_cell BK397.out 1).trans rfl
                have hcz124_2 : wc.cell? ⟨gb397, 2, none⟩ = some (.int .i64 a1_2) := (blk_cell BK397.out 2).trans rfl
                have hcz124_3 : wc.cell? ⟨gb397, 3, none⟩ = some (.int .i32 a1_3) := (blk_cell BK397.out 3).trans rfl
                have hcz124_4 : wc.cell? ⟨gb397, 4, none⟩ = some (.int .i64 a1_4) := (blk_cell BK397.out 4).trans rfl
                have hcz124_5 : wc.cell? ⟨gb397, 5, none⟩ = some (.int .u64 a1_5) := (blk_cell BK397.out 5).trans rfl
                have hfz124_0 := blk_frozen BK397.out 0
                have hfz124_1 := blk_frozen BK397.out 1
                have hfz124_2 := blk_frozen BK397.out 2
                have hfz124_3 := blk_frozen BK397.out 3
                have hfz124_4 := blk_frozen BK397.out 4
                have hfz124_5 := blk_frozen BK397.out 5
                go_wp2_with (first | ((with_reducible refine gate_callee (f := 5) rfl ?_); refine goesL_ (some 21) rfl rfl Tryz.func5 (by kernel_rfl) rfl #[.slice A0_0 l0_0.length c0_0, .slice A1_0 l1_0.length c1_0] rfl (by (try simp only [List.map_toArray, List.map_cons, List.map_nil]); first | done | rfl | (simp only [List.length_drop, List.length_take]; rfl)) ?_; (with_reducible refine (credenzalaw21_same.calls kj2 _ _ l0_0 _ _ l1_0 true _ ?side1 ?side2 ?side3 ?side4 A15.out).mono ?_); (case side1 => repeat (first | exact (Kd.C_below HR0_0.out HB.out) | (with_reducible refine Kd.C_alloc ?_ _) | (with_reducible refine Kd.C_drewN ?_ _) | (with_reducible refine Kd.C_drew ?_))); (case side2 => exact HC0_0.out); (case side3 => repeat (first | exact (Kd.C_below HR1_0.out HB.out) | (with_reducible refine Kd.C_alloc ?_ _) | (with_reducible refine Kd.C_drewN ?_ _) | (with_reducible refine Kd.C_drew ?_))); (case side4 => exact HC1_0.out); rintro e w' ⟨rfl, ⟨nd, rfl⟩⟩; refine ⟨_, rfl, ?_⟩) | ((with_reducible refine gate_callee (f := 6) rfl ?_); refine goesL_ (some 65) rfl rfl Tryz.func6 (by kernel_rfl) rfl #[.agg #[.slice A0_0 l0_0.length c0_0, .int .i64 a0_1, .int .i64 a0_2, .int .i32 a0_3, .int .i64 a0_4, .int .u64 a0_5], .agg #[.slice A1_0 l1_0.length c1_0, .int .i64 a1_1, .int .i64 a1_2, .int .i32 a1_3, .int .i64 a1_4, .int .u64 a1_5]] rfl (by (try simp only [List.map_toArray, List.map_cons, List.map_nil]); first | done | rfl | (simp only [List.length_drop, List.length_take]; rfl)) ?_; (with_reducible refine (gen_Equal.calls kj2 _ _ l0_0 a0_1 a0_2 a0_3 a0_4 a0_5 _ _ l1_0 a1_1 a1_2 a1_3 a1_4 a1_5 t412 _ ?side1 ?side2 ?side3 ?side4 A117.out).mono ?_); (case side1 => repeat (first | exact (Kd.C_below HR0_0.out (by repeat (first | (with_reducible first | exact HB.out | apply below_alloc | apply pw_below_drewN | apply below_drew1 | refine below_set ?_ GE396.out | refine below_set ?_ GE397.out) | exact HB.out))) | (with_reducible refine Kd.C_alloc ?_ _) | (with_reducible refine Kd.C_drewN ?_ _) | (with_reducible refine Kd.C_drew ?_))); (case side2 => exact HC0_0.out); (case side3 => repeat (first | exact (Kd.C_below HR1_0.out (by repeat (first | (with_reducible first | exact HB.out | apply below_alloc | apply pw_below_drewN | apply below_drew1 | refine below_set ?_ GE396.out | refine below_set ?_ GE397.out) | exact HB.out))) | (with_reducible refine Kd.C_alloc ?_ _) | (with_reducible refine Kd.C_drewN ?_ _) | (with_reducible refine Kd.C_drew ?_))); (case side4 => exact HC1_0.out); rintro e w125 ⟨rfl, hb⟩; refine ⟨_, rfl, ?_⟩; have n0_ := Aside0.mk (blk_below (g := gb396) (o := .cells #[.slice A0_0 l0_0.length c0_0, .int .i64 a0_1, .int .i64 a0_2, .int .i32 a0_3, .int .i64 a0_4, .int .u64 a0_5] 27 (0, 0)) (by (with_reducible repeat (first | refine blk_drewN ?_ _ | refine blk_drew ?_ | refine blk_alloc ?_ _)); exact BK396.out) hb); have n1_ := Aside0.mk (blk_below (g := gb397) (o := .cells #[.slice A1_0 l1_0.length c1_0, .int .i64 a1_1, .int .i64 a1_2, .int .i32 a1_3, .int .i64 a1_4, .int .u64 a1_5] 27 (0, 0)) (by (with_reducible repeat (first | refine blk_drewN ?_ _ | refine blk_drew ?_ | refine blk_alloc ?_ _)); exact BK397.out) hb); have n2_ := Aside0.mk (below_step (by repeat (first | (with_reducible first | exact HB.out | apply below_alloc | apply pw_below_drewN | apply below_drew1 | refine below_set ?_ GE396.out | refine below_set ?_ GE397.out) | exact HB.out)) hb); clear BK396; clear BK397; clear HB; have BK396 := n0_; have BK397 := n1_; have HB := n2_; clear n0_ n1_ n2_; (try clear hb); (try clear hb2); (try clear hk); (try clear hi); have hcz126_0 : w125.cell? ⟨gb397, 0, none⟩ = some (.slice A1_0 l1_0.length c1_0) := (blk_cell BK397.out 0).trans rfl; have hcz126_1 : w125.cell? ⟨gb397, 1, none⟩ = some (.int .i64 a1_1) := (blk_cell BK397.out 1).trans rfl; have hcz126_2 : w125.cell? ⟨gb397, 2, none⟩ = some (.int .i64 a1_2) := (blk_cell BK397.out 2).trans rfl; have hcz126_3 : w125.cell? ⟨gb397, 3, none⟩ = some (.int .i32 a1_3) := (blk_cell BK397.out 3).trans rfl; have hcz126_4 : w125.cell? ⟨gb397, 4, none⟩ = some (.int .i64 a1_4) := (blk_cell BK397.out 4).trans rfl; have hcz126_5 : w125.cell? ⟨gb397, 5, none⟩ = some (.int .u64 a1_5) := (blk_cell BK397.out 5).trans rfl; have hfz126_0 := blk_frozen BK397.out 0; have hfz126_1 := blk_frozen BK397.out 1; have hfz126_2 := blk_frozen BK397.out 2; have hfz126_3 := blk_frozen BK397.out 3; have hfz126_4 := blk_frozen BK397.out 4; have hfz126_5 := blk_frozen BK397.out 5; have hcz127_0 : w125.cell? ⟨gb396, 0, none⟩ = some (.slice A0_0 l0_0.length c0_0) := (blk_cell BK396.out 0).trans rfl; have hcz127_1 : w125.cell? ⟨gb396, 1, none⟩ = some (.int .i64 a0_1) := (blk_cell BK396.out 1).trans rfl; have hcz127_2 : w125.cell? ⟨gb396, 2, none⟩ = some (.int .i64 a0_2) := (blk_cell BK396.out 2).trans rfl; have hcz127_3 : w125.cell? ⟨gb396, 3, none⟩ = some (.int .i32 a0_3) := (blk_cell BK396.out 3).trans rfl; have hcz127_4 : w125.cell? ⟨gb396, 4, none⟩ = some (.int .i64 a0_4) := (blk_cell BK396.out 4).trans rfl; have hcz127_5 : w125.cell? ⟨gb396, 5, none⟩ = some (.int .u64 a0_5) := (blk_cell BK396.out 5).trans rfl; have hfz127_0 := blk_frozen BK396.out 0; have hfz127_1 := blk_frozen BK396.out 1; have hfz127_2 := blk_frozen BK396.out 2; have hfz127_3 := blk_frozen BK396.out 3; have hfz127_4 := blk_frozen BK396.out 4; have hfz127_5 := blk_frozen BK396.out 5) | (go_at_call 6; (with_reducible refine (gen_Equal.calls kj2 _ _ l1_0 a1_1 a1_2 a1_3 a1_4 a1_5 _ _ l0_0 a0_1 a0_2 a0_3 a0_4 a0_5 t413 _ ?side1 ?side2 ?side3 ?side4 A119.out).mono ?_); (case side1 => repeat (first | exact (Kd.C_below HR1_0.out HB.out) | (with_reducible refine Kd.C_alloc ?_ _) | (with_reducible refine Kd.C_drewN ?_ _) | (with_reducible refine Kd.C_drew ?_))); (case side2 => exact HC1_0.out); (case side3 => repeat (first | exact (Kd.C_below HR0_0.out HB.out) | (with_reducible refine Kd.C_alloc ?_ _) | (with_reducible refine Kd.C_drewN ?_ _) | (with_reducible refine Kd.C_drew ?_))); (case side4 => exact HC0_0.out); rintro e w128 ⟨rfl, hb⟩; have n0_ := Aside0.mk (blk_below (g := gb396) (o := .cells #[.slice A0_0 l0_0.length c0_0, .int .i64 a0_1, .int .i64 a0_2, .int .i32 a0_3, .int .i64 a0_4, .int .u64 a0_5] 27 (0, 0)) (by (with_reducible repeat (first | refine blk_drewN ?_ _ | refine blk_drew ?_ | refine blk_alloc ?_ _)); exact BK396.out) hb); have n1_ := Aside0.mk (blk_below (g := gb397) (o := .cells #[.slice A1_0 l1_0.length c1_0, .int .i64 a1_1, .int .i64 a1_2, .int .i32 a1_3, .int .i64 a1_4, .int .u64 a1_5] 27 (0, 0)) (by (with_reducible repeat (first | refine blk_drewN ?_ _ | refine blk_drew ?_ | refine blk_alloc ?_ _)); exact BK397.out) hb); have n2_ := Aside0.mk (below_step (by repeat (first | (with_reducible first | exact HB.out | apply below_alloc | apply pw_below_drewN | apply below_drew1 | refine below_set ?_ GE396.out | refine below_set ?_ GE397.out) | exact HB.out)) hb); clear BK396; clear BK397; clear HB; have BK396 := n0_; have BK397 := n1_; have HB := n2_; clear n0_ n1_ n2_; (try clear hb); (try clear hb2); (try clear hk); (try clear hi)) | (go_at_call 4; (with_reducible refine (credenzalaw21_awake.calls  t414 _ A121.out).mono ?_); rintro e w129 ⟨rfl, hb⟩; have n0_ := Aside0.mk (blk_below (g := gb396) (o := .cells #[.slice A0_0 l0_0.length c0_0, .int .i64 a0_1, .int .i64 a0_2, .int .i32 a0_3, .int .i64 a0_4, .int .u64 a0_5] 27 (0, 0)) (by (with_reducible repeat (first | refine blk_drewN ?_ _ | refine blk_drew ?_ | refine blk_alloc ?_ _)); exact BK396.out) hb); have n1_ := Aside0.mk (blk_below (g := gb397) (o := .cells #[.slice A1_0 l1_0.length c1_0, .int .i64 a1_1, .int .i64 a1_2, .int .i32 a1_3, .int .i64 a1_4, .int .u64 a1_5] 27 (0, 0)) (by (with_reducible repeat (first | refine blk_drewN ?_ _ | refine blk_drew ?_ | refine blk_alloc ?_ _)); exact BK397.out) hb); have n2_ := Aside0.mk (below_step (by repeat (first | (with_reducible first | exact HB.out | apply below_alloc | apply pw_below_drewN | apply below_drew1 | refine below_set ?_ GE396.out | refine below_set ?_ GE397.out) | exact HB.out)) hb); clear BK396; clear BK397; clear HB; have BK396 := n0_; have BK397 := n1_; have HB := n2_; clear n0_ n1_ n2_; (try clear hb); (try clear hb2); (try clear hk); (try clear hi)))
                go_ret
                exact ⟨by first | rfl | (simp [errW_none, errW_some] <;> rfl) | (simp [*, errW_none, errW_some] <;> rfl), by repeat (first | (with_reducible first | exact HB.out | apply below_alloc | apply pw_below_drewN | apply below_drew1 | refine below_set ?_ GE396.out | refine below_set ?_ GE397.out) | exact HB.out)⟩
              · rw [if_neg c120] at H
                have c120b0 : (t413 == false) = false := by simpa using c120
                (try (have c120b1 : decide (t413 = false) = false := by simpa using c120))
                (try (have c120b2 : (t413 == false) = false := by simpa using c120))
                (try (have c120b3 : ¬ (t413 = false) := by simpa using c120))
                clear c120
                obtain rfl := Option.some.inj H
                have hnb130 := NB396_397.out
                have hnc130 := NB397_396.out
                have hcz131_0 : wc.cell? ⟨gb396, 0, none⟩ = some (.slice A0_0 l0_0.length c0_0) := (blk_cell BK396.out 0).trans rfl
                have hcz131_1 : wc.cell? ⟨gb396, 1, none⟩ = some (.int .i64 a0_1) := (blk_cell BK396.out 1).trans rfl
                have hcz131_2 : wc.cell? ⟨gb396, 2, none⟩ = some (.int .i64 a0_2) := (blk_cell BK396.out 2).trans rfl
                have hcz131_3 : wc.cell? ⟨gb396, 3, none⟩ = some (.int .i32 a0_3) := (blk_cell BK396.out 3).trans rfl
                have hcz131_4 : wc.cell? ⟨gb396, 4, none⟩ = some (.int .i64 a0_4) := (blk_cell BK396.out 4).trans rfl
                have hcz131_5 : wc.cell? ⟨gb396, 5, none⟩ = some (.int .u64 a0_5) := (blk_cell BK396.out 5).trans rfl
                have hfz131_0 := blk_frozen BK396.out 0
                have hfz131_1 := blk_frozen BK396.out 1
                have hfz131_2 := blk_frozen BK396.out 2
                have hfz131_3 := blk_frozen BK396.out 3
                have hfz131_4 := blk_frozen BK396.out 4
                have hfz131_5 := blk_frozen BK396.out 5
                have hcz132_0 : wc.cell? ⟨gb397, 0, none⟩ = some (.slice A1_0 l1_0.length c1_0) := (blk_cell BK397.out 0).trans rfl
                have hcz132_1 : wc.cell? ⟨gb397, 1, none⟩ = some (.int .i64 a1_1) := (blk_cell BK397.out 1).trans rfl
                have hcz132_2 : wc.cell? ⟨gb397, 2, none⟩ = some (.int .i64 a1_2) := (blk_cell BK397.out 2).trans rfl
                have hcz132_3 : wc.cell? ⟨gb397, 3, none⟩ = some (.int .i32 a1_3) := (blk_cell BK397.out 3).trans rfl
                have hcz132_4 : wc.cell? ⟨gb397, 4, none⟩ = some (.int .i64 a1_4) := (blk_cell BK397.out 4).trans rfl
                have hcz132_5 : wc.cell? ⟨gb397, 5, none⟩ = some (.int .u64 a1_5) := (blk_cell BK397.out 5).trans rfl
                have hfz132_0 := blk_frozen BK397.out 0
                have hfz132_1 := blk_frozen BK397.out 1
                have hfz132_2 := blk_frozen BK397.out 2
                have hfz132_3 := blk_frozen BK397.out 3
                have hfz132_4 := blk_frozen BK397.out 4
                have hfz132_5 := blk_frozen BK397.out 5
                go_wp2_with (first | ((with_reducible refine gate_callee (f := 5) rfl ?_); refine goesL_ (some 21) rfl rfl Tryz.func5 (by kernel_rfl) rfl #[.slice A0_0 l0_0.length c0_0, .slice A1_0 l1_0.length c1_0] rfl (by (try simp only [List.map_toArray, List.map_cons, List.map_nil]); first | done | rfl | (simp only [List.length_drop, List.length_take]; rfl)) ?_; (with_reducible refine (credenzalaw21_same.calls kj2 _ _ l0_0 _ _ l1_0 true _ ?side1 ?side2 ?side3 ?side4 A15.out).mono ?_); (case side1 => repeat (first | exact (Kd.C_below HR0_0.out HB.out) | (with_reducible refine Kd.C_alloc ?_ _) | (with_reducible refine Kd.C_drewN ?_ _) | (with_reducible refine Kd.C_drew ?_))); (case side2 => exact HC0_0.out); (case side3 => repeat (first | exact (Kd.C_below HR1_0.out HB.out) | (with_reducible refine Kd.C_alloc ?_ _) | (with_reducible refine Kd.C_drewN ?_ _) | (with_reducible refine Kd.C_drew ?_))); (case side4 => exact HC1_0.out); rintro e w' ⟨rfl, ⟨nd, rfl⟩⟩; refine ⟨_, rfl, ?_⟩) | ((with_reducible refine gate_callee (f := 6) rfl ?_); refine goesL_ (some 65) rfl rfl Tryz.func6 (by kernel_rfl) rfl #[.agg #[.slice A0_0 l0_0.length c0_0, .int .i64 a0_1, .int .i64 a0_2, .int .i32 a0_3, .int .i64 a0_4, .int .u64 a0_5], .agg #[.slice A1_0 l1_0.length c1_0, .int .i64 a1_1, .int .i64 a1_2, .int .i32 a1_3, .int .i64 a1_4, .int .u64 a1_5]] rfl (by (try simp only [List.map_toArray, List.map_cons, List.map_nil]); first | done | rfl | (simp only [List.length_drop, List.length_take]; rfl)) ?_; (with_reducible refine (gen_Equal.calls kj2 _ _ l0_0 a0_1 a0_2 a0_3 a0_4 a0_5 _ _ l1_0 a1_1 a1_2 a1_3 a1_4 a1_5 t412 _ ?side1 ?side2 ?side3 ?side4 A117.out).mono ?_); (case side1 => repeat (first | exact (Kd.C_below HR0_0.out (by repeat (first | (with_reducible first | exact HB.out | apply below_alloc | apply pw_below_drewN | apply below_drew1 | refine below_set ?_ GE396.out | refine below_set ?_ GE397.out) | exact HB.out))) | (with_reducible refine Kd.C_alloc ?_ _) | (with_reducible refine Kd.C_drewN ?_ _) | (with_reducible refine Kd.C_drew ?_))); (case side2 => exact HC0_0.out); (case side3 => repeat (first | exact (Kd.C_below HR1_0.out (by repeat (first | (with_reducible first | exact HB.out | apply below_alloc | apply pw_below_drewN | apply below_drew1 | refine below_set ?_ GE396.out | refine below_set ?_ GE397.out) | exact HB.out))) | (with_reducible refine Kd.C_alloc ?_ _) | (with_reducible refine Kd.C_drewN ?_ _) | (with_reducible refine Kd.C_drew ?_))); (case side4 => exact HC1_0.out); rintro e w133 ⟨rfl, hb⟩; refine ⟨_, rfl, ?_⟩; have n0_ := Aside0.mk (blk_below (g := gb396) (o := .cells #[.slice A0_0 l0_0.length c0_0, .int .i64 a0_1, .int .i64 a0_2, .int .i32 a0_3, .int .i64 a0_4, .int .u64 a0_5] 27 (0, 0)) (by (with_reducible repeat (first | refine blk_drewN ?_ _ | refine blk_drew ?_ | refine blk_alloc ?_ _)); exact BK396.out) hb); have n1_ := Aside0.mk (blk_below (g := gb397) (o := .cells #[.slice A1_0 l1_0.length c1_0, .int .i64 a1_1, .int .i64 a1_2, .int .i32 a1_3, .int .i64 a1_4, .int .u64 a1_5] 27 (0, 0)) (by (with_reducible repeat (first | refine blk_drewN ?_ _ | refine blk_drew ?_ | refine blk_alloc ?_ _)); exact BK397.out) hb); have n2_ := Aside0.mk (below_step (by repeat (first | (with_reducible first | exact HB.out | apply below_alloc | apply pw_below_drewN | apply below_drew1 | refine below_set ?_ GE396.out | refine below_set ?_ GE397.out) | exact HB.out)) hb); clear BK396; clear BK397; clear HB; have BK396 := n0_; have BK397 := n1_; have HB := n2_; clear n0_ n1_ n2_; (try clear hb); (try clear hb2); (try clear hk); (try clear hi); have hcz134_0 : w133.cell? ⟨gb397, 0, none⟩ = some (.slice A1_0 l1_0.length c1_0) := (blk_cell BK397.out 0).trans rfl; have hcz134_1 : w133.cell? ⟨gb397, 1, none⟩ = some (.int .i64 a1_1) := (blk_cell BK397.out 1).trans rfl; have hcz134_2 : w133.cell? ⟨gb397, 2, none⟩ = some (.int .i64 a1_2) := (blk_cell BK397.out 2).trans rfl; have hcz134_3 : w133.cell? ⟨gb397, 3, none⟩ = some (.int .i32 a1_3) := (blk_cell BK397.out 3).trans rfl; have hcz134_4 : w133.cell? ⟨gb397, 4, none⟩ = some (.int .i64 a1_4) := (blk_cell BK397.out 4).trans rfl; have hcz134_5 : w133.cell? ⟨gb397, 5, none⟩ = some (.int .u64 a1_5) := (blk_cell BK397.out 5).trans rfl; have hfz134_0 := blk_frozen BK397.out 0; have hfz134_1 := blk_frozen BK397.out 1; have hfz134_2 := blk_frozen BK397.out 2; have hfz134_3 := blk_frozen BK397.out 3; have hfz134_4 := blk_frozen BK397.out 4; have hfz134_5 := blk_frozen BK397.out 5; have hcz135_0 : w133.cell? ⟨gb396, 0, none⟩ = some (.slice A0_0 l0_0.length c0_0) := (blk_cell BK396.out 0).trans rfl; have hcz135_1 : w133.cell? ⟨gb396, 1, none⟩ = some (.int .i64 a0_1) := (blk_cell BK396.out 1).trans rfl; have hcz135_2 : w133.cell? ⟨gb396, 2, none⟩ = some (.int .i64 a0_2) := (blk_cell BK396.out 2).trans rfl; have hcz135_3 : w133.cell? ⟨gb396, 3, none⟩ = some (.int .i32 a0_3) := (blk_cell BK396.out 3).trans rfl; have hcz135_4 : w133.cell? ⟨gb396, 4, none⟩ = some (.int .i64 a0_4) := (blk_cell BK396.out 4).trans rfl; have hcz135_5 : w133.cell? ⟨gb396, 5, none⟩ = some (.int .u64 a0_5) := (blk_cell BK396.out 5).trans rfl; have hfz135_0 := blk_frozen BK396.out 0; have hfz135_1 := blk_frozen BK396.out 1; have hfz135_2 := blk_frozen BK396.out 2; have hfz135_3 := blk_frozen BK396.out 3; have hfz135_4 := blk_frozen BK396.out 4; have hfz135_5 := blk_frozen BK396.out 5) | (go_at_call 6; (with_reducible refine (gen_Equal.calls kj2 _ _ l1_0 a1_1 a1_2 a1_3 a1_4 a1_5 _ _ l0_0 a0_1 a0_2 a0_3 a0_4 a0_5 t413 _ ?side1 ?side2 ?side3 ?side4 A119.out).mono ?_); (case side1 => repeat (first | exact (Kd.C_below HR1_0.out HB.out) | (with_reducible refine Kd.C_alloc ?_ _) | (with_reducible refine Kd.C_drewN ?_ _) | (with_reducible refine Kd.C_drew ?_))); (case side2 => exact HC1_0.out); (case side3 => repeat (first | exact (Kd.C_below HR0_0.out HB.out) | (with_reducible refine Kd.C_alloc ?_ _) | (with_reducible refine Kd.C_drewN ?_ _) | (with_reducible refine Kd.C_drew ?_))); (case side4 => exact HC0_0.out); rintro e w136 ⟨rfl, hb⟩; have n0_ := Aside0.mk (blk_below (g := gb396) (o := .cells #[.slice A0_0 l0_0.length c0_0, .int .i64 a0_1, .int .i64 a0_2, .int .i32 a0_3, .int .i64 a0_4, .int .u64 a0_5] 27 (0, 0)) (by (with_reducible repeat (first | refine blk_drewN ?_ _ | refine blk_drew ?_ | refine blk_alloc ?_ _)); exact BK396.out) hb); have n1_ := Aside0.mk (blk_below (g := gb397) (o := .cells #[.slice A1_0 l1_0.length c1_0, .int .i64 a1_1, .int .i64 a1_2, .int .i32 a1_3, .int .i64 a1_4, .int .u64 a1_5] 27 (0, 0)) (by (with_reducible repeat (first | refine blk_drewN ?_ _ | refine blk_drew ?_ | refine blk_alloc ?_ _)); exact BK397.out) hb); have n2_ := Aside0.mk (below_step (by repeat (first | (with_reducible first | exact HB.out | apply below_alloc | apply pw_below_drewN | apply below_drew1 | refine below_set ?_ GE396.out | refine below_set ?_ GE397.out) | exact HB.out)) hb); clear BK396; clear BK397; clear HB; have BK396 := n0_; have BK397 := n1_; have HB := n2_; clear n0_ n1_ n2_; (try clear hb); (try clear hb2); (try clear hk); (try clear hi)))
                go_ret
                exact ⟨by first | rfl | (simp [errW_none, errW_some] <;> rfl) | (simp [*, errW_none, errW_some] <;> rfl), by repeat (first | (with_reducible first | exact HB.out | apply below_alloc | apply pw_below_drewN | apply below_drew1 | refine below_set ?_ GE396.out | refine below_set ?_ GE397.out) | exact HB.out)⟩
            · rw [if_neg c118] at H
              have c118b0 : (t412 == false) = false := by simpa using c118
              (try (have c118b1 : decide (t412 = false) = false := by simpa using c118))
              (try (have c118b2 : (t412 == false) = false := by simpa using c118))
              (try (have c118b3 : ¬ (t412 = false) := by simpa using c118))
              clear c118
              obtain rfl := Option.some.inj H
              have hnb137 := NB396_397.out
              have hnc137 := NB397_396.out
              have hcz138_0 : wc.cell? ⟨gb396, 0, none⟩ = some (.slice A0_0 l0_0.length c0_0) := (blk_cell BK396.out 0).trans rfl
              have hcz138_1 : wc.cell? ⟨gb396, 1, none⟩ = some (.int .i64 a0_1) := (blk_cell BK396.out 1).trans rfl
              have hcz138_2 : wc.cell? ⟨gb396, 2, none⟩ = some (.int .i64 a0_2) := (blk_cell BK396.out 2).trans rfl
              have hcz138_3 : wc.cell? ⟨gb396, 3, none⟩ = some (.int .i32 a0_3) := (blk_cell BK396.out 3).trans rfl
              have hcz138_4 : wc.cell? ⟨gb396, 4, none⟩ = some (.int .i64 a0_4) := (blk_cell BK396.out 4).trans rfl
              have hcz138_5 : wc.cell? ⟨gb396, 5, none⟩ = some (.int .u64 a0_5) := (blk_cell BK396.out 5).trans rfl
              have hfz138_0 := blk_frozen BK396.out 0
              have hfz138_1 := blk_frozen BK396.out 1
              have hfz138_2 := blk_frozen BK396.out 2
              have hfz138_3 := blk_frozen BK396.out 3
              have hfz138_4 := blk_frozen BK396.out 4
              have hfz138_5 := blk_frozen BK396.out 5
              have hcz139_0 : wc.cell? ⟨gb397, 0, none⟩ = some (.slice A1_0 l1_0.length c1_0) := (blk_cell BK397.out 0).trans rfl
              have hcz139_1 : wc.cell? ⟨gb397, 1, none⟩ = some (.int .i64 a1_1) := (blk_cell BK397.out 1).trans rfl
              have hcz139_2 : wc.cell? ⟨gb397, 2, none⟩ = some (.int .i64 a1_2) := (blk_cell BK397.out 2).trans rfl
              have hcz139_3 : wc.cell? ⟨gb397, 3, none⟩ = some (.int .i32 a1_3) := (blk_cell BK397.out 3).trans rfl
              have hcz139_4 : wc.cell? ⟨gb397, 4, none⟩ = some (.int .i64 a1_4) := (blk_cell BK397.out 4).trans rfl
              have hcz139_5 : wc.cell? ⟨gb397, 5, none⟩ = some (.int .u64 a1_5) := (blk_cell BK397.out 5).trans rfl
              have hfz139_0 := blk_frozen BK397.out 0
              have hfz139_1 := blk_frozen BK397.out 1
              have hfz139_2 := blk_frozen BK397.out 2
              have hfz139_3 := blk_frozen BK397.out 3
              have hfz139_4 := blk_frozen BK397.out 4
              have hfz139_5 := blk_frozen BK397.out 5
              go_wp2_with (first | ((with_reducible refine gate_callee (f := 5) rfl ?_); refine goesL_ (some 21) rfl rfl Tryz.func5 (by kernel_rfl) rfl #[.slice A0_0 l0_0.length c0_0, .slice A1_0 l1_0.length c1_0] rfl (by (try simp only [List.map_toArray, List.map_cons, List.map_nil]); first | done | rfl | (simp only [List.length_drop, List.length_take]; rfl)) ?_; (with_reducible refine (credenzalaw21_same.calls kj2 _ _ l0_0 _ _ l1_0 true _ ?side1 ?side2 ?side3 ?side4 A15.out).mono ?_); (case side1 => repeat (first | exact (Kd.C_below HR0_0.out HB.out) | (with_reducible refine Kd.C_alloc ?_ _) | (with_reducible refine Kd.C_drewN ?_ _) | (with_reducible refine Kd.C_drew ?_))); (case side2 => exact HC0_0.out); (case side3 => repeat (first | exact (Kd.C_below HR1_0.out HB.out) | (with_reducible refine Kd.C_alloc ?_ _) | (with_reducible refine Kd.C_drewN ?_ _) | (with_reducible refine Kd.C_drew ?_))); (case side4 => exact HC1_0.out); rintro e w' ⟨rfl, ⟨nd, rfl⟩⟩; refine ⟨_, rfl, ?_⟩) | ((with_reducible refine gate_callee (f := 6) rfl ?_); refine goesL_ (some 65) rfl rfl Tryz.func6 (by kernel_rfl) rfl #[.agg #[.slice A0_0 l0_0.length c0_0, .int .i64 a0_1, .int .i64 a0_2, .int .i32 a0_3, .int .i64 a0_4, .int .u64 a0_5], .agg #[.slice A1_0 l1_0.length c1_0, .int .i64 a1_1, .int .i64 a1_2, .int .i32 a1_3, .int .i64 a1_4, .int .u64 a1_5]] rfl (by (try simp only [List.map_toArray, List.map_cons, List.map_nil]); first | done | rfl | (simp only [List.length_drop, List.length_take]; rfl)) ?_; (with_reducible refine (gen_Equal.calls kj2 _ _ l0_0 a0_1 a0_2 a0_3 a0_4 a0_5 _ _ l1_0 a1_1 a1_2 a1_3 a1_4 a1_5 t412 _ ?side1 ?side2 ?side3 ?side4 A117.out).mono ?_); (case side1 => repeat (first | exact (Kd.C_below HR0_0.out (by repeat (first | (with_reducible first | exact HB.out | apply below_alloc | apply pw_below_drewN | apply below_drew1 | refine below_set ?_ GE396.out | refine below_set ?_ GE397.out) | exact HB.out))) | (with_reducible refine Kd.C_alloc ?_ _) | (with_reducible refine Kd.C_drewN ?_ _) | (with_reducible refine Kd.C_drew ?_))); (case side2 => exact HC0_0.out); (case side3 => repeat (first | exact (Kd.C_below HR1_0.out (by repeat (first | (with_reducible first | exact HB.out | apply below_alloc | apply pw_below_drewN | apply below_drew1 | refine below_set ?_ GE396.out | refine below_set ?_ GE397.out) | exact HB.out))) | (with_reducible refine Kd.C_alloc ?_ _) | (with_reducible refine Kd.C_drewN ?_ _) | (with_reducible refine Kd.C_drew ?_))); (case side4 => exact HC1_0.out); rintro e w140 ⟨rfl, hb⟩; refine ⟨_, rfl, ?_⟩; have n0_ := Aside0.mk (blk_below (g := gb396) (o := .cells #[.slice A0_0 l0_0.length c0_0, .int .i64 a0_1, .int .i64 a0_2, .int .i32 a0_3, .int .i64 a0_4, .int .u64 a0_5] 27 (0, 0)) (by (with_reducible repeat (first | refine blk_drewN ?_ _ | refine blk_drew ?_ | refine blk_alloc ?_ _)); exact BK396.out) hb); have n1_ := Aside0.mk (blk_below (g := gb397) (o := .cells #[.slice A1_0 l1_0.length c1_0, .int .i64 a1_1, .int .i64 a1_2, .int .i32 a1_3, .int .i64 a1_4, .int .u64 a1_5] 27 (0, 0)) (by (with_reducible repeat (first | refine blk_drewN ?_ _ | refine blk_drew ?_ | refine blk_alloc ?_ _)); exact BK397.out) hb); have n2_ := Aside0.mk (below_step (by repeat (first | (with_reducible first | exact HB.out | apply below_alloc | apply pw_below_drewN | apply below_drew1 | refine below_set ?_ GE396.out | refine below_set ?_ GE397.out) | exact HB.out)) hb); clear BK396; clear BK397; clear HB; have BK396 := n0_; have BK397 := n1_; have HB := n2_; clear n0_ n1_ n2_; (try clear hb); (try clear hb2); (try clear hk); (try clear hi)))
              go_ret
              exact ⟨by first | rfl | (simp [errW_none, errW_some] <;> rfl) | (simp [*, errW_none, errW_some] <;> rfl), by repeat (first | (with_reducible first | exact HB.out | apply below_alloc | apply pw_below_drewN | apply below_drew1 | refine below_set ?_ GE396.out | refine below_set ?_ GE397.out) | exact HB.out)⟩
        · replace c16 := Bool.eq_false_iff.mpr c16
          subst c16
          have H1 : ((gen_Equal.f kj2 l0_0 a0_1 a0_2 a0_3 a0_4 a0_5 l1_0 a1_1 a1_2 a1_3 a1_4 a1_5).bind fun t415 => (if (t415 == false) = true then ((gen_Equal.f kj2 l1_0 a1_1 a1_2 a1_3 a1_4 a1_5 l0_0 a0_1 a0_2 a0_3 a0_4 a0_5).bind fun t416 => (if (t416 == false) = true then ((credenzalaw21_awake.f).bind fun t417 => (some t417)) else (some false))) else (some false))) = some r := by rw [if_neg (show ¬ (false = true) by decide)] at H; exact H
          clear H
          have H := H1
          clear H1
          replace H := Option.bind_eq_some_iff.mp H
          obtain ⟨t415, A1410, H⟩ := H
          replace H : (if (t415 == false) = true then ((gen_Equal.f kj2 l1_0 a1_1 a1_2 a1_3 a1_4 a1_5 l0_0 a0_1 a0_2 a0_3 a0_4 a0_5).bind fun t416 => (if (t416 == false) = true then ((credenzalaw21_awake.f).bind fun t417 => (some t417)) else (some false))) else (some false)) = some r := H
          have A141 := Aside0.mk A1410
          clear A1410
          by_cases c142 : (t415 == false) = true
          · rw [if_pos c142] at H
            have c142b0 : (t415 == false) = true := c142
            (try (have c142b1 : decide (t415 = false) = true := by simpa using c142))
            (try (have c142b2 : (t415 == false) = true := by simpa using c142))
            clear c142
            replace H := Option.bind_eq_some_iff.mp H
            obtain ⟨t416, A1430, H⟩ := H
            replace H : (if (t416 == false) = true then ((credenzalaw21_awake.f).bind fun t417 => (some t417)) else (some false)) = some r := H
            have A143 := Aside0.mk A1430
            clear A1430
            by_cases c144 : (t416 == false) = true
            · rw [if_pos c144] at H
              have c144b0 : (t416 == false) = true := c144
              (try (have c144b1 : decide (t416 = false) = true := by simpa using c144))
              (try (have c144b2 : (t416 == false) = true := by simpa using c144))
              clear c144
              replace H := Option.bind_eq_some_iff.mp H
              obtain ⟨t417, A1450, H⟩ := H
              replace H : (some t417) = some r := H
              have A145 := Aside0.mk A1450
              clear A1450
              obtain rfl := Option.some.inj H
              have hnb146 := NB396_397.out
              have hnc146 := NB397_396.out
              have hcz147_0 : wc.cell? ⟨gb396, 0, none⟩ = some (.slice A0_0 l0_0.length c0_0) := (blk_cell BK396.out 0).trans rfl
              have hcz147_1 : wc.cell? ⟨gb396, 1, none⟩ = some (.int .i64 a0_1) := (blk_cell BK396.out 1).trans rfl
              have hcz147_2 : wc.cell? ⟨gb396, 2, none⟩ = some (.int .i64 a0_2) := (blk_cell BK396.out 2).trans rfl
              have hcz147_3 : wc.cell? ⟨gb396, 3, none⟩ = some (.int .i32 a0_3) := (blk_cell BK396.out 3).trans rfl
              have hcz147_4 : wc.cell? ⟨gb396, 4, none⟩ = some (.int .i64 a0_4) := (blk_cell BK396.out 4).trans rfl
              have hcz147_5 : wc.cell? ⟨gb396, 5, none⟩ = some (.int .u64 a0_5) := (blk_cell BK396.out 5).trans rfl
              have hfz147_0 := blk_frozen BK396.out 0
              have hfz147_1 := blk_frozen BK396.out 1
              have hfz147_2 := blk_frozen BK396.out 2
              have hfz147_3 := blk_frozen BK396.out 3
              have hfz147_4 := blk_frozen BK396.out 4
              have hfz147_5 := blk_frozen BK396.out 5
              have hcz148_0 : wc.cell? ⟨gb397, 0, none⟩ = some (.slice A1_0 l1_0.length c1_0) := (blk_cell BK397.out 0).trans rfl
              have hcz148_1 : wc.cell? ⟨gb397, 1, none⟩ = some (.int .i64 a1_1) := (blk_cell BK397.out 1).trans rfl
              have hcz148_2 : wc.cell? ⟨gb397, 2, none⟩ = some (.int .i64 a1_2) := (blk_cell BK397.out 2).trans rfl
              have hcz148_3 : wc.cell? ⟨gb397, 3, none⟩ = some (.int .i32 a1_3) := (blk_cell BK397.out 3).trans rfl
              have hcz148_4 : wc.cell? ⟨gb397, 4, none⟩ = some (.int .i64 a1_4) := (blk_cell BK397.out 4).trans rfl
              have hcz148_5 : wc.cell? ⟨gb397, 5, none⟩ = some (.int .u64 a1_5) := (blk_cell BK397.out 5).trans rfl
              have hfz148_0 := blk_frozen BK397.out 0
              have hfz148_1 := blk_frozen BK397.out 1
              have hfz148_2 := blk_frozen BK397.out 2
              have hfz148_3 := blk_frozen BK397.out 3
              have hfz148_4 := blk_frozen BK397.out 4
              have hfz148_5 := blk_frozen BK397.out 5
              go_wp2_with (first | ((with_reducible refine gate_callee (f := 5) rfl ?_); refine goesL_ (some 21) rfl rfl Tryz.func5 (by kernel_rfl) rfl #[.slice A0_0 l0_0.length c0_0, .slice A1_0 l1_0.length c1_0] rfl (by (try simp only [List.map_toArray, List.map_cons, List.map_nil]); first | done | rfl | (simp only [List.length_drop, List.length_take]; rfl)) ?_; (with_reducible refine (credenzalaw21_same.calls kj2 _ _ l0_0 _ _ l1_0 false _ ?side1 ?side2 ?side3 ?side4 A15.out).mono ?_); (case side1 => repeat (first | exact (Kd.C_below HR0_0.out HB.out) | (with_reducible refine Kd.C_alloc ?_ _) | (with_reducible refine Kd.C_drewN ?_ _) | (with_reducible refine Kd.C_drew ?_))); (case side2 => exact HC0_0.out); (case side3 => repeat (first | exact (Kd.C_below HR1_0.out HB.out) | (with_reducible refine Kd.C_alloc ?_ _) | (with_reducible refine Kd.C_drewN ?_ _) | (with_reducible refine Kd.C_drew ?_))); (case side4 => exact HC1_0.out); rintro e w' ⟨rfl, ⟨nd, rfl⟩⟩; refine ⟨_, rfl, ?_⟩) | ((with_reducible refine gate_callee (f := 6) rfl ?_); refine goesL_ (some 65) rfl rfl Tryz.func6 (by kernel_rfl) rfl #[.agg #[.slice A0_0 l0_0.length c0_0, .int .i64 a0_1, .int .i64 a0_2, .int .i32 a0_3, .int .i64 a0_4, .int .u64 a0_5], .agg #[.slice A1_0 l1_0.length c1_0, .int .i64 a1_1, .int .i64 a1_2, .int .i32 a1_3, .int .i64 a1_4, .int .u64 a1_5]] rfl (by (try simp only [List.map_toArray, List.map_cons, List.map_nil]); first | done | rfl | (simp only [List.length_drop, List.length_take]; rfl)) ?_; (with_reducible refine (gen_Equal.calls kj2 _ _ l0_0 a0_1 a0_2 a0_3 a0_4 a0_5 _ _ l1_0 a1_1 a1_2 a1_3 a1_4 a1_5 t415 _ ?side1 ?side2 ?side3 ?side4 A141.out).mono ?_); (case side1 => repeat (first | exact (Kd.C_below HR0_0.out (by repeat (first | (with_reducible first | exact HB.out | apply below_alloc | apply pw_below_drewN | apply below_drew1 | refine below_set ?_ GE396.out | refine below_set ?_ GE397.out) | exact HB.out))) | (with_reducible refine Kd.C_alloc ?_ _) | (with_reducible refine Kd.C_drewN ?_ _) | (with_reducible refine Kd.C_drew ?_))); (case side2 => exact HC0_0.out); (case side3 => repeat (first | exact (Kd.C_below HR1_0.out (by repeat (first | (with_reducible first | exact HB.out | apply below_alloc | apply pw_below_drewN | apply below_drew1 | refine below_set ?_ GE396.out | refine below_set ?_ GE397.out) | exact HB.out))) | (with_reducible refine Kd.C_alloc ?_ _) | (with_reducible refine Kd.C_drewN ?_ _) | (with_reducible refine Kd.C_drew ?_))); (case side4 => exact HC1_0.out); rintro e w149 ⟨rfl, hb⟩; refine ⟨_, rfl, ?_⟩; have n0_ := Aside0.mk (blk_below (g := gb396) (o := .cells #[.slice A0_0 l0_0.length c0_0, .int .i64 a0_1, .int .i64 a0_2, .int .i32 a0_3, .int .i64 a0_4, .int .u64 a0_5] 27 (0, 0)) (by (with_reducible repeat (first | refine blk_drewN ?_ _ | refine blk_drew ?_ | refine blk_alloc ?_ _)); exact BK396.out) hb); have n1_ := Aside0.mk (blk_below (g := gb397) (o := .cells #[.slice A1_0 l1_0.length c1_0, .int .i64 a1_1, .int .i64 a1_2, .int .i32 a1_3, .int .i64 a1_4, .int .u64 a1_5] 27 (0, 0)) (by (with_reducible repeat (first | refine blk_drewN ?_ _ | refine blk_drew ?_ | refine blk_alloc ?_ _)); exact BK397.out) hb); have n2_ := Aside0.mk (below_step (by repeat (first | (with_reducible first | exact HB.out | apply below_alloc | apply pw_below_drewN | apply below_drew1 | refine below_set ?_ GE396.out | refine below_set ?_ GE397.out) | exact HB.out)) hb); clear BK396; clear BK397; clear HB; have BK396 := n0_; have BK397 := n1_; have HB := n2_; clear n0_ n1_ n2_; (try clear hb); (try clear hb2); (try clear hk); (try clear hi); have hcz150_0 : w149.cell? ⟨gb397, 0, none⟩ = some (.slice A1_0 l1_0.length c1_0) := (blk_cell BK397.out 0).trans rfl; have hcz150_1 : w149.cell? ⟨gb397, 1, none⟩ = some (.int .i64 a1_1) := (blk_cell BK397.out 1).trans rfl; have hcz150_2 : w149.cell? ⟨gb397, 2, none⟩ = some (.int .i64 a1_2) := (blk_cell BK397.out 2).trans rfl; have hcz150_3 : w149.cell? ⟨gb397, 3, none⟩ = some (.int .i32 a1_3) := (blk_cell BK397.out 3).trans rfl; have hcz150_4 : w149.cell? ⟨gb397, 4, none⟩ = some (.int .i64 a1_4) := (blk_cell BK397.out 4).trans rfl; have hcz150_5 : w149.cell? ⟨gb397, 5, none⟩ = some (.int .u64 a1_5) := (blk_cell BK397.out 5).trans rfl; have hfz150_0 := blk_frozen BK397.out 0; have hfz150_1 := blk_frozen BK397.out 1; have hfz150_2 := blk_frozen BK397.out 2; have hfz150_3 := blk_frozen BK397.out 3; have hfz150_4 := blk_frozen BK397.out 4; have hfz150_5 := blk_frozen BK397.out 5; have hcz151_0 : w149.cell? ⟨gb396, 0, none⟩ = some (.slice A0_0 l0_0.length c0_0) := (blk_cell BK396.out 0).trans rfl; have hcz151_1 : w149.cell? ⟨gb396, 1, none⟩ = some (.int .i64 a0_1) := (blk_cell BK396.out 1).trans rfl; have hcz151_2 : w149.cell? ⟨gb396, 2, none⟩ = some (.int .i64 a0_2) := (blk_cell BK396.out 2).trans rfl; have hcz151_3 : w149.cell? ⟨gb396, 3, none⟩ = some (.int .i32 a0_3) := (blk_cell BK396.out 3).trans rfl; have hcz151_4 : w149.cell? ⟨gb396, 4, none⟩ = some (.int .i64 a0_4) := (blk_cell BK396.out 4).trans rfl; have hcz151_5 : w149.cell? ⟨gb396, 5, none⟩ = some (.int .u64 a0_5) := (blk_cell BK396.out 5).trans rfl; have hfz151_0 := blk_frozen BK396.out 0; have hfz151_1 := blk_frozen BK396.out 1; have hfz151_2 := blk_frozen BK396.out 2; have hfz151_3 := blk_frozen BK396.out 3; have hfz151_4 := blk_frozen BK396.out 4; have hfz151_5 := blk_frozen BK396.out 5) | (go_at_call 6; (with_reducible refine (gen_Equal.calls kj2 _ _ l1_0 a1_1 a1_2 a1_3 a1_4 a1_5 _ _ l0_0 a0_1 a0_2 a0_3 a0_4 a0_5 t416 _ ?side1 ?side2 ?side3 ?side4 A143.out).mono ?_); (case side1 => repeat (first | exact (Kd.C_below HR1_0.out HB.out) | (with_reducible refine Kd.C_alloc ?_ _) | (with_reducible refine Kd.C_drewN ?_ _) | (with_reducible refine Kd.C_drew ?_))); (case side2 => exact HC1_0.out); (case side3 => repeat (first | exact (Kd.C_below HR0_0.out HB.out) | (with_reducible refine Kd.C_alloc ?_ _) | (with_reducible refine Kd.C_drewN ?_ _) | (with_reducible refine Kd.C_drew ?_))); (case side4 => exact HC0_0.out); rintro e w152 ⟨rfl, hb⟩; have n0_ := Aside0.mk (blk_below (g := gb396) (o := .cells #[.slice A0_0 l0_0.length c0_0, .int .i64 a0_1, .int .i64 a0_2, .int .i32 a0_3, .int .i64 a0_4, .int .u64 a0_5] 27 (0, 0)) (by (with_reducible repeat (first | refine blk_drewN ?_ _ | refine blk_drew ?_ | refine blk_alloc ?_ _)); exact BK396.out) hb); have n1_ := Aside0.mk (blk_below (g := gb397) (o := .cells #[.slice A1_0 l1_0.length c1_0, .int .i64 a1_1, .int .i64 a1_2, .int .i32 a1_3, .int .i64 a1_4, .int .u64 a1_5] 27 (0, 0)) (by (with_reducible repeat (first | refine blk_drewN ?_ _ | refine blk_drew ?_ | refine blk_alloc ?_ _)); exact BK397.out) hb); have n2_ := Aside0.mk (below_step (by repeat (first | (with_reducible first | exact HB.out | apply below_alloc | apply pw_below_drewN | apply below_drew1 | refine below_set ?_ GE396.out | refine below_set ?_ GE397.out) | exact HB.out)) hb); clear BK396; clear BK397; clear HB; have BK396 := n0_; have BK397 := n1_; have HB := n2_; clear n0_ n1_ n2_; (try clear hb); (try clear hb2); (try clear hk); (try clear hi)) | (go_at_call 4; (with_reducible refine (credenzalaw21_awake.calls  t417 _ A145.out).mono ?_); rintro e w153 ⟨rfl, hb⟩; have n0_ := Aside0.mk (blk_below (g := gb396) (o := .cells #[.slice A0_0 l0_0.length c0_0, .int .i64 a0_1, .int .i64 a0_2, .int .i32 a0_3, .int .i64 a0_4, .int .u64 a0_5] 27 (0, 0)) (by (with_reducible repeat (first | refine blk_drewN ?_ _ | refine blk_drew ?_ | refine blk_alloc ?_ _)); exact BK396.out) hb); have n1_ := Aside0.mk (blk_below (g := gb397) (o := .cells #[.slice A1_0 l1_0.length c1_0, .int .i64 a1_1, .int .i64 a1_2, .int .i32 a1_3, .int .i64 a1_4, .int .u64 a1_5] 27 (0, 0)) (by (with_reducible repeat (first | refine blk_drewN ?_ _ | refine blk_drew ?_ | refine blk_alloc ?_ _)); exact BK397.out) hb); have n2_ := Aside0.mk (below_step (by repeat (first | (with_reducible first | exact HB.out | apply below_alloc | apply pw_below_drewN | apply below_drew1 | refine below_set ?_ GE396.out | refine below_set ?_ GE397.out) | exact HB.out)) hb); clear BK396; clear BK397; clear HB; have BK396 := n0_; have BK397 := n1_; have HB := n2_; clear n0_ n1_ n2_; (try clear hb); (try clear hb2); (try clear hk); (try clear hi)))
              go_ret
              exact ⟨by first | rfl | (simp [errW_none, errW_some] <;> rfl) | (simp [*, errW_none, errW_some] <;> rfl), by repeat (first | (with_reducible first | exact HB.out | apply below_alloc | apply pw_below_drewN | apply below_drew1 | refine below_set ?_ GE396.out | refine below_set ?_ GE397.out) | exact HB.out)⟩
            · rw [if_neg c144] at H
              have c144b0 : (t416 == false) = false := by simpa using c144
              (try (have c144b1 : decide (t416 = false) = false := by simpa using c144))
              (try (have c144b2 : (t416 == false) = false := by simpa using c144))
              (try (have c144b3 : ¬ (t416 = false) := by simpa using c144))
              clear c144
              obtain rfl := Option.some.inj H
              have hnb154 := NB396_397.out
              have hnc154 := NB397_396.out
              have hcz155_0 : wc.cell? ⟨gb396, 0, none⟩ = some (.slice A0_0 l0_0.length c0_0) := (blk_cell BK396.out 0).trans rfl
              have hcz155_1 : wc.cell? ⟨gb396, 1, none⟩ = some (.int .i64 a0_1) := (blk_cell BK396.out 1).trans rfl
              have hcz155_2 : wc.cell? ⟨gb396, 2, none⟩ = some (.int .i64 a0_2) := (blk_cell BK396.out 2).trans rfl
              have hcz155_3 : wc.cell? ⟨gb396, 3, none⟩ = some (.int .i32 a0_3) := (blk_cell BK396.out 3).trans rfl
              have hcz155_4 : wc.cell? ⟨gb396, 4, none⟩ = some (.int .i64 a0_4) := (blk_cell BK396.out 4).trans rfl
              have hcz155_5 : wc.cell? ⟨gb396, 5, none⟩ = some (.int .u64 a0_5) := (blk_cell BK396.out 5).trans rfl
              have hfz155_0 := blk_frozen BK396.out 0
              have hfz155_1 := blk_frozen BK396.out 1
              have hfz155_2 := blk_frozen BK396.out 2
              have hfz155_3 := blk_frozen BK396.out 3
              have hfz155_4 := blk_frozen BK396.out 4
              have hfz155_5 := blk_frozen BK396.out 5
              have hcz156_0 : wc.cell? ⟨gb397, 0, none⟩ = some (.slice A1_0 l1_0.length c1_0) := (blk_cell BK397.out 0).trans rfl
              have hcz156_1 : wc.cell? ⟨gb397, 1, none⟩ = some (.int .i64 a1_1) := (blk_cell BK397.out 1).trans rfl
              have hcz156_2 : wc.cell? ⟨gb397, 2, none⟩ = some (.int .i64 a1_2) := (blk_cell BK397.out 2).trans rfl
              have hcz156_3 : wc.cell? ⟨gb397, 3, none⟩ = some (.int .i32 a1_3) := (blk_cell BK397.out 3).trans rfl
              have hcz156_4 : wc.cell? ⟨gb397, 4, none⟩ = some (.int .i64 a1_4) := (blk_cell BK397.out 4).trans rfl
              have hcz156_5 : wc.cell? ⟨gb397, 5, none⟩ = some (.int .u64 a1_5) := (blk_cell BK397.out 5).trans rfl
              have hfz156_0 := blk_frozen BK397.out 0
              have hfz156_1 := blk_frozen BK397.out 1
              have hfz156_2 := blk_frozen BK397.out 2
              have hfz156_3 := blk_frozen BK397.out 3
              have hfz156_4 := blk_frozen BK397.out 4
              have hfz156_5 := blk_frozen BK397.out 5
              go_wp2_with (first | ((with_reducible refine gate_callee (f := 5) rfl ?_); refine goesL_ (some 21) rfl rfl Tryz.func5 (by kernel_rfl) rfl #[.slice A0_0 l0_0.length c0_0, .slice A1_0 l1_0.length c1_0] rfl (by (try simp only [List.map_toArray, List.map_cons, List.map_nil]); first | done | rfl | (simp only [List.length_drop, List.length_take]; rfl)) ?_; (with_reducible refine (credenzalaw21_same.calls kj2 _ _ l0_0 _ _ l1_0 false _ ?side1 ?side2 ?side3 ?side4 A15.out).mono ?_); (case side1 => repeat (first | exact (Kd.C_below HR0_0.out HB.out) | (with_reducible refine Kd.C_alloc ?_ _) | (with_reducible refine Kd.C_drewN ?_ _) | (with_reducible refine Kd.C_drew ?_))); (case side2 => exact HC0_0.out); (case side3 => repeat (first | exact (Kd.C_below HR1_0.out HB.out) | (with_reducible refine Kd.C_alloc ?_ _) | (with_reducible refine Kd.C_drewN ?_ _) | (with_reducible refine Kd.C_drew ?_))); (case side4 => exact HC1_0.out); rintro e w' ⟨rfl, ⟨nd, rfl⟩⟩; refine ⟨_, rfl, ?_⟩) | ((with_reducible refine gate_callee (f := 6) rfl ?_); refine goesL_ (some 65) rfl rfl Tryz.func6 (by kernel_rfl) rfl #[.agg #[.slice A0_0 l0_0.length c0_0, .int .i64 a0_1, .int .i64 a0_2, .int .i32 a0_3, .int .i64 a0_4, .int .u64 a0_5], .agg #[.slice A1_0 l1_0.length c1_0, .int .i64 a1_1, .int .i64 a1_2, .int .i32 a1_3, .int .i64 a1_4, .int .u64 a1_5]] rfl (by (try simp only [List.map_toArray, List.map_cons, List.map_nil]); first | done | rfl | (simp only [List.length_drop, List.length_take]; rfl)) ?_; (with_reducible refine (gen_Equal.calls kj2 _ _ l0_0 a0_1 a0_2 a0_3 a0_4 a0_5 _ _ l1_0 a1_1 a1_2 a1_3 a1_4 a1_5 t415 _ ?side1 ?side2 ?side3 ?side4 A141.out).mono ?_); (case side1 => repeat (first | exact (Kd.C_below HR0_0.out (by repeat (first | (with_reducible first | exact HB.out | apply below_alloc | apply pw_below_drewN | apply below_drew1 | refine below_set ?_ GE396.out | refine below_set ?_ GE397.out) | exact HB.out))) | (with_reducible refine Kd.C_alloc ?_ _) | (with_reducible refine Kd.C_drewN ?_ _) | (with_reducible refine Kd.C_drew ?_))); (case side2 => exact HC0_0.out); (case side3 => repeat (first | exact (Kd.C_below HR1_0.out (by repeat (first | (with_reducible first | exact HB.out | apply below_alloc | apply pw_below_drewN | apply below_drew1 | refine below_set ?_ GE396.out | refine below_set ?_ GE397.out) | exact HB.out))) | (with_reducible refine Kd.C_alloc ?_ _) | (with_reducible refine Kd.C_drewN ?_ _) | (with_reducible refine Kd.C_drew ?_))); (case side4 => exact HC1_0.out); rintro e w157 ⟨rfl, hb⟩; refine ⟨_, rfl, ?_⟩; have n0_ := Aside0.mk (blk_below (g := gb396) (o := .cells #[.slice A0_0 l0_0.length c0_0, .int .i64 a0_1, .int .i64 a0_2, .int .i32 a0_3, .int .i64 a0_4, .int .u64 a0_5] 27 (0, 0)) (by (with_reducible repeat (first | refine blk_drewN ?_ _ | refine blk_drew ?_ | refine blk_alloc ?_ _)); exact BK396.out) hb); have n1_ := Aside0.mk (blk_below (g := gb397) (o := .cells #[.slice A1_0 l1_0.length c1_0, .int .i64 a1_1, .int .i64 a1_2, .int .i32 a1_3, .int .i64 a1_4, .int .u64 a1_5] 27 (0, 0)) (by (with_reducible repeat (first | refine blk_drewN ?_ _ | refine blk_drew ?_ | refine blk_alloc ?_ _)); exact BK397.out) hb); have n2_ := Aside0.mk (below_step (by repeat (first | (with_reducible first | exact HB.out | apply below_alloc | apply pw_below_drewN | apply below_drew1 | refine below_set ?_ GE396.out | refine below_set ?_ GE397.out) | exact HB.out)) hb); clear BK396; clear BK397; clear HB; have BK396 := n0_; have BK397 := n1_; have HB := n2_; clear n0_ n1_ n2_; (try clear hb); (try clear hb2); (try clear hk); (try clear hi); have hcz158_0 : w157.cell? ⟨gb397, 0, none⟩ = some (.slice A1_0 l1_0.length c1_0) := (blk_cell BK397.out 0).trans rfl; have hcz158_1 : w157.cell? ⟨gb397, 1, none⟩ = some (.int .i64 a1_1) := (blk_cell BK397.out 1).trans rfl; have hcz158_2 : w157.cell? ⟨gb397, 2, none⟩ = some (.int .i64 a1_2) := (blk_cell BK397.out 2).trans rfl; have hcz158_3 : w157.cell? ⟨gb397, 3, none⟩ = some (.int .i32 a1_3) := (blk_cell BK397.out 3).trans rfl; have hcz158_4 : w157.cell? ⟨gb397, 4, none⟩ = some (.int .i64 a1_4) := (blk_cell BK397.out 4).trans rfl; have hcz158_5 : w157.cell? ⟨gb397, 5, none⟩ = some (.int .u64 a1_5) := (blk_cell BK397.out 5).trans rfl; have hfz158_0 := blk_frozen BK397.out 0; have hfz158_1 := blk_frozen BK397.out 1; have hfz158_2 := blk_frozen BK397.out 2; have hfz158_3 := blk_frozen BK397.out 3; have hfz158_4 := blk_frozen BK397.out 4; have hfz158_5 := blk_frozen BK397.out 5; have hcz159_0 : w157.cell? ⟨gb396, 0, none⟩ = some (.slice A0_0 l0_0.length c0_0) := (blk_cell BK396.out 0).trans rfl; have hcz159_1 : w157.cell? ⟨gb396, 1, none⟩ = some (.int .i64 a0_1) := (blk_cell BK396.out 1).trans rfl; have hcz159_2 : w157.cell? ⟨gb396, 2, none⟩ = some (.int .i64 a0_2) := (blk_cell BK396.out 2).trans rfl; have hcz159_3 : w157.cell? ⟨gb396, 3, none⟩ = some (.int .i32 a0_3) := (blk_cell BK396.out 3).trans rfl; have hcz159_4 : w157.cell? ⟨gb396, 4, none⟩ = some (.int .i64 a0_4) := (blk_cell BK396.out 4).trans rfl; have hcz159_5 : w157.cell? ⟨gb396, 5, none⟩ = some (.int .u64 a0_5) := (blk_cell BK396.out 5).trans rfl; have hfz159_0 := blk_frozen BK396.out 0; have hfz159_1 := blk_frozen BK396.out 1; have hfz159_2 := blk_frozen BK396.out 2; have hfz159_3 := blk_frozen BK396.out 3; have hfz159_4 := blk_frozen BK396.out 4; have hfz159_5 := blk_frozen BK396.out 5) | (go_at_call 6; (with_reducible refine (gen_Equal.calls kj2 _ _ l1_0 a1_1 a1_2 a1_3 a1_4 a1_5 _ _ l0_0 a0_1 a0_2 a0_3 a0_4 a0_5 t416 _ ?side1 ?side2 ?side3 ?side4 A143.out).mono ?_); (case side1 => repeat (first | exact (Kd.C_below HR1_0.out HB.out) | (with_reducible refine Kd.C_alloc ?_ _) | (with_reducible refine Kd.C_drewN ?_ _) | (with_reducible refine Kd.C_drew ?_))); (case side2 => exact HC1_0.out); (case side3 => repeat (first | exact (Kd.C_below HR0_0.out HB.out) | (with_reducible refine Kd.C_alloc ?_ _) | (with_reducible refine Kd.C_drewN ?_ _) | (with_reducible refine Kd.C_drew ?_))); (case side4 => exact HC0_0.out); rintro e w160 ⟨rfl, hb⟩; have n0_ := Aside0.mk (blk_below (g := gb396) (o := .cells #[.slice A0_0 l0_0.length c0_0, .int .i64 a0_1, .int .i64 a0_2, .int .i32 a0_3, .int .i64 a0_4, .int .u64 a0_5] 27 (0, 0)) (by (with_reducible repeat (first | refine blk_drewN ?_ _ | refine blk_drew ?_ | refine blk_alloc ?_ _)); exact BK396.out) hb); have n1_ := Aside0.mk (blk_below (g := gb397) (o := .cells #[.slice A1_0 l1_0.length c1_0, .int .i64 a1_1, .int .i64 a1_2, .int .i32 a1_3, .int .i64 a1_4, .int .u64 a1_5] 27 (0, 0)) (by (with_reducible repeat (first | refine blk_drewN ?_ _ | refine blk_drew ?_ | refine blk_alloc ?_ _)); exact BK397.out) hb); have n2_ := Aside0.mk (below_step (by repeat (first | (with_reducible first | exact HB.out | apply below_alloc | apply pw_below_drewN | apply below_drew1 | refine below_set ?_ GE396.out | refine below_set ?_ GE397.out) | exact HB.out)) hb); clear BK396; clear BK397; clear HB; have BK396 := n0_; have BK397 := n1_; have HB := n2_; clear n0_ n1_ n2_; (try clear hb); (try clear hb2); (try clear hk); (try clear hi)))
              go_ret
              exact ⟨by first | rfl | (simp [errW_none, errW_some] <;> rfl) | (simp [*, errW_none, errW_some] <;> rfl), by repeat (first | (with_reducible first | exact HB.out | apply below_alloc | apply pw_below_drewN | apply below_drew1 | refine below_set ?_ GE396.out | refine below_set ?_ GE397.out) | exact HB.out)⟩
          · rw [if_neg c142] at H
            have c142b0 : (t415 == false) = false := by simpa using c142
            (try (have c142b1 : decide (t415 = false) = false := by simpa using c142))
            (try (have c142b2 : (t415 == false) = false := by simpa using c142))
            (try (have c142b3 : ¬ (t415 = false) := by simpa using c142))
            clear c142
            obtain rfl := Option.some.inj H
            have hnb161 := NB396_397.out
            have hnc161 := NB397_396.out
            have hcz162_0 : wc.cell? ⟨gb396, 0, none⟩ = some (.slice A0_0 l0_0.length c0_0) := (blk_cell BK396.out 0).trans rfl
            have hcz162_1 : wc.cell? ⟨gb396, 1, none⟩ = some (.int .i64 a0_1) := (blk_cell BK396.out 1).trans rfl
            have hcz162_2 : wc.cell? ⟨gb396, 2, none⟩ = some (.int .i64 a0_2) := (blk_cell BK396.out 2).trans rfl
            have hcz162_3 : wc.cell? ⟨gb396, 3, none⟩ = some (.int .i32 a0_3) := (blk_cell BK396.out 3).trans rfl
            have hcz162_4 : wc.cell? ⟨gb396, 4, none⟩ = some (.int .i64 a0_4) := (blk_cell BK396.out 4).trans rfl
            have hcz162_5 : wc.cell? ⟨gb396, 5, none⟩ = some (.int .u64 a0_5) := (blk_cell BK396.out 5).trans rfl
            have hfz162_0 := blk_frozen BK396.out 0
            have hfz162_1 := blk_frozen BK396.out 1
            have hfz162_2 := blk_frozen BK396.out 2
            have hfz162_3 := blk_frozen BK396.out 3
            have hfz162_4 := blk_frozen BK396.out 4
            have hfz162_5 := blk_frozen BK396.out 5
            have hcz163_0 : wc.cell? ⟨gb397, 0, none⟩ = some (.slice A1_0 l1_0.length c1_0) := (blk_cell BK397.out 0).trans rfl
            have hcz163_1 : wc.cell? ⟨gb397, 1, none⟩ = some (.int .i64 a1_1) := (blk_cell BK397.out 1).trans rfl
            have hcz163_2 : wc.cell? ⟨gb397, 2, none⟩ = some (.int .i64 a1_2) := (blk_cell BK397.out 2).trans rfl
            have hcz163_3 : wc.cell? ⟨gb397, 3, none⟩ = some (.int .i32 a1_3) := (blk_cell BK397.out 3).trans rfl
            have hcz163_4 : wc.cell? ⟨gb397, 4, none⟩ = some (.int .i64 a1_4) := (blk_cell BK397.out 4).trans rfl
            have hcz163_5 : wc.cell? ⟨gb397, 5, none⟩ = some (.int .u64 a1_5) := (blk_cell BK397.out 5).trans rfl
            have hfz163_0 := blk_frozen BK397.out 0
            have hfz163_1 := blk_frozen BK397.out 1
            have hfz163_2 := blk_frozen BK397.out 2
            have hfz163_3 := blk_frozen BK397.out 3
            have hfz163_4 := blk_frozen BK397.out 4
            have hfz163_5 := blk_frozen BK397.out 5
            go_wp2_with (first | ((with_reducible refine gate_callee (f := 5) rfl ?_); refine goesL_ (some 21) rfl rfl Tryz.func5 (by kernel_rfl) rfl #[.slice A0_0 l0_0.length c0_0, .slice A1_0 l1_0.length c1_0] rfl (by (try simp only [List.map_toArray, List.map_cons, List.map_nil]); first | done | rfl | (simp only [List.length_drop, List.length_take]; rfl)) ?_; (with_reducible refine (credenzalaw21_same.calls kj2 _ _ l0_0 _ _ l1_0 false _ ?side1 ?side2 ?side3 ?side4 A15.out).mono ?_); (case side1 => repeat (first | exact (Kd.C_below HR0_0.out HB.out) | (with_reducible refine Kd.C_alloc ?_ _) | (with_reducible refine Kd.C_drewN ?_ _) | (with_reducible refine Kd.C_drew ?_))); (case side2 => exact HC0_0.out); (case side3 => repeat (first | exact (Kd.C_below HR1_0.out HB.out) | (with_reducible refine Kd.C_alloc ?_ _) | (with_reducible refine Kd.C_drewN ?_ _) | (with_reducible refine Kd.C_drew ?_))); (case side4 => exact HC1_0.out); rintro e w' ⟨rfl, ⟨nd, rfl⟩⟩; refine ⟨_, rfl, ?_⟩) | ((with_reducible refine gate_callee (f := 6) rfl ?_); refine goesL_ (some 65) rfl rfl Tryz.func6 (by kernel_rfl) rfl #[.agg #[.slice A0_0 l0_0.length c0_0, .int .i64 a0_1, .int .i64 a0_2, .int .i32 a0_3, .int .i64 a0_4, .int .u64 a0_5], .agg #[.slice A1_0 l1_0.length c1_0, .int .i64 a1_1, .int .i64 a1_2, .int .i32 a1_3, .int .i64 a1_4, .int .u64 a1_5]] rfl (by (try simp only [List.map_toArray, List.map_cons, List.map_nil]); first | done | rfl | (simp only [List.length_drop, List.length_take]; rfl)) ?_; (with_reducible refine (gen_Equal.calls kj2 _ _ l0_0 a0_1 a0_2 a0_3 a0_4 a0_5 _ _ l1_0 a1_1 a1_2 a1_3 a1_4 a1_5 t415 _ ?side1 ?side2 ?side3 ?side4 A141.out).mono ?_); (case side1 => repeat (first | exact (Kd.C_below HR0_0.out (by repeat (first | (with_reducible first | exact HB.out | apply below_alloc | apply pw_below_drewN | apply below_drew1 | refine below_set ?_ GE396.out | refine below_set ?_ GE397.out) | exact HB.out))) | (with_reducible refine Kd.C_alloc ?_ _) | (with_reducible refine Kd.C_drewN ?_ _) | (with_reducible refine Kd.C_drew ?_))); (case side2 => exact HC0_0.out); (case side3 => repeat (first | exact (Kd.C_below HR1_0.out (by repeat (first | (with_reducible first | exact HB.out | apply below_alloc | apply pw_below_drewN | apply below_drew1 | refine below_set ?_ GE396.out | refine below_set ?_ GE397.out) | exact HB.out))) | (with_reducible refine Kd.C_alloc ?_ _) | (with_reducible refine Kd.C_drewN ?_ _) | (with_reducible refine Kd.C_drew ?_))); (case side4 => exact HC1_0.out); rintro e w164 ⟨rfl, hb⟩; refine ⟨_, rfl, ?_⟩; have n0_ := Aside0.mk (blk_below (g := gb396) (o := .cells #[.slice A0_0 l0_0.length c0_0, .int .i64 a0_1, .int .i64 a0_2, .int .i32 a0_3, .int .i64 a0_4, .int .u64 a0_5] 27 (0, 0)) (by (with_reducible repeat (first | refine blk_drewN ?_ _ | refine blk_drew ?_ | refine blk_alloc ?_ _)); exact BK396.out) hb); have n1_ := Aside0.mk (blk_below (g := gb397) (o := .cells #[.slice A1_0 l1_0.length c1_0, .int .i64 a1_1, .int .i64 a1_2, .int .i32 a1_3, .int .i64 a1_4, .int .u64 a1_5] 27 (0, 0)) (by (with_reducible repeat (first | refine blk_drewN ?_ _ | refine blk_drew ?_ | refine blk_alloc ?_ _)); exact BK397.out) hb); have n2_ := Aside0.mk (below_step (by repeat (first | (with_reducible first | exact HB.out | apply below_alloc | apply pw_below_drewN | apply below_drew1 | refine below_set ?_ GE396.out | refine below_set ?_ GE397.out) | exact HB.out)) hb); clear BK396; clear BK397; clear HB; have BK396 := n0_; have BK397 := n1_; have HB := n2_; clear n0_ n1_ n2_; (try clear hb); (try clear hb2); (try clear hk); (try clear hi)))
            go_ret
            exact ⟨by first | rfl | (simp [errW_none, errW_some] <;> rfl) | (simp [*, errW_none, errW_some] <;> rfl), by repeat (first | (with_reducible first | exact HB.out | apply below_alloc | apply pw_below_drewN | apply below_drew1 | refine below_set ?_ GE396.out | refine below_set ?_ GE397.out) | exact HB.out)⟩

end Go.Proofs.YtgapfnckannnfaaGreat.Q

namespace Go.Proofs.YtgapfnckannnfaaGreat.Pure
open Go.RowKit Go.Proofs.YtgapfnckannnfaaGreat.Q Go.Proofs.YtgapfnckannnfaaGreatW.PrintWords Go.Proofs.YtgapfnckannnfaaGreatW.PrintLast Go.Proofs.YtgapfnckannnfaaGreatW.PrintMore
set_option linter.unusedVariables false

theorem w64 {x : Int} (h1 : -9223372036854775808 ≤ x) (h2 : x ≤ 9223372036854775807) : wrap64 x = x := IntWalk.wrap64_in x ⟨h1, h2⟩
theorem wnext {p n : Nat} (h : p < n) (hn : n ≤ 4611686018427387904) : wrap64 ((p : Int) + 1) = ((p + 1 : Nat) : Int) := by rw [w64 (by omega) (by omega)]; omega
theorem rdI (l : List Int) (p : Nat) (h : p < l.length) : rd l (p : Int) = l[p] := by
  unfold rd
  rw [Int.toNat_natCast, List.getD_eq_getElem?_getD, List.getElem?_eq_getElem h]; rfl
theorem awake21_ev : Ev (fun _ => (credenzalaw21_awake.f).bind fun t => some t) true := Ev.now true

/-- A loop that compares two lists of numbers place by place says whether they are one. -/
theorem eq_l0 (g : Nat → List Int → List Int → Int → Int → Option Bool)
    (hg : ∀ k x0 x1 x12 x13, g (k + 1) x0 x1 x12 x13 = if x13 < x12 then (if 0 ≤ x13 then (if x13 < (x0.length : Int) then (if x13 < (x1.length : Int) then (if (rd x0 x13) = (rd x1 x13) then (g k x0 x1 x12 (wrap64 (x13 + 1))) else (some false)) else (none)) else (none)) else (none)) else (some true))
    (x y : List Int) (h : x.length = y.length) (hl : x.length ≤ 4611686018427387904) : ∀ d p : Nat, p + d = x.length → Ev (fun k => g k x y (x.length : Int) (p : Int)) (decide (x.drop p = y.drop p)) := by
  intro d
  induction d with
  | zero =>
    intro p hp
    rw [List.drop_eq_nil_of_le (by omega), List.drop_eq_nil_of_le (by omega)]
    refine Ev.step (fun k => ?_) (Ev.now _)
    rw [hg, if_neg (by omega)]; rfl
  | succ d ih =>
    intro p hp
    have hlt : p < x.length := by omega
    have hlt2 : p < y.length := by omega
    have hi := ih (p + 1) (by omega)
    rw [List.drop_eq_getElem_cons hlt, List.drop_eq_getElem_cons hlt2]
    by_cases c : x[p] = y[p]
    · rw [show decide (x[p] :: x.drop (p + 1) = y[p] :: y.drop (p + 1)) = decide (x.drop (p + 1) = y.drop (p + 1)) from decide_eq_decide.2 ⟨fun h => (List.cons.inj h).2, fun h => by rw [h, c]⟩]
      refine Ev.step (fun k => ?_) hi
      rw [hg, if_pos (by omega), if_pos (by omega), if_pos (by omega), if_pos (by omega), rdI x p hlt, rdI y p hlt2, if_pos c, wnext hlt hl]
    · rw [show decide (x[p] :: x.drop (p + 1) = y[p] :: y.drop (p + 1)) = false from decide_eq_false (fun h => c (List.cons.inj h).1)]
      refine Ev.step (fun k => ?_) (Ev.now _)
      rw [hg, if_pos (by omega), if_pos (by omega), if_pos (by omega), if_pos (by omega), rdI x p hlt, rdI y p hlt2, if_neg c]
theorem eqF (g : Nat → List Int → List Int → Int → Int → Option Bool)
    (hg : ∀ k x0 x1 x12 x13, g (k + 1) x0 x1 x12 x13 = if x13 < x12 then (if 0 ≤ x13 then (if x13 < (x0.length : Int) then (if x13 < (x1.length : Int) then (if (rd x0 x13) = (rd x1 x13) then (g k x0 x1 x12 (wrap64 (x13 + 1))) else (some false)) else (none)) else (none)) else (none)) else (some true))
    (x y : List Int) (hl : x.length ≤ 4611686018427387904) : Ev (fun k => if (x.length : Int) = (y.length : Int) then g k x y (x.length : Int) 0 else some false) (decide (x = y)) := by
  by_cases h : x.length = y.length
  · have e := eq_l0 g hg x y h hl x.length 0 (by omega)
    rw [List.drop_zero, List.drop_zero] at e
    refine Ev.congr (fun k => ?_) e
    rw [if_pos (by omega)]; rfl
  · rw [decide_eq_false (fun e => h (by rw [e]))]
    refine Ev.congr (fun k => ?_) (Ev.now _)
    rw [if_neg (by omega)]
theorem same_ev (x y : List Int) (hl : x.length ≤ 4611686018427387904) : Ev (fun k => credenzalaw21_same.f k x y) (decide (x = y)) :=
  eqF credenzalaw21_same.l0 (fun k x0 x1 x12 x13 => by rw [credenzalaw21_same.l0]) x y hl
theorem slices_ev (x y : List Int) (hl : x.length ≤ 4611686018427387904) : Ev (fun k => slices_Equal_int_int.f k x y) (decide (x = y)) :=
  eqF slices_Equal_int_int.l0 (fun k x0 x1 x12 x13 => by rw [slices_Equal_int_int.l0]) x y hl
/-- Whether two tasks are one. -/
def eqT (x : List Int) (a1 a2 a3 a4 a5 : Int) (y : List Int) (b1 b2 b3 b4 b5 : Int) : Bool := decide (x = y ∧ a1 = b1 ∧ a2 = b2 ∧ a3 = b3 ∧ a4 = b4 ∧ a5 = b5)
theorem eqT_symm (x : List Int) (a1 a2 a3 a4 a5 : Int) (y : List Int) (b1 b2 b3 b4 b5 : Int) : eqT y b1 b2 b3 b4 b5 x a1 a2 a3 a4 a5 = eqT x a1 a2 a3 a4 a5 y b1 b2 b3 b4 b5 := by
  unfold eqT
  exact decide_eq_decide.2 ⟨fun ⟨h, h1, h2, h3, h4, h5⟩ => ⟨h.symm, h1.symm, h2.symm, h3.symm, h4.symm, h5.symm⟩, fun ⟨h, h1, h2, h3, h4, h5⟩ => ⟨h.symm, h1.symm, h2.symm, h3.symm, h4.symm, h5.symm⟩⟩
theorem equal_ev (x : List Int) (a1 a2 a3 a4 a5 : Int) (y : List Int) (b1 b2 b3 b4 b5 : Int) (hl : x.length ≤ 4611686018427387904) :
    Ev (fun k => gen_Equal.f k x a1 a2 a3 a4 a5 y b1 b2 b3 b4 b5) (eqT x a1 a2 a3 a4 a5 y b1 b2 b3 b4 b5) := by
  unfold gen_Equal.f
  refine Ev.bind (slices_ev x y hl) ?_
  refine Ev.congr (f := fun _ => some (eqT x a1 a2 a3 a4 a5 y b1 b2 b3 b4 b5)) (fun k => ?_) (Ev.now _)
  unfold eqT
  by_cases c : x = y
  · rw [decide_eq_true c, if_pos rfl]
    by_cases c1 : a1 = b1
    · rw [if_pos c1]
      by_cases c2 : a2 = b2
      · rw [if_pos c2]
        by_cases c3 : a3 = b3 <;> by_cases c4 : a4 = b4 <;> by_cases c5 : a5 = b5 <;> simp [c, c1, c2, c3, c4, c5]
      · rw [if_neg c2]; simp [c2]
    · rw [if_neg c1]; simp [c1]
  · rw [decide_eq_false c, if_neg (by simp)]; simp [c]
/-- Both ways round the answer is the wanted one, and then it is awake. -/
theorem both_ev (x : List Int) (a1 a2 a3 a4 a5 : Int) (y : List Int) (b1 b2 b3 b4 b5 : Int) (hx : x.length ≤ 4611686018427387904) (hy : y.length ≤ 4611686018427387904) (c : Bool) (hc : eqT x a1 a2 a3 a4 a5 y b1 b2 b3 b4 b5 = c) :
    Ev (fun k => (gen_Equal.f k x a1 a2 a3 a4 a5 y b1 b2 b3 b4 b5).bind fun t => if (t == c) = true then ((gen_Equal.f k y b1 b2 b3 b4 b5 x a1 a2 a3 a4 a5).bind fun t => if (t == c) = true then ((credenzalaw21_awake.f).bind fun t => some t) else some false) else some false) true := by
  refine Ev.bind (equal_ev x a1 a2 a3 a4 a5 y b1 b2 b3 b4 b5 hx) ?_
  refine Ev.congr (fun k => by rw [hc, beq_self_eq_true, if_pos rfl]) ?_
  refine Ev.bind (equal_ev y b1 b2 b3 b4 b5 x a1 a2 a3 a4 a5 hy) ?_
  exact Ev.congr (fun k => by rw [eqT_symm, hc, beq_self_eq_true, if_pos rfl]) awake21_ev
theorem genEquals_j0 (x : List Int) (a1 a2 a3 a4 a5 : Int) (y : List Int) (b1 b2 b3 b4 b5 : Int) (t : Bool) (ht : t = false → x.length ≤ 200 ∧ y.length ≤ 200) : Ev (fun k => credenzalaw21_GenEquals.j0 k t x a1 a2 a3 a4 a5 y b1 b2 b3 b4 b5) true := by
  cases t with
  | true =>
    refine Ev.step (fun k => ?_) awake21_ev
    rw [credenzalaw21_GenEquals.j0, if_pos rfl]
  | false =>
    obtain ⟨hx, hy⟩ := ht rfl
    have hx' : x.length ≤ 4611686018427387904 := by omega
    have hy' : y.length ≤ 4611686018427387904 := by omega
    refine Ev.step (fun k => by rw [credenzalaw21_GenEquals.j0, if_neg (by simp)]) ?_
    refine Ev.bind (same_ev x y hx') ?_
    have both := both_ev x a1 a2 a3 a4 a5 y b1 b2 b3 b4 b5 hx' hy'
    by_cases c : x = y
    · by_cases c1 : a1 = b1
      · by_cases c2 : a2 = b2
        · by_cases c3 : a3 = b3
          · by_cases c4 : a4 = b4
            · refine Ev.congr (fun k => by rw [decide_eq_true c, if_pos rfl, if_pos c1, if_pos c2, if_pos c3, if_pos c4]) (both (a5 == b5) ?_)
              unfold eqT
              by_cases c5 : a5 = b5 <;> simp [c, c1, c2, c3, c4, c5]
            · exact Ev.congr (fun k => by rw [decide_eq_true c, if_pos rfl, if_pos c1, if_pos c2, if_pos c3, if_neg c4]) (both false (by unfold eqT; simp [c4]))
          · exact Ev.congr (fun k => by rw [decide_eq_true c, if_pos rfl, if_pos c1, if_pos c2, if_neg c3]) (both false (by unfold eqT; simp [c3]))
        · exact Ev.congr (fun k => by rw [decide_eq_true c, if_pos rfl, if_pos c1, if_neg c2]) (both false (by unfold eqT; simp [c2]))
      · exact Ev.congr (fun k => by rw [decide_eq_true c, if_pos rfl, if_neg c1]) (both false (by unfold eqT; simp [c1]))
    · exact Ev.congr (fun k => by rw [decide_eq_false c, if_neg (by simp)]) (both false (by unfold eqT; simp [c]))
theorem GenEquals (x : List Int) (a1 a2 a3 a4 a5 : Int) (y : List Int) (b1 b2 b3 b4 b5 : Int) : ∃ k, credenzalaw21_GenEquals.f k x a1 a2 a3 a4 a5 y b1 b2 b3 b4 b5 = some true := by
  refine Ev.rounds ?_
  by_cases c : (x.length : Int) > 200
  · exact Ev.congr (fun k => by rw [credenzalaw21_GenEquals.f, if_pos c]) (genEquals_j0 x a1 a2 a3 a4 a5 y b1 b2 b3 b4 b5 true (by simp))
  · refine Ev.congr (fun k => by rw [credenzalaw21_GenEquals.f, if_neg c]) (genEquals_j0 x a1 a2 a3 a4 a5 y b1 b2 b3 b4 b5 (decide ((y.length : Int) > 200)) (fun h => ?_))
    have := of_decide_eq_false h
    omega
end Go.Proofs.YtgapfnckannnfaaGreat.Pure

namespace Go.Proofs.YtgapfnckannnfaaGreat.genEquals
open Go.ChangeShapes Go.WideShapes Go.ChangeAt Go.RowKit Go.Proofs.YtgapfnckannnfaaGreatW.PrintWords Go.Proofs.YtgapfnckannnfaaGreatW.PrintLast
open Go.ChangeMaps (open_string shut_string)
set_option linter.unusedVariables false
theorem own : ownKnob Tryz.prog.godebug = none := by kernel_rfl
theorem laidOut : laidOutB Tryz.prog = true := by kernel_rfl
def IsRow (k : IntKind) (w : World) (a : Option Addr) (len cap : Nat) (zs : List Int) : Prop :=
  (a = none ∧ len = 0 ∧ cap = 0 ∧ zs = []) ∨
  ∃ x, a = some x ∧ len ≤ cap ∧ cap ≤ maxLen ∧ zs.length = cap ∧ (∀ i, i < zs.length → w.cell? (x.add i) = some (.int k (zs.getD i 0))) ∧ ∀ n ∈ zs, (Lit.int k n).wf = true
set_option maxRecDepth 100000 in
/-- A task by value, opened. -/
theorem open_task {H : Type} {enc : TypeId × Value → H} {W : World} {base b0 : Nat} {r : Reach} {held : Bool} {v : Value} {d : DataW H} {p : List MemPlace}
    (hv : Value.okWide Tryz.prog W r b0 27 v) (h : DataW.Trod enc Tryz.prog W base (fun _ => true) held 27 v d p) :
    ∃ (A : Option Addr) (c : Nat) (l : List Int) (a1 a2 a3 a4 a5 : Int), v = .agg #[.slice A l.length c, .int .i64 a1, .int .i64 a2, .int .i32 a3, .int .i64 a4, .int .u64 a5] ∧ Kd.C (Kd.int .i64) W A l.length l ∧ l.length ≤ c := by
  obtain ⟨u0, u1, u2, u3, u4, u5, y0, y1, y2, y3, y4, y5, n, m, rfl, g0, g1, g2, g3, g4, g5⟩ := open_case1113 Tryz.underlying27 Tryz.underlying25 (by kernel_rfl) (by kernel_rfl) (by kernel_rfl) hv h
  obtain ⟨A, len, cap, e0⟩ := Go.Joins.slice_form Tryz.underlying22 g0
  obtain ⟨b1, e1, _, _⟩ := DataW.trod_int Tryz.underlying3 g1
  obtain ⟨b2, e2, _, _⟩ := DataW.trod_int Tryz.underlying3 g2
  obtain ⟨b3, e3, _, _⟩ := DataW.trod_int Tryz.underlying21 g3
  obtain ⟨b4, e4, _, _⟩ := DataW.trod_int Tryz.underlying3 g4
  obtain ⟨b5, e5, _, _⟩ := DataW.trod_int Tryz.underlying23 g5
  simp only [List.cons.injEq, and_true] at e0 e1 e2 e3 e4 e5
  subst e0 e1 e2 e3 e4 e5
  obtain ⟨z0, wz0⟩ : ∃ zs, IsRow .i64 W A len cap zs := by
    rcases open_ints Tryz.underlying22 Tryz.underlying3 (by kernel_rfl) g0 with ⟨hcs, _⟩ | ⟨x, l, c, zs, hcs, _, hl, hm, hz, _, hcell, hwz⟩
    · simp at hcs
      obtain ⟨rfl, rfl, rfl⟩ := hcs
      exact ⟨[], .inl ⟨rfl, rfl, rfl, rfl⟩⟩
    · simp at hcs
      obtain ⟨rfl, rfl, rfl⟩ := hcs
      exact ⟨zs, .inr ⟨_, rfl, hl, hm, by simpa using hz, hcell, hwz⟩⟩
  obtain ⟨l0, rfl, hr0, hm0, hw0, hc0⟩ := ReadsInt.ofRowC wz0
  exact ⟨A, cap, l0, b1, b2, b3, b4, b5, rfl, Kd.C_of_reads (d := (0 : Int)) (h1 := fun _ => rfl) hr0, hc0⟩
set_option maxRecDepth 100000 in
theorem lifted (os : Os) (started : os.Started) (H : Type) (enc : TypeId × Value → H) :
    ReturnsInHanded {} Tryz.checked os 3 .any (Rows.genEqualsSpec.pre6 enc Tryz.prog Tryz.f3 Rows.genEqualsRow.domain false) (Rows.genEqualsSpec.post enc Tryz.prog Tryz.f3 false true false false) := by
  refine returnsInHanded_of_change_sized (C := Tryz.checked) own started (by kernel_rfl) Tryz.func3
    (ChangeSpec.witness6 (enc := enc) (C := Tryz.checked) false ⟨#[], #[.agg #[.slice none 0 0, .int .i64 0, .int .i64 0, .int .i32 0, .int .i64 0, .int .u64 0], .agg #[.slice none 0 0, .int .i64 0, .int .i64 0, .int .i32 0, .int .i64 0, .int .u64 0]], []⟩ 8 (by kernel_rfl) (by kernel_rfl) (by kernel_rfl) (by kernel_rfl)) ?_
  intro W base args ds gs before hval0 hW hcnd hsz0 _
  have hval : ∀ (j : Nat) t v, Tryz.f3.params[j]? = some t → args[j]? = some v → Value.okWide Tryz.prog W .any base t v := hval0
  have hW' := hW
  obtain ⟨p, q, hA0, hV, rfl, hfz, hnd⟩ := hW
  have hA : DataW.TrodAll enc Tryz.prog W 0 (fun _ => true) true Tryz.f3.params.toList args.toList ds p := hA0
  rw [Tryz.params3] at hA hval
  obtain ⟨v0, vs0, d0, ds0, p0, q0, hargs, rfl, rfl, h0, r0⟩ := trodAll_cons hA
  obtain ⟨v1, vs1, d1, ds1, p1, q1, rfl, rfl, rfl, h1, r1⟩ := trodAll_cons r0
  obtain ⟨rfl, rfl, rfl⟩ := trodAll_nil r1
  obtain rfl : args = #[v0, v1] := by cases args; simp_all
  obtain ⟨rfl, rfl⟩ := trodVars_none hV
  have k0 := h0
  have lt0 : ∀ x ∈ p0, x.block < W.heap.size := by obtain ⟨m, hm⟩ := k0; exact DataW.trod_lt m _ _ _ hm
  obtain ⟨A0, c0, l0, a1, a2, a3, a4, a5, rfl, hr0, hc0⟩ := open_task (hval 0 27 v0 rfl rfl) h0
  have k1 := h1
  have lt1 : ∀ x ∈ p1, x.block < W.heap.size := by obtain ⟨m, hm⟩ := k1; exact DataW.trod_lt m _ _ _ hm
  obtain ⟨A1, c1, l1, b1, b2, b3, b4, b5, rfl, hr1, hc1⟩ := open_task (hval 1 27 v1 rfl rfl) h1
  clear hA0 hval0 hsz0
  obtain ⟨k, hk⟩ := Pure.GenEquals l0 a1 a2 a3 a4 a5 l1 b1 b2 b3 b4 b5
  refine (Q.credenzalaw21_GenEquals.calls k A0 c0 l0 a1 a2 a3 a4 a5 A1 c1 l1 b1 b2 b3 b4 b5 true W hr0 hc0 hr1 hc1 hk).mono ?_
  rintro e W' ⟨rfl, bel⟩
  exact ⟨_, rfl, _, _, _, [], _, [], hW', trodAll_mk1 (shut_bool Tryz.underlying4 _), (trodAll_cons_mk (Below.trod laidOut (by kernel_rfl) (of_decide_eq_true (by kernel_rfl)) k0 bel lt0) (trodAll_cons_mk (Below.trod laidOut (by kernel_rfl) (of_decide_eq_true (by kernel_rfl)) k1 bel lt1) trodAll_mk0)), rfl, bel.frame _, fun h => by cases h⟩
theorem over : Rows.genEqualsRow.holds Tryz.pinned (OpenSpec.ofChange Rows.genEqualsSpec) :=
  OpenClaim.holds_of_wide 3 Tryz.f3 rfl rfl rfl rfl rfl rfl rfl ⟨rfl, rfl, rfl, rfl, rfl⟩ rfl rfl rfl rfl rfl (by kernel_rfl) Tryz.func3 (by kernel_rfl)
    (of_decide_eq_true (by kernel_rfl)) (by unfold Func.isWrapper; first | (rw [if_pos (by decide +kernel)]; kernel_rfl) | (rw [if_neg (by decide +kernel)]; exact ⟨rfl, rfl⟩))
    (fun os started H enc _ => lifted os started H enc)
theorem proved : Rows.GenEqualsSaid := over
end Go.Proofs.YtgapfnckannnfaaGreat.genEquals
namespace Go.Proofs.YtgapfnckannnfaaGreat
/-- The row, under a short name, for the claim. -/
theorem genEquals_holds : Rows.GenEqualsSaid := genEquals.proved
end Go.Proofs.YtgapfnckannnfaaGreat
