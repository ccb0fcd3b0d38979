/- AttnScores: for every input the Go function returns true and leaves its arguments as they were. Conditions: as each theorem states; the last one has none. -/
import Derived.Test.YteflolamihhmdaaRows
import Derived.WalkKit
import Derived.ProofKit
import Derived.OpenShut
import Derived.ShutString
import Derived.ChangeOld
import Derived.Below
import Derived.SizedLaws
import Derived.Test.YteflolamihhmdaaWSized
import Derived.Test.YteflolamihhmdaaCAttnScores1
import Derived.Test.YteflolamihhmdaaCAttnScores2
import Derived.Test.YteflolamihhmdaaCAttnScores3
namespace Go.Proofs.Yteflolamihhmdaa.Q
open Go.RowKit Go.Proofs.YteflolamihhmdaaW.PrintWords Go.Proofs.YteflolamihhmdaaW.PrintLast Go.Proofs.YteflolamihhmdaaW.PrintMore
attribute [local go_sem] max2_int min2_int max_two min_two max_three min_three max_four min_four   -- for this text's walks alone
set_option linter.unusedVariables false
set_option linter.unusedSimpArgs false

/-! ### credenzalaw14_AttnScores: function 3 -/
mutual
def credenzalaw14_AttnScores.j0 : Nat → List Int → List Int → Bool → Option (Bool)
  | 0, _, _, _ => none
  | k + 1, x0, x1, x16 => if x16 = true then ((credenzalaw14_awake.f k).bind fun t216 => (some t216)) else ((attn_Score.f k x0 x1).bind fun bt217 => (if (x0.length : Int) = (x1.length : Int) then (if (x0.length : Int) < 1 then (credenzalaw14_AttnScores.j1 k x0 x1 bt217.1 bt217.2 true) else (credenzalaw14_AttnScores.j1 k x0 x1 bt217.1 bt217.2 (decide ((x0.length : Int) > 16)))) else (credenzalaw14_AttnScores.j1 k x0 x1 bt217.1 bt217.2 true)))
def credenzalaw14_AttnScores.j1 : Nat → List Int → List Int → Int → Int → Bool → Option (Bool)
  | 0, _, _, _, _, _ => none
  | k + 1, x0, x1, x5, x6, x38 => if x38 = true then (if x6 = 25 then (if x5 = 0 then ((credenzalaw14_awake.f k).bind fun t219 => (some t219)) else (some false)) else (some false)) else ((attn_Score.f k x1 x0).bind fun bt220 => (if x6 = 0 then (if bt220.2 = 0 then ((credenzaref14_Score.f k x0 x1).bind fun t222 => (if x5 = t222 then (if bt220.1 = x5 then ((credenzalaw14_awake.f k).bind fun t223 => (some t223)) else (some false)) else (some false))) else (some false)) else (some false)))
end
def credenzalaw14_AttnScores.f (k : Nat) (l0 : List Int) (l1 : List Int) : Option (Bool) := if (l0.length : Int) > 100 then (credenzalaw14_AttnScores.j0 k l0 l1 true) else (credenzalaw14_AttnScores.j0 k l0 l1 (decide ((l1.length : Int) > 100)))
theorem credenzalaw14_AttnScores.mono_l : ∀ k, (∀ y0 y1 y2, LeO (credenzalaw14_AttnScores.j0 k y0 y1 y2) (credenzalaw14_AttnScores.j0 (k + 1) y0 y1 y2)) ∧ (∀ y0 y1 y2 y3 y4, LeO (credenzalaw14_AttnScores.j1 k y0 y1 y2 y3 y4) (credenzalaw14_AttnScores.j1 (k + 1) y0 y1 y2 y3 y4))
  | 0 => ⟨fun _ _ _ r h => by simp [credenzalaw14_AttnScores.j0] at h, fun _ _ _ _ _ r h => by simp [credenzalaw14_AttnScores.j1] at h⟩
  | k + 1 => by
    obtain ⟨ih0, ih1⟩ := credenzalaw14_AttnScores.mono_l k
    refine ⟨?_, ?_⟩
    · intro y0 y1 y2
      unfold credenzalaw14_AttnScores.j0
      repeat' first
      | (with_reducible exact ih0 _ _ _)
      | (with_reducible exact ih1 _ _ _ _ _)
      | (with_reducible exact attn_Score.mono _ _ _)
      | (with_reducible exact credenzalaw14_awake.mono _)
      | (with_reducible exact credenzaref14_Score.mono _ _ _)
      | (with_reducible exact LeO.refl _)
      | (with_reducible exact LeO.none _)
      | (with_reducible refine LeO.ite ?_ ?_)
      | (with_reducible refine LeO.bind ?_ (fun _ => ?_))
      | exact ih0 _ _ _
      | exact ih1 _ _ _ _ _
      | exact attn_Score.mono _ _ _
      | exact credenzalaw14_awake.mono _
      | exact credenzaref14_Score.mono _ _ _
      | exact LeO.none _
      | refine LeO.ite ?_ ?_
      | refine LeO.bind ?_ (fun _ => ?_)
    · intro y0 y1 y2 y3 y4
      unfold credenzalaw14_AttnScores.j1
      repeat' first
      | (with_reducible exact ih0 _ _ _)
      | (with_reducible exact ih1 _ _ _ _ _)
      | (with_reducible exact attn_Score.mono _ _ _)
      | (with_reducible exact credenzalaw14_awake.mono _)
      | (with_reducible exact credenzaref14_Score.mono _ _ _)
      | (with_reducible exact LeO.refl _)
      | (with_reducible exact LeO.none _)
      | (with_reducible refine LeO.ite ?_ ?_)
      | (with_reducible refine LeO.bind ?_ (fun _ => ?_))
      | exact ih0 _ _ _
      | exact ih1 _ _ _ _ _
      | exact attn_Score.mono _ _ _
      | exact credenzalaw14_awake.mono _
      | exact credenzaref14_Score.mono _ _ _
      | exact LeO.none _
      | refine LeO.ite ?_ ?_
      | refine LeO.bind ?_ (fun _ => ?_)
theorem credenzalaw14_AttnScores.mono : ∀ a0 a1 k, LeO (credenzalaw14_AttnScores.f k a0 a1) (credenzalaw14_AttnScores.f (k + 1) a0 a1) := by
  intro a0 a1 k
  obtain ⟨ih0, ih1⟩ := credenzalaw14_AttnScores.mono_l k
  unfold credenzalaw14_AttnScores.f
  repeat' first
      | (with_reducible exact ih0 _ _ _)
      | (with_reducible exact ih1 _ _ _ _ _)
      | (with_reducible exact attn_Score.mono _ _ _)
      | (with_reducible exact credenzalaw14_awake.mono _)
      | (with_reducible exact credenzaref14_Score.mono _ _ _)
      | (with_reducible exact LeO.refl _)
      | (with_reducible exact LeO.none _)
      | (with_reducible refine LeO.ite ?_ ?_)
      | (with_reducible refine LeO.bind ?_ (fun _ => ?_))
      | exact ih0 _ _ _
      | exact ih1 _ _ _ _ _
      | exact attn_Score.mono _ _ _
      | exact credenzalaw14_awake.mono _
      | exact credenzaref14_Score.mono _ _ _
      | exact LeO.none _
      | refine LeO.ite ?_ ?_
      | refine LeO.bind ?_ (fun _ => ?_)
set_option maxHeartbeats 8000000 in
set_option maxRecDepth 100000 in
theorem credenzalaw14_AttnScores.calls (k : Nat) (A0 : Option Addr) (c0 : Nat) (l0 : List Int) (A1 : Option Addr) (c1 : Nat) (l1 : List Int) (r : Bool) (w : World) (hr0 : Kd.C (Kd.int .i32) w A0 l0.length l0) (hc0 : l0.length ≤ c0) (hr1 : Kd.C (Kd.int .i32) w A1 l1.length l1) (hc1 : l1.length ≤ c1) (h : credenzalaw14_AttnScores.f k l0 l1 = some r) :
    Calls Try.prog 3 #[.slice A0 l0.length c0, .slice A1 l1.length c1] w fun e w' => e = .returned (.bool r) ∧ Below w.heap.size w w' := by
  have HR0 := Aside0.mk hr0
  have HC0 := Aside0.mk hc0
  clear hr0 hc0
  have HR1 := Aside0.mk hr1
  have HC1 := Aside0.mk hc1
  clear hr1 hc1
  have HB := Aside0.mk (Below.refl w.heap.size w)
  have H : (if (l0.length : Int) > 100 then (credenzalaw14_AttnScores.j0 k l0 l1 true) else (credenzalaw14_AttnScores.j0 k l0 l1 (decide ((l1.length : Int) > 100)))) = some r := h
  clear h
  have HC3 := Aside0.mk H
  clear H
  go_enter Try.func3, Try.ntmps3
  go_upto_region 1 with (fail)
  go_cut [16] (fun v16 wc => ∃ (kq : Nat) (x16_2 : Bool), v16 = .bool x16_2 ∧ Aside0 (credenzalaw14_AttnScores.j0 kq l0 l1 x16_2 = some r) ∧ Aside0 (kq ≤ k) ∧ Aside0 (Below w.heap.size w wc))
  case first =>
    have H := HC3.out
    clear HC3
    by_cases c4 : (l0.length : Int) > 100
    · rw [if_pos c4] at H
      have c4b0 : decide (100 < (l0.length : Int)) = true := decide_eq_true c4
      have c4b1 : decide (100 < l0.length) = true := decide_eq_true (by omega)
      clear c4
      (first | rw [c4b0] | (simp only [i64_w, i32_w]; rw [c4b0]) | skip)
      have H' := Aside0.mk H
      clear H
      go_wp2
      go_meet
      case rel => exact ⟨_, (true), (by first | rfl | (simp; done) | (simp [*]; done)), H', ⟨by first | omega | exact Nat.le_refl _⟩, ⟨by repeat (first | (with_reducible first | exact HB.out | apply below_alloc | apply pw_below_drewN | apply below_drew1) | exact HB.out)⟩⟩
    · rw [if_neg c4] at H
      have c4b0 : decide (100 < (l0.length : Int)) = false := decide_eq_false c4
      have c4b1 : decide (100 < l0.length) = false := decide_eq_false (by omega)
      clear c4
      (first | rw [c4b0] | (simp only [i64_w, i32_w]; rw [c4b0]) | skip)
      have H' := Aside0.mk H
      clear H
      go_wp2
      go_meet
      case rel => exact ⟨_, (decide ((l1.length : Int) > 100)), (by first | rfl | (simp; done) | (simp [*]; done)), H', ⟨by first | omega | exact Nat.le_refl _⟩, ⟨by repeat (first | (with_reducible first | exact HB.out | apply below_alloc | apply pw_below_drewN | apply below_drew1) | exact HB.out)⟩⟩
  case rest =>
    clear HC3
    try clear c1
    try clear p2
    try clear c3
    try clear c4
    try clear c4b0
    try clear c4b1
    obtain ⟨kq, x16_2, rfl, HA, HJ2, HB⟩ := hcut
    cases kq with
    | zero => exact absurd HA.out (by simp [credenzalaw14_AttnScores.j0])
    | succ kj2 =>
      have H := HA.out
      clear HA
      simp only [credenzalaw14_AttnScores.j0] at H
      by_cases c5 : x16_2 = true
      · subst c5
        have H1 : ((credenzalaw14_awake.f kj2).bind fun t216 => (some t216)) = some r := by rw [if_pos rfl] at H; exact H
        clear H
        have H := H1
        clear H1
        replace H := Option.bind_eq_some_iff.mp H
        obtain ⟨t216, A60, H⟩ := H
        replace H : (some t216) = some r := H
        have A6 := Aside0.mk A60
        clear A60
        obtain rfl := Option.some.inj H
        go_wp2_with (first | ((with_reducible refine gate_callee (f := 8) rfl ?_); refine goesL_ (some 17) rfl rfl Try.func8 (by kernel_rfl) rfl #[] rfl (by (try simp only [List.map_toArray, List.map_cons, List.map_nil]); first | done | rfl | (simp only [List.length_drop, List.length_take]; rfl)) ?_; (with_reducible refine (credenzalaw14_awake.calls kj2  t216 _ A6.out).mono ?_); rintro e w7 ⟨rfl, hb⟩; refine ⟨_, rfl, ?_⟩; have n0_ := Aside0.mk (below_step (by repeat (first | (with_reducible first | exact HB.out | apply below_alloc | apply pw_below_drewN | apply below_drew1) | exact HB.out)) hb); clear HB; have HB := n0_; clear n0_; (try clear hb); (try clear hb2); (try clear hk); (try clear hi)))
        go_ret
        exact ⟨by first | rfl | (simp [errW_none, errW_some] <;> rfl) | (simp [*, errW_none, errW_some] <;> rfl), by repeat (first | (with_reducible first | exact HB.out | apply below_alloc | apply pw_below_drewN | apply below_drew1) | exact HB.out)⟩
      · replace c5 := Bool.eq_false_iff.mpr c5
        subst c5
        have H1 : ((attn_Score.f kj2 l0 l1).bind fun bt217 => (if (l0.length : Int) = (l1.length : Int) then (if (l0.length : Int) < 1 then (credenzalaw14_AttnScores.j1 kj2 l0 l1 bt217.1 bt217.2 true) else (credenzalaw14_AttnScores.j1 kj2 l0 l1 bt217.1 bt217.2 (decide ((l0.length : Int) > 16)))) else (credenzalaw14_AttnScores.j1 kj2 l0 l1 bt217.1 bt217.2 true))) = some r := by rw [if_neg (show ¬ (false = true) by decide)] at H; exact H
        clear H
        have H := H1
        clear H1
        replace H := Option.bind_eq_some_iff.mp H
        obtain ⟨⟨t217, t218⟩, A80, H⟩ := H
        replace H : (if (l0.length : Int) = (l1.length : Int) then (if (l0.length : Int) < 1 then (credenzalaw14_AttnScores.j1 kj2 l0 l1 t217 t218 true) else (credenzalaw14_AttnScores.j1 kj2 l0 l1 t217 t218 (decide ((l0.length : Int) > 16)))) else (credenzalaw14_AttnScores.j1 kj2 l0 l1 t217 t218 true)) = some r := H
        have A8 := Aside0.mk A80
        clear A80
        have HC9 := Aside0.mk H
        clear H
        go_upto_region 4 with (first | ((with_reducible refine gate_callee (f := 9) rfl ?_); refine goesL_ (some 21) rfl rfl Try.func9 (by kernel_rfl) rfl #[.slice A0 l0.length c0, .slice A1 l1.length c1] rfl (by (try simp only [List.map_toArray, List.map_cons, List.map_nil]); first | done | rfl | (simp only [List.length_drop, List.length_take]; rfl)) ?_; (with_reducible refine (attn_Score.calls kj2 _ _ l0 _ _ l1 t217 t218 _ ?side1 ?side2 ?side3 ?side4 A8.out).mono ?_); (case side1 => repeat (first | exact (Kd.C_below HR0.out HB.out) | (with_reducible refine Kd.C_alloc ?_ _) | (with_reducible refine Kd.C_drewN ?_ _) | (with_reducible refine Kd.C_drew ?_))); (case side2 => exact HC0.out); (case side3 => repeat (first | exact (Kd.C_below HR1.out HB.out) | (with_reducible refine Kd.C_alloc ?_ _) | (with_reducible refine Kd.C_drewN ?_ _) | (with_reducible refine Kd.C_drew ?_))); (case side4 => exact HC1.out); rintro e w10 ⟨rfl, hb⟩; refine ⟨_, rfl, ?_⟩; have n0_ := Aside0.mk (below_step (by repeat (first | (with_reducible first | exact HB.out | apply below_alloc | apply pw_below_drewN | apply below_drew1) | exact HB.out)) hb); clear HB; have HB := n0_; clear n0_; (try clear hb); (try clear hb2); (try clear hk); (try clear hi)))
        (try simp only [Act.put, List.setIfInBounds_toArray, List.set_cons_zero, List.set_cons_succ])
        go_cut [38] (fun v38 wc => ∃ (kq : Nat) (x38_8 : Bool), v38 = .bool x38_8 ∧ Aside0 (credenzalaw14_AttnScores.j1 kq l0 l1 t217 t218 x38_8 = some r) ∧ Aside0 (kq ≤ kj2) ∧ Aside0 (Below w.heap.size w wc))
        case first =>
          have H := HC9.out
          clear HC9
          by_cases c11 : (l0.length : Int) = (l1.length : Int)
          · rw [if_pos c11] at H
            have c11b0 : ((l0.length : Int) == (l1.length : Int)) = true := beq_iff_eq.mpr c11
            have c11b1 : ((l0.length : Int) != (l1.length : Int)) = false := bne_eq_false_iff_eq.mpr c11
            have c11b2 : (l0.length == l1.length) = true := by first | simpa using c11 | (simp at c11 ⊢; omega)
            clear c11
            (first | rw [c11b0] | (simp only [i64_w, i32_w]; rw [c11b0]) | skip)
            by_cases c12 : (l0.length : Int) < 1
            · rw [if_pos c12] at H
              have c12b0 : decide ((l0.length : Int) < 1) = true := decide_eq_true c12
              have c12b1 : decide (l0.length < 1) = true := decide_eq_true (by omega)
              clear c12
              have H' := Aside0.mk H
              clear H
              go_wp2
              go_meet
              case rel => exact ⟨_, (true), (by first | rfl | (simp; done) | (simp [*]; done)), H', ⟨by have := HJ2.out; first | omega | exact Nat.le_refl _⟩, ⟨by repeat (first | (with_reducible first | exact HB.out | apply below_alloc | apply pw_below_drewN | apply below_drew1) | exact HB.out)⟩⟩
            · rw [if_neg c12] at H
              have c12b0 : decide ((l0.length : Int) < 1) = false := decide_eq_false c12
              have c12b1 : decide (l0.length < 1) = false := decide_eq_false (by omega)
              clear c12
              have H' := Aside0.mk H
              clear H
              go_wp2
              go_meet
              case rel => exact ⟨_, (decide ((l0.length : Int) > 16)), (by first | rfl | (simp; done) | (simp [*]; done)), H', ⟨by have := HJ2.out; first | omega | exact Nat.le_refl _⟩, ⟨by repeat (first | (with_reducible first | exact HB.out | apply below_alloc | apply pw_below_drewN | apply below_drew1) | exact HB.out)⟩⟩
          · rw [if_neg c11] at H
            have c11b0 : ((l0.length : Int) == (l1.length : Int)) = false := beq_eq_false_iff_ne.mpr c11
            have c11b1 : ((l0.length : Int) != (l1.length : Int)) = true := bne_iff_ne.mpr c11
            have c11b2 : (l0.length == l1.length) = false := by first | simpa using c11 | (simp at c11 ⊢; omega)
            (first | rw [c11b0] | (simp only [i64_w, i32_w]; rw [c11b0]) | skip)
            have H' := Aside0.mk H
            clear H
            go_wp2
            go_meet
            case rel => exact ⟨_, (true), (by first | rfl | (simp; done) | (simp [*]; done)), H', ⟨by have := HJ2.out; first | omega | exact Nat.le_refl _⟩, ⟨by repeat (first | (with_reducible first | exact HB.out | apply below_alloc | apply pw_below_drewN | apply below_drew1) | exact HB.out)⟩⟩
        case rest =>
          clear HC9
          try clear c1
          try clear p2
          try clear c3
          try clear c4
          try clear c4b0
          try clear c4b1
          try clear c5
          try clear c8
          try clear c9
          try clear c11
          try clear c11b0
          try clear c11b1
          try clear c11b2
          try clear c12
          try clear c12b0
          try clear c12b1
          try clear p2
          obtain ⟨kq, x38_8, rfl, HA, HJ8, HB⟩ := hcut
          cases kq with
          | zero => exact absurd HA.out (by simp [credenzalaw14_AttnScores.j1])
          | succ kj8 =>
            have H := HA.out
            clear HA
            simp only [credenzalaw14_AttnScores.j1] at H
            by_cases c13 : x38_8 = true
            · subst c13
              have H1 : (if t218 = 25 then (if t217 = 0 then ((credenzalaw14_awake.f kj8).bind fun t219 => (some t219)) else (some false)) else (some false)) = some r := by rw [if_pos rfl] at H; exact H
              clear H
              have H := H1
              clear H1
              by_cases c14 : t218 = 25
              · rw [if_pos c14] at H
                have c14b0 : (t218 == 25) = true := beq_iff_eq.mpr c14
                have c14b1 : (t218 != 25) = false := bne_eq_false_iff_eq.mpr c14
                clear c14
                by_cases c15 : t217 = 0
                · rw [if_pos c15] at H
                  have c15b0 : (t217 == 0) = true := beq_iff_eq.mpr c15
                  have c15b1 : (t217 != 0) = false := bne_eq_false_iff_eq.mpr c15
                  clear c15
                  replace H := Option.bind_eq_some_iff.mp H
                  obtain ⟨t219, A160, H⟩ := H
                  replace H : (some t219) = some r := H
                  have A16 := Aside0.mk A160
                  clear A160
                  obtain rfl := Option.some.inj H
                  go_wp2_with (first | (go_at_call 8; (with_reducible refine (credenzalaw14_awake.calls kj8  t219 _ A16.out).mono ?_); rintro e w17 ⟨rfl, hb⟩; have n0_ := Aside0.mk (below_step (by repeat (first | (with_reducible first | exact HB.out | apply below_alloc | apply pw_below_drewN | apply below_drew1) | exact HB.out)) hb); clear HB; have HB := n0_; clear n0_; (try clear hb); (try clear hb2); (try clear hk); (try clear hi)))
                  go_ret
                  exact ⟨by first | rfl | (simp [errW_none, errW_some] <;> rfl) | (simp [*, errW_none, errW_some] <;> rfl), by repeat (first | (with_reducible first | exact HB.out | apply below_alloc | apply pw_below_drewN | apply below_drew1) | exact HB.out)⟩
                · rw [if_neg c15] at H
                  have c15b0 : (t217 == 0) = false := beq_eq_false_iff_ne.mpr c15
                  have c15b1 : (t217 != 0) = true := bne_iff_ne.mpr c15
                  obtain rfl := Option.some.inj H
                  go_wp2
                  go_ret
                  exact ⟨by first | rfl | (simp [errW_none, errW_some] <;> rfl) | (simp [*, errW_none, errW_some] <;> rfl), by repeat (first | (with_reducible first | exact HB.out | apply below_alloc | apply pw_below_drewN | apply below_drew1) | exact HB.out)⟩
              · rw [if_neg c14] at H
                have c14b0 : (t218 == 25) = false := beq_eq_false_iff_ne.mpr c14
                have c14b1 : (t218 != 25) = true := bne_iff_ne.mpr c14
                obtain rfl := Option.some.inj H
                go_wp2
                go_ret
                exact ⟨by first | rfl | (simp [errW_none, errW_some] <;> rfl) | (simp [*, errW_none, errW_some] <;> rfl), by repeat (first | (with_reducible first | exact HB.out | apply below_alloc | apply pw_below_drewN | apply below_drew1) | exact HB.out)⟩
            · replace c13 := Bool.eq_false_iff.mpr c13
              subst c13
              have H1 : ((attn_Score.f kj8 l1 l0).bind fun bt220 => (if t218 = 0 then (if bt220.2 = 0 then ((credenzaref14_Score.f kj8 l0 l1).bind fun t222 => (if t217 = t222 then (if bt220.1 = t217 then ((credenzalaw14_awake.f kj8).bind fun t223 => (some t223)) else (some false)) else (some false))) else (some false)) else (some false))) = some r := by rw [if_neg (show ¬ (false = true) by decide)] at H; exact H
              clear H
              have H := H1
              clear H1
              replace H := Option.bind_eq_some_iff.mp H
              obtain ⟨⟨t220, t221⟩, A180, H⟩ := H
              replace H : (if t218 = 0 then (if t221 = 0 then ((credenzaref14_Score.f kj8 l0 l1).bind fun t222 => (if t217 = t222 then (if t220 = t217 then ((credenzalaw14_awake.f kj8).bind fun t223 => (some t223)) else (some false)) else (some false))) else (some false)) else (some false)) = some r := H
              have A18 := Aside0.mk A180
              clear A180
              by_cases c19 : t218 = 0
              · rw [if_pos c19] at H
                have c19b0 : (t218 == 0) = true := beq_iff_eq.mpr c19
                have c19b1 : (t218 != 0) = false := bne_eq_false_iff_eq.mpr c19
                clear c19
                by_cases c20 : t221 = 0
                · rw [if_pos c20] at H
                  have c20b0 : (t221 == 0) = true := beq_iff_eq.mpr c20
                  have c20b1 : (t221 != 0) = false := bne_eq_false_iff_eq.mpr c20
                  clear c20
                  replace H := Option.bind_eq_some_iff.mp H
                  obtain ⟨t222, A210, H⟩ := H
                  replace H : (if t217 = t222 then (if t220 = t217 then ((credenzalaw14_awake.f kj8).bind fun t223 => (some t223)) else (some false)) else (some false)) = some r := H
                  have A21 := Aside0.mk A210
                  clear A210
                  by_cases c22 : t217 = t222
                  · rw [if_pos c22] at H
                    have c22b0 : (t217 == t222) = true := beq_iff_eq.mpr c22
                    have c22b1 : (t217 != t222) = false := bne_eq_false_iff_eq.mpr c22
                    clear c22
                    by_cases c23 : t220 = t217
                    · rw [if_pos c23] at H
                      have c23b0 : (t220 == t217) = true := beq_iff_eq.mpr c23
                      have c23b1 : (t220 != t217) = false := bne_eq_false_iff_eq.mpr c23
                      clear c23
                      replace H := Option.bind_eq_some_iff.mp H
                      obtain ⟨t223, A240, H⟩ := H
                      replace H : (some t223) = some r := H
                      have A24 := Aside0.mk A240
                      clear A240
                      obtain rfl := Option.some.inj H
                      go_wp2_with (first | ((with_reducible refine gate_callee (f := 9) rfl ?_); refine goesL_ (some 51) rfl rfl Try.func9 (by kernel_rfl) rfl #[.slice A1 l1.length c1, .slice A0 l0.length c0] rfl (by (try simp only [List.map_toArray, List.map_cons, List.map_nil]); first | done | rfl | (simp only [List.length_drop, List.length_take]; rfl)) ?_; (with_reducible refine (attn_Score.calls kj8 _ _ l1 _ _ l0 t220 t221 _ ?side1 ?side2 ?side3 ?side4 A18.out).mono ?_); (case side1 => repeat (first | exact (Kd.C_below HR1.out HB.out) | (with_reducible refine Kd.C_alloc ?_ _) | (with_reducible refine Kd.C_drewN ?_ _) | (with_reducible refine Kd.C_drew ?_))); (case side2 => exact HC1.out); (case side3 => repeat (first | exact (Kd.C_below HR0.out HB.out) | (with_reducible refine Kd.C_alloc ?_ _) | (with_reducible refine Kd.C_drewN ?_ _) | (with_reducible refine Kd.C_drew ?_))); (case side4 => exact HC0.out); rintro e w25 ⟨rfl, hb⟩; refine ⟨_, rfl, ?_⟩; have n0_ := Aside0.mk (below_step (by repeat (first | (with_reducible first | exact HB.out | apply below_alloc | apply pw_below_drewN | apply below_drew1) | exact HB.out)) hb); clear HB; have HB := n0_; clear n0_; (try clear hb); (try clear hb2); (try clear hk); (try clear hi)) | (go_at_call 10; (with_reducible refine (credenzaref14_Score.calls kj8 _ _ l0 _ _ l1 t222 _ ?side1 ?side2 ?side3 ?side4 A21.out).mono ?_); (case side1 => repeat (first | exact (Kd.C_below HR0.out HB.out) | (with_reducible refine Kd.C_alloc ?_ _) | (with_reducible refine Kd.C_drewN ?_ _) | (with_reducible refine Kd.C_drew ?_))); (case side2 => exact HC0.out); (case side3 => repeat (first | exact (Kd.C_below HR1.out HB.out) | (with_reducible refine Kd.C_alloc ?_ _) | (with_reducible refine Kd.C_drewN ?_ _) | (with_reducible refine Kd.C_drew ?_))); (case side4 => exact HC1.out); rintro e w26 ⟨rfl, hb⟩; have n0_ := Aside0.mk (below_step (by repeat (first | (with_reducible first | exact HB.out | apply below_alloc | apply pw_below_drewN | apply below_drew1) | exact HB.out)) hb); clear HB; have HB := n0_; clear n0_; (try clear hb); (try clear hb2); (try clear hk); (try clear hi)) | (go_at_call 8; (with_reducible refine (credenzalaw14_awake.calls kj8  t223 _ A24.out).mono ?_); rintro e w27 ⟨rfl, hb⟩; have n0_ := Aside0.mk (below_step (by repeat (first | (with_reducible first | exact HB.out | apply below_alloc | apply pw_below_drewN | apply below_drew1) | exact HB.out)) hb); clear HB; have HB := n0_; clear n0_; (try clear hb); (try clear hb2); (try clear hk); (try clear hi)))
                      go_ret
                      exact ⟨by first | rfl | (simp [errW_none, errW_some] <;> rfl) | (simp [*, errW_none, errW_some] <;> rfl), by repeat (first | (with_reducible first | exact HB.out | apply below_alloc | apply pw_below_drewN | apply below_drew1) | exact HB.out)⟩
                    · rw [if_neg c23] at H
                      have c23b0 : (t220 == t217) = false := beq_eq_false_iff_ne.mpr c23
                      have c23b1 : (t220 != t217) = true := bne_iff_ne.mpr c23
                      obtain rfl := Option.some.inj H
                      go_wp2_with (first | ((with_reducible refine gate_callee (f := 9) rfl ?_); refine goesL_ (some 51) rfl rfl Try.func9 (by kernel_rfl) rfl #[.slice A1 l1.length c1, .slice A0 l0.length c0] rfl (by (try simp only [List.map_toArray, List.map_cons, List.map_nil]); first | done | rfl | (simp only [List.length_drop, List.length_take]; rfl)) ?_; (with_reducible refine (attn_Score.calls kj8 _ _ l1 _ _ l0 t220 t221 _ ?side1 ?side2 ?side3 ?side4 A18.out).mono ?_); (case side1 => repeat (first | exact (Kd.C_below HR1.out HB.out) | (with_reducible refine Kd.C_alloc ?_ _) | (with_reducible refine Kd.C_drewN ?_ _) | (with_reducible refine Kd.C_drew ?_))); (case side2 => exact HC1.out); (case side3 => repeat (first | exact (Kd.C_below HR0.out HB.out) | (with_reducible refine Kd.C_alloc ?_ _) | (with_reducible refine Kd.C_drewN ?_ _) | (with_reducible refine Kd.C_drew ?_))); (case side4 => exact HC0.out); rintro e w28 ⟨rfl, hb⟩; refine ⟨_, rfl, ?_⟩; have n0_ := Aside0.mk (below_step (by repeat (first | (with_reducible first | exact HB.out | apply below_alloc | apply pw_below_drewN | apply below_drew1) | exact HB.out)) hb); clear HB; have HB := n0_; clear n0_; (try clear hb); (try clear hb2); (try clear hk); (try clear hi)) | (go_at_call 10; (with_reducible refine (credenzaref14_Score.calls kj8 _ _ l0 _ _ l1 t222 _ ?side1 ?side2 ?side3 ?side4 A21.out).mono ?_); (case side1 => repeat (first | exact (Kd.C_below HR0.out HB.out) | (with_reducible refine Kd.C_alloc ?_ _) | (with_reducible refine Kd.C_drewN ?_ _) | (with_reducible refine Kd.C_drew ?_))); (case side2 => exact HC0.out); (case side3 => repeat (first | exact (Kd.C_below HR1.out HB.out) | (with_reducible refine Kd.C_alloc ?_ _) | (with_reducible refine Kd.C_drewN ?_ _) | (with_reducible refine Kd.C_drew ?_))); (case side4 => exact HC1.out); rintro e w29 ⟨rfl, hb⟩; have n0_ := Aside0.mk (below_step (by repeat (first | (with_reducible first | exact HB.out | apply below_alloc | apply pw_below_drewN | apply below_drew1) | exact HB.out)) hb); clear HB; have HB := n0_; clear n0_; (try clear hb); (try clear hb2); (try clear hk); (try clear hi)))
                      go_ret
                      exact ⟨by first | rfl | (simp [errW_none, errW_some] <;> rfl) | (simp [*, errW_none, errW_some] <;> rfl), by repeat (first | (with_reducible first | exact HB.out | apply below_alloc | apply pw_below_drewN | apply below_drew1) | exact HB.out)⟩
                  · rw [if_neg c22] at H
                    have c22b0 : (t217 == t222) = false := beq_eq_false_iff_ne.mpr c22
                    have c22b1 : (t217 != t222) = true := bne_iff_ne.mpr c22
                    obtain rfl := Option.some.inj H
                    go_wp2_with (first | ((with_reducible refine gate_callee (f := 9) rfl ?_); refine goesL_ (some 51) rfl rfl Try.func9 (by kernel_rfl) rfl #[.slice A1 l1.length c1, .slice A0 l0.length c0] rfl (by (try simp only [List.map_toArray, List.map_cons, List.map_nil]); first | done | rfl | (simp only [List.length_drop, List.length_take]; rfl)) ?_; (with_reducible refine (attn_Score.calls kj8 _ _ l1 _ _ l0 t220 t221 _ ?side1 ?side2 ?side3 ?side4 A18.out).mono ?_); (case side1 => repeat (first | exact (Kd.C_below HR1.out HB.out) | (with_reducible refine Kd.C_alloc ?_ _) | (with_reducible refine Kd.C_drewN ?_ _) | (with_reducible refine Kd.C_drew ?_))); (case side2 => exact HC1.out); (case side3 => repeat (first | exact (Kd.C_below HR0.out HB.out) | (with_reducible refine Kd.C_alloc ?_ _) | (with_reducible refine Kd.C_drewN ?_ _) | (with_reducible refine Kd.C_drew ?_))); (case side4 => exact HC0.out); rintro e w30 ⟨rfl, hb⟩; refine ⟨_, rfl, ?_⟩; have n0_ := Aside0.mk (below_step (by repeat (first | (with_reducible first | exact HB.out | apply below_alloc | apply pw_below_drewN | apply below_drew1) | exact HB.out)) hb); clear HB; have HB := n0_; clear n0_; (try clear hb); (try clear hb2); (try clear hk); (try clear hi)) | (go_at_call 10; (with_reducible refine (credenzaref14_Score.calls kj8 _ _ l0 _ _ l1 t222 _ ?side1 ?side2 ?side3 ?side4 A21.out).mono ?_); (case side1 => repeat (first | exact (Kd.C_below HR0.out HB.out) | (with_reducible refine Kd.C_alloc ?_ _) | (with_reducible refine Kd.C_drewN ?_ _) | (with_reducible refine Kd.C_drew ?_))); (case side2 => exact HC0.out); (case side3 => repeat (first | exact (Kd.C_below HR1.out HB.out) | (with_reducible refine Kd.C_alloc ?_ _) | (with_reducible refine Kd.C_drewN ?_ _) | (with_reducible refine Kd.C_drew ?_))); (case side4 => exact HC1.out); rintro e w31 ⟨rfl, hb⟩; have n0_ := Aside0.mk (below_step (by repeat (first | (with_reducible first | exact HB.out | apply below_alloc | apply pw_below_drewN | apply below_drew1) | exact HB.out)) hb); clear HB; have HB := n0_; clear n0_; (try clear hb); (try clear hb2); (try clear hk); (try clear hi)))
                    go_ret
                    exact ⟨by first | rfl | (simp [errW_none, errW_some] <;> rfl) | (simp [*, errW_none, errW_some] <;> rfl), by repeat (first | (with_reducible first | exact HB.out | apply below_alloc | apply pw_below_drewN | apply below_drew1) | exact HB.out)⟩
                · rw [if_neg c20] at H
                  have c20b0 : (t221 == 0) = false := beq_eq_false_iff_ne.mpr c20
                  have c20b1 : (t221 != 0) = true := bne_iff_ne.mpr c20
                  obtain rfl := Option.some.inj H
                  go_wp2_with (first | ((with_reducible refine gate_callee (f := 9) rfl ?_); refine goesL_ (some 51) rfl rfl Try.func9 (by kernel_rfl) rfl #[.slice A1 l1.length c1, .slice A0 l0.length c0] rfl (by (try simp only [List.map_toArray, List.map_cons, List.map_nil]); first | done | rfl | (simp only [List.length_drop, List.length_take]; rfl)) ?_; (with_reducible refine (attn_Score.calls kj8 _ _ l1 _ _ l0 t220 t221 _ ?side1 ?side2 ?side3 ?side4 A18.out).mono ?_); (case side1 => repeat (first | exact (Kd.C_below HR1.out HB.out) | (with_reducible refine Kd.C_alloc ?_ _) | (with_reducible refine Kd.C_drewN ?_ _) | (with_reducible refine Kd.C_drew ?_))); (case side2 => exact HC1.out); (case side3 => repeat (first | exact (Kd.C_below HR0.out HB.out) | (with_reducible refine Kd.C_alloc ?_ _) | (with_reducible refine Kd.C_drewN ?_ _) | (with_reducible refine Kd.C_drew ?_))); (case side4 => exact HC0.out); rintro e w32 ⟨rfl, hb⟩; refine ⟨_, rfl, ?_⟩; have n0_ := Aside0.mk (below_step (by repeat (first | (with_reducible first | exact HB.out | apply below_alloc | apply pw_below_drewN | apply below_drew1) | exact HB.out)) hb); clear HB; have HB := n0_; clear n0_; (try clear hb); (try clear hb2); (try clear hk); (try clear hi)))
                  go_ret
                  exact ⟨by first | rfl | (simp [errW_none, errW_some] <;> rfl) | (simp [*, errW_none, errW_some] <;> rfl), by repeat (first | (with_reducible first | exact HB.out | apply below_alloc | apply pw_below_drewN | apply below_drew1) | exact HB.out)⟩
              · rw [if_neg c19] at H
                have c19b0 : (t218 == 0) = false := beq_eq_false_iff_ne.mpr c19
                have c19b1 : (t218 != 0) = true := bne_iff_ne.mpr c19
                obtain rfl := Option.some.inj H
                go_wp2_with (first | ((with_reducible refine gate_callee (f := 9) rfl ?_); refine goesL_ (some 51) rfl rfl Try.func9 (by kernel_rfl) rfl #[.slice A1 l1.length c1, .slice A0 l0.length c0] rfl (by (try simp only [List.map_toArray, List.map_cons, List.map_nil]); first | done | rfl | (simp only [List.length_drop, List.length_take]; rfl)) ?_; (with_reducible refine (attn_Score.calls kj8 _ _ l1 _ _ l0 t220 t221 _ ?side1 ?side2 ?side3 ?side4 A18.out).mono ?_); (case side1 => repeat (first | exact (Kd.C_below HR1.out HB.out) | (with_reducible refine Kd.C_alloc ?_ _) | (with_reducible refine Kd.C_drewN ?_ _) | (with_reducible refine Kd.C_drew ?_))); (case side2 => exact HC1.out); (case side3 => repeat (first | exact (Kd.C_below HR0.out HB.out) | (with_reducible refine Kd.C_alloc ?_ _) | (with_reducible refine Kd.C_drewN ?_ _) | (with_reducible refine Kd.C_drew ?_))); (case side4 => exact HC0.out); rintro e w33 ⟨rfl, hb⟩; refine ⟨_, rfl, ?_⟩; have n0_ := Aside0.mk (below_step (by repeat (first | (with_reducible first | exact HB.out | apply below_alloc | apply pw_below_drewN | apply below_drew1) | exact HB.out)) hb); clear HB; have HB := n0_; clear n0_; (try clear hb); (try clear hb2); (try clear hk); (try clear hi)))
                go_ret
                exact ⟨by first | rfl | (simp [errW_none, errW_some] <;> rfl) | (simp [*, errW_none, errW_some] <;> rfl), by repeat (first | (with_reducible first | exact HB.out | apply below_alloc | apply pw_below_drewN | apply below_drew1) | exact HB.out)⟩

/-- THE ONE PURE STATEMENT of credenzalaw14_AttnScores: yours. -/
def credenzalaw14_AttnScores.Pure : Prop := ∀ (l0 : List Int) (l1 : List Int), l0.length ≤ maxLen → l0.length * 4 ≤ 140737488351232 → (∀ x ∈ l0, (Lit.int .i32 x).wf = true) → l1.length ≤ maxLen → l1.length * 4 ≤ 140737488351232 → (∀ x ∈ l1, (Lit.int .i32 x).wf = true) → ∃ k, credenzalaw14_AttnScores.f k l0 l1 = some true
theorem credenzalaw14_AttnScores.walk (P : credenzalaw14_AttnScores.Pure) (a0 : Option Addr) (len0 cap0 : Nat) (z0 : List Int) (a1 : Option Addr) (len1 cap1 : Nat) (z1 : List Int) (w : World) (w0 : (a0 = none ∧ len0 = 0 ∧ cap0 = 0 ∧ z0 = []) ∨ ∃ x, a0 = some x ∧ len0 ≤ cap0 ∧ cap0 ≤ maxLen ∧ z0.length = cap0 ∧ (∀ i, i < z0.length → w.cell? (x.add i) = some (.int .i32 (z0.getD i 0))) ∧ ∀ n ∈ z0, (Lit.int .i32 n).wf = true) (y0 : len0 * 4 ≤ 140737488351232) (w1 : (a1 = none ∧ len1 = 0 ∧ cap1 = 0 ∧ z1 = []) ∨ ∃ x, a1 = some x ∧ len1 ≤ cap1 ∧ cap1 ≤ maxLen ∧ z1.length = cap1 ∧ (∀ i, i < z1.length → w.cell? (x.add i) = some (.int .i32 (z1.getD i 0))) ∧ ∀ n ∈ z1, (Lit.int .i32 n).wf = true) (y1 : len1 * 4 ≤ 140737488351232) :
    Calls Try.prog 3 #[.slice a0 len0 cap0, .slice a1 len1 cap1] w fun e w' => e = .returned (.bool true) ∧ Below w.heap.size w w' := by
  obtain ⟨l0, rfl, hr0, hm0, hw0, hc0⟩ := ReadsInt.ofRowC w0
  obtain ⟨l1, rfl, hr1, hm1, hw1, hc1⟩ := ReadsInt.ofRowC w1
  obtain ⟨k, h⟩ := P l0 l1 hm0 y0 hw0 hm1 y1 hw1
  refine (credenzalaw14_AttnScores.calls k _ _ l0 _ _ l1 true w (Kd.C_of_reads (d := (0 : Int)) (h1 := fun _ => rfl) hr0) hc0 (Kd.C_of_reads (d := (0 : Int)) (h1 := fun _ => rfl) hr1) hc1 h).mono ?_
  rintro e w' ⟨rfl, hd⟩
  exact ⟨rfl, hd⟩

end Go.Proofs.Yteflolamihhmdaa.Q

namespace Go.Proofs.Yteflolamihhmdaa.Q
open Go.RowKit Go.Proofs.YteflolamihhmdaaW.PrintWords Go.Proofs.YteflolamihhmdaaW.PrintLast Go.Proofs.YteflolamihhmdaaW.PrintMore
attribute [local go_sem] max2_int min2_int max_two min_two max_three min_three max_four min_four   -- for this text's walks alone
set_option linter.unusedVariables false
set_option linter.unusedSimpArgs false

/-! ### credenzaref01_Power: function 81 -/
def credenzaref01_Power.l0 : Nat → Int → Int → Int → Option (Int)
  | 0, _, _, _ => none
  | k + 1, x0, x3, x4 => if x4 < x0 then (credenzaref01_Power.l0 k x0 (wrap64 (x3 * 2)) (wrap64 (x4 + 1))) else (some x3)
def credenzaref01_Power.f (k : Nat) (a0 : Int) : Option (Int) := credenzaref01_Power.l0 k a0 1 0
theorem credenzaref01_Power.mono_l : ∀ k, (∀ y0 y1 y2, LeO (credenzaref01_Power.l0 k y0 y1 y2) (credenzaref01_Power.l0 (k + 1) y0 y1 y2))
  | 0 => fun _ _ _ r h => by simp [credenzaref01_Power.l0] at h
  | k + 1 => by
    have ih0 := credenzaref01_Power.mono_l k
    · intro y0 y1 y2
      unfold credenzaref01_Power.l0
      repeat' first
      | (with_reducible exact ih0 _ _ _)
      | (with_reducible exact LeO.refl _)
      | (with_reducible exact LeO.none _)
      | (with_reducible refine LeO.ite ?_ ?_)
      | (with_reducible refine LeO.bind ?_ (fun _ => ?_))
      | exact ih0 _ _ _
      | exact LeO.none _
      | refine LeO.ite ?_ ?_
      | refine LeO.bind ?_ (fun _ => ?_)
theorem credenzaref01_Power.mono : ∀ a0 k, LeO (credenzaref01_Power.f k a0) (credenzaref01_Power.f (k + 1) a0) := by
  intro a0 k
  have ih0 := credenzaref01_Power.mono_l k
  unfold credenzaref01_Power.f
  repeat' first
      | (with_reducible exact ih0 _ _ _)
      | (with_reducible exact LeO.refl _)
      | (with_reducible exact LeO.none _)
      | (with_reducible refine LeO.ite ?_ ?_)
      | (with_reducible refine LeO.bind ?_ (fun _ => ?_))
      | exact ih0 _ _ _
      | exact LeO.none _
      | refine LeO.ite ?_ ?_
      | refine LeO.bind ?_ (fun _ => ?_)
set_option maxHeartbeats 8000000 in
set_option maxRecDepth 100000 in
theorem credenzaref01_Power.calls (k : Nat) (a0 : Int) (r : Int) (w : World) (h : credenzaref01_Power.f k a0 = some r) :
    Calls Try.prog 81 #[.int .i64 a0] w fun e w' => e = .returned (.int .i64 r) ∧ Drawn0 w w' := by
  have H : (credenzaref01_Power.l0 k a0 1 0) = some r := h
  clear h
  have H' := Aside0.mk H
  clear H
  go_enter Try.func81, Try.ntmps81
  go_wp2
  go_loopg [3, 4] k (fun kq v3 v4 w' => ∃ (x3_1 : Int) (x4_1 : Int), v3 = .int .i64 x3_1 ∧ v4 = .int .i64 x4_1 ∧ Aside0 (credenzaref01_Power.l0 kq a0 x3_1 x4_1 = some r) ∧ Aside0 (kq ≤ k) ∧ Drawn0 w w')
  case atStart => exact ⟨(1), (0), (by first | rfl | (simp; done) | (simp [*]; done)), (by first | rfl | (simp; done) | (simp [*]; done)), H', ⟨Nat.le_refl _⟩, by repeat (first | exact Drawn0.refl _ | apply Drawn0.step)⟩
  case round =>
    clear H'
    obtain ⟨x3_1, x4_1, rfl, rfl, HA, HK1, ⟨m1, rfl⟩⟩ := hrel
    cases gk with
    | zero => exact absurd HA.out (by simp [credenzaref01_Power.l0])
    | succ k1 =>
      have H := HA.out
      clear HA
      simp only [credenzaref01_Power.l0] at H
      by_cases c2 : x4_1 < a0
      · rw [if_pos c2] at H
        have c2b0 : decide (x4_1 < a0) = true := decide_eq_true c2
        clear c2
        have H' := Aside0.mk H
        clear H
        go_wp2
        go_roundg k1
        case measure => have := HK1.out; omega
        case rel => exact ⟨(wrap64 (x3_1 * 2)), (wrap64 (x4_1 + 1)), (by first | rfl | (simp; done) | (simp [*]; done)), (by first | rfl | (simp; done) | (simp [*]; done)), H', ⟨by have := HK1.out; omega⟩, by repeat (first | exact Drawn0.refl _ | apply Drawn0.step)⟩
      · rw [if_neg c2] at H
        have c2b0 : decide (x4_1 < a0) = false := decide_eq_false c2
        clear c2
        obtain rfl := Option.some.inj H
        go_wp2
        go_ret
        exact ⟨by first | rfl | (simp; done) | (simp [*]; done), by repeat (first | exact Drawn0.refl _ | apply Drawn0.step)⟩

end Go.Proofs.Yteflolamihhmdaa.Q

namespace Go.Proofs.Yteflolamihhmdaa.Q
open Go.RowKit Go.Proofs.YteflolamihhmdaaW.PrintWords Go.Proofs.YteflolamihhmdaaW.PrintLast Go.Proofs.YteflolamihhmdaaW.PrintMore
attribute [local go_sem] max2_int min2_int max_two min_two max_three min_three max_four min_four   -- for this text's walks alone
set_option linter.unusedVariables false
set_option linter.unusedSimpArgs false

/-! ### credenzaref01_Half: function 73 -/
def credenzaref01_Half.f (k : Nat) (a0 : Int) (a1 : Int) : Option (Int) := (credenzaref01_Cut.f a1 0 62).bind fun t244 => ((credenzaref01_Power.f k t244).bind fun t245 => ((credenzaref01_Ratio.f a0 t245).bind fun t246 => (some t246)))
theorem credenzaref01_Half.mono : ∀ a0 a1 k, LeO (credenzaref01_Half.f k a0 a1) (credenzaref01_Half.f (k + 1) a0 a1) := by
  intro a0 a1 k
  unfold credenzaref01_Half.f
  repeat' first
      | (with_reducible exact credenzaref01_Power.mono _ _)
      | (with_reducible exact LeO.refl _)
      | (with_reducible exact LeO.none _)
      | (with_reducible refine LeO.ite ?_ ?_)
      | (with_reducible refine LeO.bind ?_ (fun _ => ?_))
      | exact credenzaref01_Power.mono _ _
      | exact LeO.none _
      | refine LeO.ite ?_ ?_
      | refine LeO.bind ?_ (fun _ => ?_)
set_option maxHeartbeats 8000000 in
set_option maxRecDepth 100000 in
theorem credenzaref01_Half.calls (k : Nat) (a0 : Int) (a1 : Int) (r : Int) (w : World) (h : credenzaref01_Half.f k a0 a1 = some r) :
    Calls Try.prog 73 #[.int .i64 a0, .int .i64 a1] w fun e w' => e = .returned (.int .i64 r) ∧ Drawn0 w w' := by
  have H : ((credenzaref01_Cut.f a1 0 62).bind fun t244 => ((credenzaref01_Power.f k t244).bind fun t245 => ((credenzaref01_Ratio.f a0 t245).bind fun t246 => (some t246)))) = some r := h
  clear h
  replace H := Option.bind_eq_some_iff.mp H
  obtain ⟨t244, A30, H⟩ := H
  replace H : ((credenzaref01_Power.f k t244).bind fun t245 => ((credenzaref01_Ratio.f a0 t245).bind fun t246 => (some t246))) = some r := H
  have A3 := Aside0.mk A30
  clear A30
  replace H := Option.bind_eq_some_iff.mp H
  obtain ⟨t245, A40, H⟩ := H
  replace H : ((credenzaref01_Ratio.f a0 t245).bind fun t246 => (some t246)) = some r := H
  have A4 := Aside0.mk A40
  clear A40
  replace H := Option.bind_eq_some_iff.mp H
  obtain ⟨t246, A50, H⟩ := H
  replace H : (some t246) = some r := H
  have A5 := Aside0.mk A50
  clear A50
  obtain rfl := Option.some.inj H
  go_enter Try.func73, Try.ntmps73
  go_wp2_with (first | ((with_reducible refine gate_callee (f := 50) rfl ?_); refine goesL_ (some 7) rfl rfl Try.func50 (by kernel_rfl) rfl #[.int .i64 a1, .int .i64 0, .int .i64 62] rfl (by (try simp only [List.map_toArray, List.map_cons, List.map_nil]); first | done | rfl | (simp only [List.length_drop, List.length_take]; rfl)) ?_; (with_reducible refine (credenzaref01_Cut.calls a1 0 62 t244 _ A3.out).mono ?_); rintro e w' ⟨rfl, ⟨nd, rfl⟩⟩; refine ⟨_, rfl, ?_⟩) | ((with_reducible refine gate_callee (f := 81) rfl ?_); refine goesL_ (some 8) rfl rfl Try.func81 (by kernel_rfl) rfl #[.int .i64 t244] rfl (by (try simp only [List.map_toArray, List.map_cons, List.map_nil]); first | done | rfl | (simp only [List.length_drop, List.length_take]; rfl)) ?_; (with_reducible refine (credenzaref01_Power.calls k t244 t245 _ A4.out).mono ?_); rintro e w' ⟨rfl, ⟨nd, rfl⟩⟩; refine ⟨_, rfl, ?_⟩) | ((with_reducible refine gate_callee (f := 29) rfl ?_); refine goesL_ (some 9) rfl rfl Try.func29 (by kernel_rfl) rfl #[.int .i64 a0, .int .i64 t245] rfl (by (try simp only [List.map_toArray, List.map_cons, List.map_nil]); first | done | rfl | (simp only [List.length_drop, List.length_take]; rfl)) ?_; (with_reducible refine (credenzaref01_Ratio.calls a0 t245 t246 _ A5.out).mono ?_); rintro e w' ⟨rfl, ⟨nd, rfl⟩⟩; refine ⟨_, rfl, ?_⟩))
  go_ret
  exact ⟨by first | rfl | (simp; done) | (simp [*]; done), by repeat (first | exact Drawn0.refl _ | apply Drawn0.step)⟩

end Go.Proofs.Yteflolamihhmdaa.Q

namespace Go.Proofs.Yteflolamihhmdaa.Pure
open Go.RowKit Go.Proofs.Yteflolamihhmdaa.Q Go.Proofs.YteflolamihhmdaaW.PrintWords Go.Proofs.YteflolamihhmdaaW.PrintLast

theorem bits_and1 (q : Int) : Go.bits .and .i64 q 1 = q % 2 := by
  have h1 : (BitVec.ofInt 64 1).toNat = 1 := by decide
  have h2 : ((BitVec.ofInt 64 q) &&& (BitVec.ofInt 64 1)).toNat = ((BitVec.ofInt 64 q).toNat % 2) := by
    rw [BitVec.toNat_and, h1, Nat.and_one_is_mod]
  have h3 : (BitVec.ofInt 64 q).toNat = (q % 18446744073709551616).toNat := by rw [BitVec.toNat_ofInt]; rfl
  have hb : IntKind.i64.bits = 64 := rfl
  unfold bits
  show IntKind.i64.wrap (((BitVec.ofInt 64 q) &&& (BitVec.ofInt 64 1)).toNat : Int) = q % 2
  rw [h2, h3, IntWalk.i64_in _ (by omega)]
  omega

/-- cut to a range -/
def cutR (v lo hi : Int) : Int := if v < lo then lo else if hi < v then hi else v
def wideR (v : Int) : Int := cutR v (-2147483648) 2147483647
def narR (v : Int) : Int := cutR v (-8388608) 8388608
theorem cutR_bd {v lo hi : Int} (h : lo ≤ hi) : lo ≤ cutR v lo hi ∧ cutR v lo hi ≤ hi := by unfold cutR; split <;> (try split) <;> omega
theorem narR_bd (v : Int) : -8388608 ≤ narR v ∧ narR v ≤ 8388608 := cutR_bd (by omega)
theorem wideR_bd (v : Int) : -2147483648 ≤ wideR v ∧ wideR v ≤ 2147483647 := cutR_bd (by omega)
theorem w64 {x : Int} (h1 : -9223372036854775808 ≤ x) (h2 : x ≤ 9223372036854775807) : wrap64 x = x := IntWalk.wrap64_in x ⟨h1, h2⟩
theorem w32 {x : Int} (h1 : -2147483648 ≤ x) (h2 : x ≤ 2147483647) : wrap32 x = x := IntWalk.wrap32_in x ⟨h1, h2⟩
theorem fix_cut_some (v lo hi : Int) (h : lo ≤ hi) (h1 : -2147483648 ≤ lo) (h2 : hi ≤ 2147483647) : fix_cut.f v lo hi = some (cutR v lo hi) := by
  have hb := cutR_bd (v := v) h
  have e : mn (mx v lo) hi = cutR v lo hi := by unfold mn mx cutR; omega
  unfold fix_cut.f
  rw [e, w32 (by omega) (by omega)]
theorem fix_Wide_some (v : Int) : fix_Wide.f v = some (wideR v) := by
  unfold fix_Wide.f
  rw [fix_cut_some v _ _ (by omega) (by omega) (by omega)]
  rfl
theorem fix_Narrow_some (v : Int) : fix_Narrow.f v = some (narR v) := by
  unfold fix_Narrow.f
  rw [fix_cut_some v _ _ (by omega) (by omega) (by omega)]
  rfl
theorem ref_Cut_some (v lo hi : Int) : credenzaref01_Cut.f v lo hi = some (cutR v lo hi) := by
  unfold credenzaref01_Cut.f cutR
  by_cases h1 : v < lo
  · rw [if_pos h1, if_pos h1]
  · rw [if_neg h1, if_neg h1]
    by_cases h2 : v > hi
    · rw [if_pos h2, if_pos h2]
    · rw [if_neg h2, if_neg h2]
theorem ref_Wide_some (v : Int) : credenzaref01_Wide.f v = some (wideR v) := by
  have hb := wideR_bd v
  unfold credenzaref01_Wide.f
  rw [ref_Cut_some]
  show some (wrap32 (wideR v)) = _
  rw [w32 hb.1 hb.2]
theorem ref_Narrow_some (v : Int) : credenzaref01_Narrow.f v = some (narR v) := by
  have hb := narR_bd v
  unfold credenzaref01_Narrow.f
  rw [ref_Cut_some]
  show some (wrap32 (narR v)) = _
  rw [w32 (by omega) (by omega)]

/-- a by b (above 0), to the nearest; from the middle to the even one -/
def rnd (a b : Int) : Int := if b - a % b < a % b ∨ (a % b = b - a % b ∧ (a / b) % 2 ≠ 0) then a / b + 1 else a / b
theorem divmod {a b : Int} (hb : 0 < b) : b * (a / b) + a % b = a ∧ 0 ≤ a % b ∧ a % b < b := ⟨Int.mul_ediv_add_emod a b, Int.emod_nonneg _ (by omega), Int.emod_lt_of_pos _ hb⟩
theorem div_bd {a b : Int} (hb : 0 < b) (B : Int) (h1 : -B ≤ a) (h2 : a ≤ B) : -B ≤ a / b ∧ a / b ≤ B := by
  have hB : 0 ≤ B := by omega
  constructor
  · apply Int.le_ediv_of_mul_le hb
    have : -B * b ≤ -B * 1 := Int.mul_le_mul_of_nonpos_left (by omega) (by omega)
    omega
  · have : a / b < B + 1 := by
      apply Int.ediv_lt_of_lt_mul hb
      have : (B + 1) * 1 ≤ (B + 1) * b := Int.mul_le_mul_of_nonneg_left (by omega) (by omega)
      omega
    omega
theorem tdiv_cases {a b : Int} (hb : 0 < b) : (Int.tdiv a b = a / b ∧ (0 ≤ a ∨ a % b = 0)) ∨ (Int.tdiv a b = a / b + 1 ∧ a < 0 ∧ a % b ≠ 0) := by
  rw [Int.tdiv_eq_ediv]
  by_cases h : 0 ≤ a ∨ b ∣ a
  · rw [if_pos h]
    refine .inl ⟨by omega, h.imp_right (fun h => Int.emod_eq_zero_of_dvd h)⟩
  · rw [if_neg h]
    refine .inr ⟨by rw [Int.sign_eq_one_of_pos hb], by omega, fun h2 => h (.inr (Int.dvd_of_emod_eq_zero h2))⟩
theorem rnd_bd {a b : Int} (hb : 0 < b) (B : Int) (h1 : -B ≤ a) (h2 : a ≤ B) : -B ≤ rnd a b ∧ rnd a b ≤ B + 1 := by
  have := div_bd hb B h1 h2
  unfold rnd
  split <;> omega
theorem ref_Floor_some {a b : Int} (hb : 0 < b) (ha1 : -4611686018427387904 ≤ a) (ha2 : a ≤ 4611686018427387904) (hb2 : b ≤ 4611686018427387904) : credenzaref01_Floor.f a b = some (a / b) := by
  obtain ⟨h1, h2, h3⟩ := divmod (a := a) hb
  have h4 := div_bd hb 4611686018427387904 ha1 ha2
  have h5 : (a / b + 1) * b = b * (a / b) + b := by rw [Int.add_mul, Int.mul_comm]; omega
  have h6 : (a / b) * b = b * (a / b) := Int.mul_comm _ _
  unfold credenzaref01_Floor.f
  rw [if_neg (by omega)]
  rcases tdiv_cases (a := a) hb with ⟨e, h⟩ | ⟨e, h, h'⟩
  · rw [e, w64 (x := a / b) (by omega) (by omega), h6, w64 (x := b * (a / b)) (by omega) (by omega), if_neg (by omega)]
  · rw [e, w64 (x := a / b + 1) (by omega) (by omega), h5, w64 (x := b * (a / b) + b) (by omega) (by omega), if_pos (by omega), show a / b + 1 - 1 = a / b by omega, w64 (x := a / b) (by omega) (by omega)]
theorem ref_Ratio_some {a b : Int} (hb : 0 < b) (ha1 : -4611686018427387904 ≤ a) (ha2 : a ≤ 4611686018427387904) (hb2 : b ≤ 4611686018427387904) : credenzaref01_Ratio.f a b = some (rnd a b) := by
  obtain ⟨h1, h2, h3⟩ := divmod (a := a) hb
  have h4 := div_bd hb 4611686018427387904 ha1 ha2
  have h6 : (a / b) * b = b * (a / b) := Int.mul_comm _ _
  unfold credenzaref01_Ratio.f
  rw [ref_Floor_some hb ha1 ha2 hb2]
  simp only [Option.bind_some]
  rw [h6, w64 (x := b * (a / b)) (by omega) (by omega), show a - b * (a / b) = a % b by omega, w64 (x := a % b) (by omega) (by omega), w64 (x := b - a % b) (by omega) (by omega), w64 (x := a / b + 1) (by omega) (by omega)]
  have ht : Int.tmod (a / b) 2 = 0 ↔ (a / b) % 2 = 0 := by rw [Int.tmod_eq_emod]; split <;> omega
  unfold rnd
  by_cases c1 : a % b > b - a % b
  · rw [if_pos c1, if_pos (.inl c1)]
  · rw [if_neg c1]
    by_cases c2 : a % b = b - a % b
    · rw [if_pos c2]
      by_cases c3 : (a / b) % 2 = 0
      · rw [if_pos (ht.2 c3), if_neg (by omega)]
      · rw [if_neg (fun h => c3 (ht.1 h)), if_pos (.inr ⟨c2, c3⟩)]
    · rw [if_neg c2, if_neg (by omega)]
theorem fix_Ratio_some {a b : Int} (hb : 0 < b) (ha1 : -4611686018427387904 ≤ a) (ha2 : a ≤ 4611686018427387904) (hb2 : b ≤ 4611686018427387904) : fix_Ratio.f a b = some (rnd a b) := by
  obtain ⟨h1, h2, h3⟩ := divmod (a := a) hb
  have h4 := div_bd hb 4611686018427387904 ha1 ha2
  have hm : Int.tmod a b = a - b * Int.tdiv a b := by have := Int.mul_tdiv_add_tmod a b; omega
  unfold fix_Ratio.f
  rw [if_neg (by omega), if_neg (by omega)]
  rcases tdiv_cases (a := a) hb with ⟨e, h⟩ | ⟨e, h, h'⟩
  · have hm2 : Int.tmod a b = a % b := by rw [hm, e]; omega
    rw [e, hm2, if_neg (by omega), w64 (x := b - a % b) (by omega) (by omega), w64 (x := a / b) (by omega) (by omega), w64 (x := a / b + 1) (by omega) (by omega), bits_and1]
    unfold rnd
    by_cases c1 : a % b > b - a % b
    · rw [if_pos c1, if_pos (.inl c1)]
    · rw [if_neg c1]
      by_cases c2 : a % b = b - a % b
      · rw [if_pos c2]
        by_cases c3 : (a / b) % 2 = 0
        · rw [if_pos c3, if_neg (by omega)]
        · rw [if_neg c3, if_pos (.inr ⟨c2, c3⟩)]
      · rw [if_neg c2, if_neg (by omega)]
  · have h5 : b * (a / b + 1) = b * (a / b) + b := by rw [Int.mul_add]; omega
    have hm2 : Int.tmod a b = a % b - b := by rw [hm, e, h5]; omega
    rw [e, hm2, if_pos (by omega), w64 (x := a % b - b + b) (by omega) (by omega), show a % b - b + b = a % b by omega, w64 (x := b - a % b) (by omega) (by omega), w64 (x := a / b + 1) (by omega) (by omega), show a / b + 1 - 1 = a / b by omega, w64 (x := a / b) (by omega) (by omega), w64 (x := a / b + 1) (by omega) (by omega), bits_and1]
    unfold rnd
    by_cases c1 : a % b > b - a % b
    · rw [if_pos c1, if_pos (.inl c1)]
    · rw [if_neg c1]
      by_cases c2 : a % b = b - a % b
      · rw [if_pos c2]
        by_cases c3 : (a / b) % 2 = 0
        · rw [if_pos c3, if_neg (by omega)]
        · rw [if_neg c3, if_pos (.inr ⟨c2, c3⟩)]
      · rw [if_neg c2, if_neg (by omega)]
theorem pow2_bd {n : Nat} (hn : n ≤ 62) : 1 ≤ (2 : Int) ^ n ∧ (2 : Int) ^ n ≤ 4611686018427387904 := by
  have h1 : (2 : Nat) ^ n ≤ 2 ^ 62 := Nat.pow_le_pow_right (by decide) hn
  have h2 : 1 ≤ (2 : Nat) ^ n := Nat.one_le_two_pow
  have h3 : (2 : Int) ^ n = ((2 ^ n : Nat) : Int) := by simp
  rw [h3]
  have h4 : (2 : Nat) ^ 62 = 4611686018427387904 := by decide
  omega
theorem fix_Half_some {a : Int} {n : Nat} (hn : n ≤ 62) (ha1 : -4611686018427387904 ≤ a) (ha2 : a ≤ 4611686018427387904) : fix_Half.f a (n : Int) = some (rnd a (2 ^ n)) := by
  obtain ⟨hp1, hp2⟩ := pow2_bd hn
  have e : (mn (mx (n : Int) 0) 62) = (n : Int) := by unfold mn mx; omega
  have heven : n = 0 ∧ (2 : Int) ^ n = 1 ∨ 0 < n ∧ (2 : Int) ^ n % 2 = 0 := by
    cases n with
    | zero => exact .inl ⟨rfl, rfl⟩
    | succ m => exact .inr ⟨by omega, by rw [Int.pow_succ]; omega⟩
  unfold fix_Half.f
  rw [e, Int.toNat_natCast]
  generalize (2 : Int) ^ n = b at *
  obtain ⟨h1, h2, h3⟩ := divmod (a := a) (b := b) (by omega)
  have h4 := div_bd (b := b) (by omega) 4611686018427387904 ha1 ha2
  have h6 : (a / b) * b = b * (a / b) := Int.mul_comm _ _
  rw [h6, w64 (x := b * (a / b)) (by omega) (by omega), show a - b * (a / b) = a % b by omega, w64 (x := a % b) (by omega) (by omega), w64 (x := b) (by omega) (by omega), w64 (x := a / b + 1) (by omega) (by omega), bits_and1]
  unfold rnd
  by_cases c1 : a % b > b / 2
  · rw [if_pos c1, if_pos (.inl (by omega))]
  · rw [if_neg c1]
    by_cases c2 : a % b = b / 2
    · rw [if_pos c2]
      rcases heven with ⟨h0, h0'⟩ | ⟨h0, h0'⟩
      · rw [if_neg (by omega), if_neg (by omega)]
      · rw [if_pos (by omega)]
        by_cases c3 : (a / b) % 2 = 1
        · rw [if_pos c3, if_pos (.inr (by omega))]
        · rw [if_neg c3, if_neg (by omega)]
    · rw [if_neg c2, if_neg (by omega)]
theorem fix_Half_16 {a : Int} (ha1 : -4611686018427387904 ≤ a) (ha2 : a ≤ 4611686018427387904) : fix_Half.f a 16 = some (rnd a 65536) := fix_Half_some (n := 16) (by omega) ha1 ha2
/-- the product of two numbers with 16 bits behind the point -/
def mulR (a b : Int) : Int := wideR (rnd (a * b) 65536)
theorem mul_bd {a b A B : Int} (h1 : -A ≤ a) (h2 : a ≤ A) (h3 : -B ≤ b) (h4 : b ≤ B) : -(A * B) ≤ a * b ∧ a * b ≤ A * B := by
  have hA : 0 ≤ A := by omega
  have hB : 0 ≤ B := by omega
  have e : (a * b).natAbs ≤ A.natAbs * B.natAbs := by rw [Int.natAbs_mul]; exact Nat.mul_le_mul (by omega) (by omega)
  have e2 : (A * B).natAbs = A.natAbs * B.natAbs := Int.natAbs_mul _ _
  have e3 : 0 ≤ A * B := Int.mul_nonneg hA hB
  rw [← e2] at e
  generalize a * b = p at *
  generalize A * B = q at *
  omega
theorem mul32_bd {a b : Int} (h1 : -2147483648 ≤ a) (h2 : a ≤ 2147483648) (h3 : -2147483648 ≤ b) (h4 : b ≤ 2147483648) : -4611686018427387904 ≤ a * b ∧ a * b ≤ 4611686018427387904 := mul_bd (A := 2147483648) (B := 2147483648) h1 h2 h3 h4
theorem fix_Mul_some {a b : Int} (h1 : -2147483648 ≤ a) (h2 : a ≤ 2147483647) (h3 : -2147483648 ≤ b) (h4 : b ≤ 2147483647) : fix_Mul.f a b = some (mulR a b) := by
  have h := mul32_bd (a := a) (b := b) (by omega) (by omega) (by omega) (by omega)
  unfold fix_Mul.f
  rw [w64 (x := a) (by omega) (by omega), w64 (x := b) (by omega) (by omega), w64 (x := a * b) (by omega) (by omega), fix_Half_16 h.1 h.2]
  simp only [Option.bind_some]
  rw [fix_Wide_some]
  rfl
theorem ref_Mul_some {a b : Int} (h1 : -2147483648 ≤ a) (h2 : a ≤ 2147483647) (h3 : -2147483648 ≤ b) (h4 : b ≤ 2147483647) : credenzaref01_Mul.f a b = some (mulR a b) := by
  have h := mul32_bd (a := a) (b := b) (by omega) (by omega) (by omega) (by omega)
  unfold credenzaref01_Mul.f
  rw [w64 (x := a) (by omega) (by omega), w64 (x := b) (by omega) (by omega), w64 (x := a * b) (by omega) (by omega), ref_Ratio_some (by omega) h.1 h.2 (by omega)]
  simp only [Option.bind_some]
  rw [ref_Wide_some]
  rfl
end Go.Proofs.Yteflolamihhmdaa.Pure

namespace Go.Proofs.Yteflolamihhmdaa.Pure
open Go.RowKit Go.Proofs.Yteflolamihhmdaa.Q Go.Proofs.YteflolamihhmdaaW.PrintWords Go.Proofs.YteflolamihhmdaaW.PrintLast

def I32 (x : Int) : Prop := -2147483648 ≤ x ∧ x ≤ 2147483647
def A32 (l : List Int) : Prop := ∀ x ∈ l, I32 x
def nars (l : List Int) : List Int := l.map narR
/-- all are narrow -/
def NB (l : List Int) : Prop := ∀ x ∈ l, -8388608 ≤ x ∧ x ≤ 8388608
theorem nars_nb (l : List Int) : NB (nars l) := by
  intro x hx
  obtain ⟨y, _, rfl⟩ := List.mem_map.1 hx
  exact narR_bd y
theorem nars_length (l : List Int) : (nars l).length = l.length := by simp [nars]
theorem rd_at {l : List Int} {p : Nat} (h : p < l.length) : rd l (p : Int) = l[p] := by simp [rd, List.getD_eq_getElem?_getD, List.getElem?_eq_getElem h]
theorem rd_mem {l : List Int} {p : Nat} (h : p < l.length) : rd l (p : Int) ∈ l := by rw [rd_at h]; exact List.getElem_mem h
theorem drop_rd {l : List Int} {p : Nat} (h : p < l.length) : l.drop p = rd l (p : Int) :: l.drop (p + 1) := by rw [rd_at h]; exact List.drop_eq_getElem_cons h
theorem take_rd {l : List Int} {p : Nat} (h : p < l.length) : l.take (p + 1) = l.take p ++ [rd l (p : Int)] := by rw [rd_at h, List.take_succ_eq_append_getElem h]
theorem wnext {p n : Nat} (h : p < n) (hn : n ≤ 4611686018427387904) : wrap64 ((p : Int) + 1) = ((p + 1 : Nat) : Int) := by rw [w64 (by omega) (by omega)]; omega
theorem A32.narrow {l : List Int} (h : NB l) : A32 l := fun x hx => by have := h x hx; exact ⟨by omega, by omega⟩

theorem attn_narrow_some {x : Int} (hx : I32 x) : attn_narrow.f x = some (narR x) := by
  have hb := narR_bd x
  unfold I32 at hx
  unfold attn_narrow.f
  rw [w64 (x := x) (by omega) (by omega), fix_Narrow_some]
  simp only [Option.bind_some]
  rw [w64 (by omega) (by omega)]
theorem cut_loop (l : List Int) (hl : l.length ≤ 70368744177664) (hw : A32 l) : ∀ (d k p : Nat), p + d = l.length → d < k → attn_cut.l0 k (nars (l.take p) ++ List.replicate d 0) l (l.length : Int) (p : Int) = some (nars l) := by
  intro d
  induction d with
  | zero =>
    intro k p hp hk
    obtain ⟨k, rfl⟩ : ∃ m, k = m + 1 := ⟨k - 1, by omega⟩
    simp only [attn_cut.l0]
    rw [if_neg (by omega), List.take_of_length_le (by omega)]
    simp
  | succ d ih =>
    intro k p hp hk
    obtain ⟨k, rfl⟩ : ∃ m, k = m + 1 := ⟨k - 1, by omega⟩
    have hlt : p < l.length := by omega
    have hn := narR_bd (rd l (p : Int))
    simp only [attn_cut.l0]
    rw [if_pos (by omega), if_pos (by omega), if_pos (by omega), attn_narrow_some (hw _ (rd_mem hlt))]
    simp only [Option.bind_some]
    have hpl : (nars (l.take p)).length = p := by rw [nars_length, List.length_take]; omega
    rw [if_pos (by simp [hpl]; omega), wnext hlt (by omega), w32 (x := narR _) (by omega) (by omega), Int.toNat_natCast]
    have e : (nars (l.take p) ++ List.replicate (d + 1) 0).set p (narR (rd l (p : Int))) = nars (l.take (p + 1)) ++ List.replicate d 0 := by
      rw [List.set_append_right _ _ (by omega), hpl, Nat.sub_self, List.replicate_succ, List.set_cons_zero, take_rd hlt]
      simp [nars]
    rw [e]
    exact ih k (p + 1) (by omega) (by omega)
theorem attn_cut_some (l : List Int) (hl : l.length ≤ 70368744177664) (hw : A32 l) {k : Nat} (hk : l.length < k) : attn_cut.f k l = some (nars l) := by
  unfold attn_cut.f
  rw [if_pos (by omega), if_pos (by omega), Int.toNat_natCast]
  exact cut_loop l hl hw l.length k 0 (by omega) hk
theorem ref_Narrow_loop (l : List Int) (hl : l.length ≤ 1000000) (hw : A32 l) : ∀ (d k p : Nat), p + d = l.length → d < k → credenzaref14_Narrow.l0 k l (nars (l.take p)) (p : Int) = some (nars l) := by
  intro d
  induction d with
  | zero =>
    intro k p hp hk
    obtain ⟨k, rfl⟩ : ∃ m, k = m + 1 := ⟨k - 1, by omega⟩
    simp only [credenzaref14_Narrow.l0]
    rw [if_neg (by omega), List.take_of_length_le (by omega)]
  | succ d ih =>
    intro k p hp hk
    obtain ⟨k, rfl⟩ : ∃ m, k = m + 1 := ⟨k - 1, by omega⟩
    have hlt : p < l.length := by omega
    have hx := hw _ (rd_mem hlt)
    unfold I32 at hx
    simp only [credenzaref14_Narrow.l0]
    rw [if_pos (by omega), if_pos (by omega), w64 (x := rd l (p : Int)) (by omega) (by omega), ref_Narrow_some]
    simp only [Option.bind_some]
    have hpl : (nars (l.take p)).length = p := by rw [nars_length, List.length_take]; omega
    rw [if_pos (by omega), wnext hlt (by omega), show nars (l.take p) ++ [narR (rd l (p : Int))] = nars (l.take (p + 1)) by rw [take_rd hlt]; simp [nars]]
    exact ih k (p + 1) (by omega) (by omega)
theorem ref_Narrow_some' (l : List Int) (hl : l.length ≤ 1000000) (hw : A32 l) {k : Nat} (hk : l.length < k) : credenzaref14_Narrow.f k l = some (nars l) :=
  ref_Narrow_loop l hl hw l.length k 0 (by omega) hk

/-- the sum of the products -/
def dotR : List Int → List Int → Int
  | a :: xs, b :: ys => a * b + dotR xs ys
  | _, _ => 0
theorem dotR_comm : ∀ a b : List Int, dotR a b = dotR b a
  | [], [] => rfl
  | [], _ :: _ => rfl
  | _ :: _, [] => rfl
  | x :: a, y :: b => by simp only [dotR]; rw [Int.mul_comm, dotR_comm a b]
theorem nb_mul {x y : Int} (h1 : -8388608 ≤ x ∧ x ≤ 8388608) (h2 : -8388608 ≤ y ∧ y ≤ 8388608) : -70368744177664 ≤ x * y ∧ x * y ≤ 70368744177664 := mul_bd (A := 8388608) (B := 8388608) h1.1 h1.2 h2.1 h2.2
theorem dotR_bd : ∀ {a b : List Int} (_ : NB a) (_ : NB b), -(a.length * 70368744177664 : Int) ≤ dotR a b ∧ dotR a b ≤ a.length * 70368744177664
  | [], b, _, _ => by simp [dotR]
  | x :: a, [], _, _ => by simp only [dotR, List.length_cons]; omega
  | x :: a, y :: b, ha, hb => by
    have h1 := nb_mul (ha x (by simp)) (hb y (by simp))
    have h2 := dotR_bd (a := a) (b := b) (fun z hz => ha z (by simp [hz])) (fun z hz => hb z (by simp [hz]))
    simp only [dotR, List.length_cons]
    omega
theorem dot_loop (a b : List Int) (hl : a.length = b.length) (hn : a.length ≤ 1024) (ha : NB a) (hb : NB b) : ∀ (d k p : Nat) (s : Int), p + d = a.length → d < k → -(p * 70368744177664 : Int) ≤ s → s ≤ p * 70368744177664 → dot_Dot.l0 k b s a (a.length : Int) (p : Int) = some (s + dotR (a.drop p) (b.drop p), 0) := by
  intro d
  induction d with
  | zero =>
    intro k p s hp hk h1 h2
    obtain ⟨k, rfl⟩ : ∃ m, k = m + 1 := ⟨k - 1, by omega⟩
    simp only [dot_Dot.l0]
    rw [if_neg (by omega), List.drop_eq_nil_of_le (by omega)]
    simp [dotR]
  | succ d ih =>
    intro k p s hp hk h1 h2
    obtain ⟨k, rfl⟩ : ∃ m, k = m + 1 := ⟨k - 1, by omega⟩
    have hlt : p < a.length := by omega
    have hlt2 : p < b.length := by omega
    have hx := ha _ (rd_mem hlt)
    have hy := hb _ (rd_mem hlt2)
    have hm := nb_mul hx hy
    simp only [dot_Dot.l0]
    rw [if_pos (by omega), if_pos (by omega), if_pos (by omega), if_pos (by omega), wnext hlt (by omega), w64 (x := rd a (p : Int)) (by omega) (by omega), w64 (x := rd b (p : Int)) (by omega) (by omega), drop_rd hlt, drop_rd hlt2]
    simp only [dotR]
    generalize rd a (p : Int) * rd b (p : Int) = m at *
    rw [w64 (x := m) (by omega) (by omega), w64 (x := s + m) (by omega) (by omega)]
    rw [ih k (p + 1) (s + m) (by omega) (by omega) (by omega) (by omega)]
    congr 2
    omega
theorem ref_dot_loop (a b : List Int) (hl : a.length = b.length) (hn : a.length ≤ 1024) (ha : NB a) (hb : NB b) : ∀ (d k p : Nat) (s : Int), p + d = a.length → d < k → -(p * 70368744177664 : Int) ≤ s → s ≤ p * 70368744177664 → credenzaref03_Dot.l0 k a b s (p : Int) = some (s + dotR (a.drop p) (b.drop p)) := by
  intro d
  induction d with
  | zero =>
    intro k p s hp hk h1 h2
    obtain ⟨k, rfl⟩ : ∃ m, k = m + 1 := ⟨k - 1, by omega⟩
    simp only [credenzaref03_Dot.l0]
    rw [if_neg (by omega), List.drop_eq_nil_of_le (by omega)]
    simp [dotR]
  | succ d ih =>
    intro k p s hp hk h1 h2
    obtain ⟨k, rfl⟩ : ∃ m, k = m + 1 := ⟨k - 1, by omega⟩
    have hlt : p < a.length := by omega
    have hlt2 : p < b.length := by omega
    have hx := ha _ (rd_mem hlt)
    have hy := hb _ (rd_mem hlt2)
    have hm := nb_mul hx hy
    simp only [credenzaref03_Dot.l0]
    rw [if_pos (by omega), if_pos (by omega), if_pos (by omega), wnext hlt (by omega), w64 (x := rd a (p : Int)) (by omega) (by omega), w64 (x := rd b (p : Int)) (by omega) (by omega), drop_rd hlt, drop_rd hlt2]
    simp only [dotR]
    generalize rd a (p : Int) * rd b (p : Int) = m at *
    rw [w64 (x := m) (by omega) (by omega), w64 (x := s + m) (by omega) (by omega)]
    rw [ih k (p + 1) (s + m) (by omega) (by omega) (by omega) (by omega)]
    congr 1
    omega
theorem mild_nb {l : List Int} (h : NB l) (hn : l.length ≤ 1024) : dot_Mild.f l = some true := by
  have h2 : l.any dot_Mild.wild = false := by
    rw [List.any_eq_false]
    intro x hx
    have := h x hx
    unfold dot_Mild.wild
    simp
    omega
  unfold dot_Mild.f
  rw [h2]
  simp [hn]
theorem dot_Dot_some {a b : List Int} (hl : a.length = b.length) (hn : a.length ≤ 1024) (ha : NB a) (hb : NB b) {k : Nat} (hk : a.length + 1 < k) : dot_Dot.f k a b = some (dotR a b, 0) := by
  obtain ⟨k, rfl⟩ : ∃ m, k = m + 1 := ⟨k - 1, by omega⟩
  unfold dot_Dot.f dot_shape.f
  rw [if_pos (by omega), if_neg (by omega)]
  simp only [Option.bind_some, if_true]
  rw [mild_nb ha hn, mild_nb hb (by omega)]
  simp only [Option.bind_some, if_true, Bool.not_true]
  have e : dot_Dot.j0 (k + 1) a b false = dot_Dot.l0 k b 0 a (a.length : Int) 0 := by rw [dot_Dot.j0, if_neg (by simp)]
  rw [e]
  have := dot_loop a b hl hn ha hb a.length k 0 0 (by omega) (by omega) (by omega) (by omega)
  simpa using this
theorem ref_Dot_some {a b : List Int} (hl : a.length = b.length) (hn : a.length ≤ 1024) (ha : NB a) (hb : NB b) {k : Nat} (hk : a.length < k) : credenzaref03_Dot.f k a b = some (dotR a b) := by
  unfold credenzaref03_Dot.f
  have := ref_dot_loop a b hl hn ha hb a.length k 0 0 (by omega) (by omega) (by omega) (by omega)
  simpa using this
theorem sum_loop (key : List Int) (hk : A32 key) : ∀ (q : List Int) (p : Nat) (s : Int), p + q.length ≤ key.length → p + q.length ≤ 1024 → NB q → -(p * 70368744177664 : Int) ≤ s → s ≤ p * 70368744177664 → attn_sum.l key q p s = some (s + dotR q (nars (key.drop p))) := by
  intro q
  induction q with
  | nil =>
    intro p s _ _ _ _ _
    rw [attn_sum.l, dotR]
    · simp
    · intro a xs b ys h
      cases h
  | cons x q ih =>
    intro p s h1 h2 hq h3 h4
    simp only [List.length_cons] at h1 h2
    have hlt : p < key.length := by omega
    have hx := hq x (by simp)
    have hm := nb_mul hx (narR_bd (rd key (p : Int)))
    simp only [attn_sum.l]
    rw [if_pos hlt, attn_narrow_some (hk _ (rd_mem hlt)), drop_rd hlt]
    simp only [Option.bind_some, nars, List.map_cons, dotR]
    generalize narR (rd key (p : Int)) = y at *
    rw [w64 (x := x) (by omega) (by omega), w64 (x := x * y) (by omega) (by omega)]
    generalize x * y = m at *
    rw [w64 (x := s + m) (by omega) (by omega)]
    rw [ih (p + 1) (s + m) (by omega) (by omega) (fun z hz => hq z (by simp [hz])) (by omega) (by omega)]
    simp only [nars]
    congr 1
    omega

/-- one by the root of n, with 16 bits behind the point -/
def rsT : List Int := [0, 65536, 46340, 37837, 32768, 29308, 26754, 24770, 23170, 21845, 20724, 19759, 18918, 18176, 17515, 16921, 16384]
def rsR (n : Nat) : Int := rsT.getD n 0
def rsOk (n : Nat) : Prop := expo_Rsqrt.f 40 ((n : Nat) * 65536 : Int) = some (rsR n) ∧ credenzaref02_Rsqrt.f 40 ((n : Nat) * 65536 : Int) = some (rsR n) ∧ 0 ≤ rsR n ∧ rsR n ≤ 65536
theorem rs_1 : rsOk 1 := ⟨by kernel_rfl, by kernel_rfl, by decide, by decide⟩
theorem rs_2 : rsOk 2 := ⟨by kernel_rfl, by kernel_rfl, by decide, by decide⟩
theorem rs_3 : rsOk 3 := ⟨by kernel_rfl, by kernel_rfl, by decide, by decide⟩
theorem rs_4 : rsOk 4 := ⟨by kernel_rfl, by kernel_rfl, by decide, by decide⟩
theorem rs_5 : rsOk 5 := ⟨by kernel_rfl, by kernel_rfl, by decide, by decide⟩
theorem rs_6 : rsOk 6 := ⟨by kernel_rfl, by kernel_rfl, by decide, by decide⟩
theorem rs_7 : rsOk 7 := ⟨by kernel_rfl, by kernel_rfl, by decide, by decide⟩
theorem rs_8 : rsOk 8 := ⟨by kernel_rfl, by kernel_rfl, by decide, by decide⟩
theorem rs_9 : rsOk 9 := ⟨by kernel_rfl, by kernel_rfl, by decide, by decide⟩
theorem rs_10 : rsOk 10 := ⟨by kernel_rfl, by kernel_rfl, by decide, by decide⟩
theorem rs_11 : rsOk 11 := ⟨by kernel_rfl, by kernel_rfl, by decide, by decide⟩
theorem rs_12 : rsOk 12 := ⟨by kernel_rfl, by kernel_rfl, by decide, by decide⟩
theorem rs_13 : rsOk 13 := ⟨by kernel_rfl, by kernel_rfl, by decide, by decide⟩
theorem rs_14 : rsOk 14 := ⟨by kernel_rfl, by kernel_rfl, by decide, by decide⟩
theorem rs_15 : rsOk 15 := ⟨by kernel_rfl, by kernel_rfl, by decide, by decide⟩
theorem rs_16 : rsOk 16 := ⟨by kernel_rfl, by kernel_rfl, by decide, by decide⟩
theorem rs_some {n : Nat} (h1 : 1 ≤ n) (h2 : n ≤ 16) {k : Nat} (hk : 40 ≤ k) : expo_Rsqrt.f k ((n : Int) * 65536) = some (rsR n) ∧ credenzaref02_Rsqrt.f k ((n : Int) * 65536) = some (rsR n) ∧ 0 ≤ rsR n ∧ rsR n ≤ 65536 := by
  have hm : rsOk n := by
    match n, h1, h2 with
    | 1, _, _ => exact rs_1
    | 2, _, _ => exact rs_2
    | 3, _, _ => exact rs_3
    | 4, _, _ => exact rs_4
    | 5, _, _ => exact rs_5
    | 6, _, _ => exact rs_6
    | 7, _, _ => exact rs_7
    | 8, _, _ => exact rs_8
    | 9, _, _ => exact rs_9
    | 10, _, _ => exact rs_10
    | 11, _, _ => exact rs_11
    | 12, _, _ => exact rs_12
    | 13, _, _ => exact rs_13
    | 14, _, _ => exact rs_14
    | 15, _, _ => exact rs_15
    | 16, _, _ => exact rs_16
    | n + 17, _, h => exact absurd h (by omega)
  obtain ⟨ha, hb, hc⟩ := hm
  exact ⟨at_rounds (expo_Rsqrt.mono _) hk ha, at_rounds (credenzaref02_Rsqrt.mono _) hk hb, hc⟩
end Go.Proofs.Yteflolamihhmdaa.Pure

namespace Go.Proofs.Yteflolamihhmdaa.Pure
open Go.RowKit Go.Proofs.Yteflolamihhmdaa.Q Go.Proofs.YteflolamihhmdaaW.PrintWords Go.Proofs.YteflolamihhmdaaW.PrintLast

/-- a sum of products as a score -/
def scaledR (s : Int) (n : Nat) : Int := mulR (wideR (rnd s 65536)) (rsR n)
def scoreR (q key : List Int) : Int := scaledR (dotR (nars q) (nars key)) q.length
theorem attn_scaled_some {s : Int} {n : Nat} (h1 : 1 ≤ n) (h2 : n ≤ 16) (hs1 : -4611686018427387904 ≤ s) (hs2 : s ≤ 4611686018427387904) {k : Nat} (hk : 40 ≤ k) : attn_scaled.f k s (n : Int) = some (scaledR s n) := by
  obtain ⟨ha, _, hb, hc⟩ := rs_some h1 h2 hk
  have hw := wideR_bd (rnd s 65536)
  have e1 := fix_Half_16 hs1 hs2
  have e2 := fix_Wide_some (rnd s 65536)
  have e3 : wrap64 ((n : Int) * 65536) = (n : Int) * 65536 := w64 (by omega) (by omega)
  have e4 : fix_Mul.f (wideR (rnd s 65536)) (rsR n) = some (mulR (wideR (rnd s 65536)) (rsR n)) := fix_Mul_some hw.1 hw.2 (by omega) (by omega)
  rw [attn_scaled.f, e1, Option.bind_some, e2, Option.bind_some, e3, ha, Option.bind_some, e4, Option.bind_some, scaledR]
theorem attn_Score_some {q key : List Int} (hl : q.length = key.length) (h1 : 1 ≤ q.length) (h2 : q.length ≤ 16) (hq : A32 q) (hk : A32 key) {k : Nat} (hkk : 50 ≤ k) : attn_Score.f k q key = some (scoreR q key, 0) := by
  obtain ⟨k, rfl⟩ : ∃ m, k = m + 1 := ⟨k - 1, by omega⟩
  have hb := dotR_bd (nars_nb q) (nars_nb key)
  rw [nars_length] at hb
  have e0 : attn_sized.f (q.length : Int) = some true := by unfold attn_sized.f; rw [if_pos (by omega), decide_eq_true (by omega)]
  have e1 := attn_cut_some q (by omega) hq (k := k) (by omega)
  have e2 := attn_cut_some key (by omega) hk (k := k) (by omega)
  have e3 := dot_Dot_some (a := nars q) (b := nars key) (by rw [nars_length, nars_length]; exact hl) (by rw [nars_length]; omega) (nars_nb q) (nars_nb key) (k := k) (by rw [nars_length]; omega)
  have e4 := attn_scaled_some (s := dotR (nars q) (nars key)) h1 h2 (by omega) (by omega) (k := k) (by omega)
  rw [attn_Score.f, if_pos (by omega), e0, Option.bind_some, Bool.not_true, attn_Score.j0, if_neg (by simp), e1, Option.bind_some, e2, Option.bind_some, e3, Option.bind_some, if_pos rfl, e4, Option.bind_some, scoreR]
theorem attn_Score_no {q key : List Int} (h : ¬ (q.length = key.length ∧ 1 ≤ q.length ∧ q.length ≤ 16)) {k : Nat} (hkk : 1 ≤ k) : attn_Score.f k q key = some (0, 25) := by
  obtain ⟨k, rfl⟩ : ∃ m, k = m + 1 := ⟨k - 1, by omega⟩
  unfold attn_Score.f attn_sized.f
  by_cases c1 : q.length = key.length
  · rw [if_pos (by omega)]
    by_cases c2 : 1 ≤ q.length
    · rw [if_pos (by omega), decide_eq_false (show ¬ (q.length : Int) ≤ 16 by omega)]
      simp [attn_Score.j0]
    · rw [if_neg (by omega)]
      simp [attn_Score.j0]
  · rw [if_neg (by omega)]
    simp [attn_Score.j0]
theorem ref_Score_some {q key : List Int} (hl : q.length = key.length) (h1 : 1 ≤ q.length) (h2 : q.length ≤ 16) (hq : A32 q) (hk : A32 key) {k : Nat} (hkk : 50 ≤ k) : credenzaref14_Score.f k q key = some (scoreR q key) := by
  have hb := dotR_bd (nars_nb q) (nars_nb key)
  rw [nars_length] at hb
  obtain ⟨_, ha, hc, hd⟩ := rs_some h1 h2 (k := k) (by omega)
  have hw := wideR_bd (rnd (dotR (nars q) (nars key)) 65536)
  have e1 := ref_Narrow_some' q (by omega) hq (k := k) (by omega)
  have e2 := ref_Narrow_some' key (by omega) hk (k := k) (by omega)
  have e3 := ref_Dot_some (a := nars q) (b := nars key) (by rw [nars_length, nars_length]; exact hl) (by rw [nars_length]; omega) (nars_nb q) (nars_nb key) (k := k) (by rw [nars_length]; omega)
  have e4 : credenzaref01_Ratio.f (dotR (nars q) (nars key)) 65536 = some (rnd (dotR (nars q) (nars key)) 65536) := ref_Ratio_some (by omega) (by omega) (by omega) (by omega)
  have e5 := ref_Wide_some (rnd (dotR (nars q) (nars key)) 65536)
  have e6 : wrap64 ((q.length : Int) * 65536) = (q.length : Int) * 65536 := w64 (by omega) (by omega)
  have e7 : credenzaref01_Mul.f (wideR (rnd (dotR (nars q) (nars key)) 65536)) (rsR q.length) = some (mulR (wideR (rnd (dotR (nars q) (nars key)) 65536)) (rsR q.length)) := ref_Mul_some hw.1 hw.2 (by omega) (by omega)
  rw [credenzaref14_Score.f, e1, Option.bind_some, e2, Option.bind_some, e3, Option.bind_some, e4, Option.bind_some, e5, Option.bind_some, e6, ha, Option.bind_some, e7, Option.bind_some, scoreR, scaledR]
theorem scoreR_comm {q key : List Int} (hl : q.length = key.length) : scoreR q key = scoreR key q := by unfold scoreR; rw [dotR_comm, hl]
end Go.Proofs.Yteflolamihhmdaa.Pure

namespace Go.Proofs.Yteflolamihhmdaa.Pure
open Go.RowKit Go.Proofs.Yteflolamihhmdaa.Q Go.Proofs.YteflolamihhmdaaW.PrintWords Go.Proofs.YteflolamihhmdaaW.PrintLast

theorem awake_at : credenzalaw14_awake.f 100 = some true := by kernel_rfl
theorem awake_from {k : Nat} (hk : 100 ≤ k) : credenzalaw14_awake.f k = some true := at_rounds credenzalaw14_awake.mono hk awake_at
theorem A32_wf {l : List Int} (h : ∀ x ∈ l, (Lit.int .i32 x).wf = true) : A32 l := fun x hx => by
  have := h x hx
  simp [Lit.wf, IntKind.min, IntKind.max, IntKind.signed, IntKind.bits] at this
  exact ⟨by omega, by omega⟩
theorem scores_j0_awake (a b : List Int) {k : Nat} (hk : 101 ≤ k) : credenzalaw14_AttnScores.j0 k a b true = some true := by
  obtain ⟨k, rfl⟩ : ∃ m, k = m + 1 := ⟨k - 1, by omega⟩
  rw [credenzalaw14_AttnScores.j0, if_pos rfl, awake_from (by omega), Option.bind_some]
theorem scores_j1_no (a b : List Int) {k : Nat} (hk : 101 ≤ k) : credenzalaw14_AttnScores.j1 k a b 0 25 true = some true := by
  obtain ⟨k, rfl⟩ : ∃ m, k = m + 1 := ⟨k - 1, by omega⟩
  rw [credenzalaw14_AttnScores.j1, if_pos rfl, if_pos rfl, if_pos rfl, awake_from (by omega), Option.bind_some]
theorem scores_j1_yes {q key : List Int} (hl : q.length = key.length) (h1 : 1 ≤ q.length) (h2 : q.length ≤ 16) (hq : A32 q) (hk : A32 key) {k : Nat} (hkk : 101 ≤ k) : credenzalaw14_AttnScores.j1 k q key (scoreR q key) 0 false = some true := by
  obtain ⟨k, rfl⟩ : ∃ m, k = m + 1 := ⟨k - 1, by omega⟩
  have e1 := attn_Score_some (k := k) hl.symm (by omega) (by omega) hk hq (by omega)
  have e2 := ref_Score_some (k := k) hl h1 h2 hq hk (by omega)
  rw [credenzalaw14_AttnScores.j1, if_neg (by simp), e1, Option.bind_some, if_pos rfl, if_pos rfl, e2, Option.bind_some, if_pos rfl, if_pos (scoreR_comm hl.symm), awake_from (by omega), Option.bind_some]
theorem AttnScores : credenzalaw14_AttnScores.Pure := by
  intro l0 l1 _ _ h0 _ _ h1
  have hq := A32_wf h0
  have hk := A32_wf h1
  refine ⟨200, ?_⟩
  rw [credenzalaw14_AttnScores.f]
  by_cases c1 : (l0.length : Int) > 100
  · rw [if_pos c1, scores_j0_awake _ _ (by omega)]
  rw [if_neg c1]
  by_cases c2 : (l1.length : Int) > 100
  · rw [decide_eq_true c2, scores_j0_awake _ _ (by omega)]
  rw [decide_eq_false c2, credenzalaw14_AttnScores.j0, if_neg (by simp)]
  by_cases c3 : l0.length = l1.length ∧ 1 ≤ l0.length ∧ l0.length ≤ 16
  · obtain ⟨c3, c4, c5⟩ := c3
    rw [attn_Score_some c3 c4 c5 hq hk (by omega), Option.bind_some, if_pos (by omega), if_neg (by omega), decide_eq_false (by omega)]
    exact scores_j1_yes c3 c4 c5 hq hk (by omega)
  · rw [attn_Score_no c3 (by omega), Option.bind_some]
    by_cases c4 : l0.length = l1.length
    · rw [if_pos (by omega)]
      by_cases c5 : (l0.length : Int) < 1
      · rw [if_pos c5, scores_j1_no _ _ (by omega)]
      · rw [if_neg c5, decide_eq_true (by omega), scores_j1_no _ _ (by omega)]
    · rw [if_neg (by omega), scores_j1_no _ _ (by omega)]
end Go.Proofs.Yteflolamihhmdaa.Pure

namespace Go.Proofs.Yteflolamihhmdaa.attnScores
open Go.ChangeShapes Go.WideShapes Go.ChangeAt Go.RowKit
open Go.ChangeMaps (open_string shut_string)
set_option linter.unusedVariables false
theorem own : ownKnob Try.prog.godebug = none := by kernel_rfl
theorem laidOut : laidOutB Try.prog = true := by kernel_rfl
def IsRow (k : IntKind) (w : World) (a : Option Addr) (len cap : Nat) (zs : List Int) : Prop :=
  (a = none ∧ len = 0 ∧ cap = 0 ∧ zs = []) ∨
  ∃ x, a = some x ∧ len ≤ cap ∧ cap ≤ maxLen ∧ zs.length = cap ∧ (∀ i, i < zs.length → w.cell? (x.add i) = some (.int k (zs.getD i 0))) ∧ ∀ n ∈ zs, (Lit.int k n).wf = true
set_option maxRecDepth 100000 in
theorem lifted (os : Os) (started : os.Started) (H : Type) (enc : TypeId × Value → H) :
    ReturnsInHanded {} Try.checked os 3 .any (Rows.attnScoresSpec.pre6 enc Try.prog Try.f3 Rows.attnScoresRow.domain false) (Rows.attnScoresSpec.post enc Try.prog Try.f3 false true false false) := by
  refine returnsInHanded_of_change_sized (C := Try.checked) own started (by kernel_rfl) Try.func3
    (ChangeSpec.witness6 (enc := enc) (C := Try.checked) false ⟨#[], #[.slice none 0 0, .slice none 0 0], []⟩ 8 (by kernel_rfl) (by kernel_rfl) (by kernel_rfl) (by kernel_rfl)) ?_
  intro W base args ds gs before hval0 hW hcnd hsz0 _
  have hsz : (DataW.weightsEach Try.prog (Try.f3.params.toList ++ Rows.attnScoresSpec.plain.varTypes Try.prog) (ds ++ gs)).all (· ≤ reachBytes) = true := hsz0
  have hval : ∀ (j : Nat) t v, Try.f3.params[j]? = some t → args[j]? = some v → Value.okWide Try.prog W .any base t v := hval0
  have hW' := hW
  obtain ⟨p, q, hA0, hV, rfl, hfz, hnd⟩ := hW
  have hA : DataW.TrodAll enc Try.prog W 0 (fun _ => true) true Try.f3.params.toList args.toList ds p := hA0
  rw [Try.params3] at hA hval hsz
  obtain ⟨v0, vs0, d0, ds0, p0, q0, hargs, rfl, rfl, h0, r0⟩ := trodAll_cons hA
  obtain ⟨v1, vs1, d1, ds1, p1, q1, rfl, rfl, rfl, h1, r1⟩ := trodAll_cons r0
  obtain ⟨rfl, rfl, rfl⟩ := trodAll_nil r1
  obtain rfl : args = #[v0, v1] := by cases args; simp_all
  obtain ⟨rfl, rfl⟩ := trodVars_none hV
  obtain ⟨a0, len0, cap0, rfl⟩ := okWide_slice Try.underlying22 (hval 0 22 v0 rfl rfl)
  have k0 := h0
  have lt0 : ∀ x ∈ p0, x.block < W.heap.size := by obtain ⟨m, hm⟩ := k0; exact DataW.trod_lt m _ _ _ hm
  obtain ⟨z0, w0⟩ : ∃ zs, IsRow .i32 W a0 len0 cap0 zs := by
    obtain ⟨fuel, hf⟩ := h0
    rcases open_ints Try.underlying22 Try.underlying21 (by kernel_rfl) hf with ⟨hcs, _⟩ | ⟨x, l, c, zs, hcs, _, hl, hm, hz, _, hcell, hwz⟩
    · simp [Value.cells] at hcs
      obtain ⟨rfl, rfl, rfl⟩ := hcs
      exact ⟨[], .inl ⟨rfl, rfl, rfl, rfl⟩⟩
    · simp [Value.cells] at hcs
      obtain ⟨rfl, rfl, rfl⟩ := hcs
      exact ⟨zs, .inr ⟨_, rfl, hl, hm, by simpa using hz, hcell, hwz⟩⟩
  have y0 : len0 * 4 ≤ 140737488351232 := Go.Proofs.YteflolamihhmdaaW.PrintWords.sized_ints hsz (j := 0) (t := 22) rfl rfl Try.underlying22 Try.underlying21 (by kernel_rfl) (by kernel_rfl) h0
  obtain ⟨a1, len1, cap1, rfl⟩ := okWide_slice Try.underlying22 (hval 1 22 v1 rfl rfl)
  have k1 := h1
  have lt1 : ∀ x ∈ p1, x.block < W.heap.size := by obtain ⟨m, hm⟩ := k1; exact DataW.trod_lt m _ _ _ hm
  obtain ⟨z1, w1⟩ : ∃ zs, IsRow .i32 W a1 len1 cap1 zs := by
    obtain ⟨fuel, hf⟩ := h1
    rcases open_ints Try.underlying22 Try.underlying21 (by kernel_rfl) hf with ⟨hcs, _⟩ | ⟨x, l, c, zs, hcs, _, hl, hm, hz, _, hcell, hwz⟩
    · simp [Value.cells] at hcs
      obtain ⟨rfl, rfl, rfl⟩ := hcs
      exact ⟨[], .inl ⟨rfl, rfl, rfl, rfl⟩⟩
    · simp [Value.cells] at hcs
      obtain ⟨rfl, rfl, rfl⟩ := hcs
      exact ⟨zs, .inr ⟨_, rfl, hl, hm, by simpa using hz, hcell, hwz⟩⟩
  have y1 : len1 * 4 ≤ 140737488351232 := Go.Proofs.YteflolamihhmdaaW.PrintWords.sized_ints hsz (j := 1) (t := 22) rfl rfl Try.underlying22 Try.underlying21 (by kernel_rfl) (by kernel_rfl) h1
  clear hA0 hval0 hsz0 hsz
  refine (Q.credenzalaw14_AttnScores.walk Pure.AttnScores a0 len0 cap0 z0 a1 len1 cap1 z1 W w0 y0 w1 y1).mono fun e W' ⟨he, bel⟩ => ?_
  subst he
  exact ⟨_, rfl, _, _, _, [], _, [], hW', trodAll_mk1 (shut_bool Try.underlying4 _), (trodAll_cons_mk (Below.trod laidOut (by kernel_rfl) (of_decide_eq_true (by kernel_rfl)) k0 bel lt0) (trodAll_cons_mk (Below.trod laidOut (by kernel_rfl) (of_decide_eq_true (by kernel_rfl)) k1 bel lt1) trodAll_mk0)), rfl, bel.frame _, fun h => by cases h⟩
theorem over : Rows.attnScoresRow.holds Try.pinned (OpenSpec.ofChange Rows.attnScoresSpec) :=
  OpenClaim.holds_of_wide 3 Try.f3 rfl rfl rfl rfl rfl rfl rfl ⟨rfl, rfl, rfl, rfl, rfl⟩ rfl rfl rfl rfl rfl (by kernel_rfl) Try.func3 (by kernel_rfl)
    (of_decide_eq_true (by kernel_rfl)) (by unfold Func.isWrapper; first | (rw [if_pos (by decide +kernel)]; kernel_rfl) | (rw [if_neg (by decide +kernel)]; exact ⟨rfl, rfl⟩))
    (fun os started H enc _ => lifted os started H enc)
theorem proved : Rows.AttnScoresSaid := over
end Go.Proofs.Yteflolamihhmdaa.attnScores
namespace Go.Proofs.Yteflolamihhmdaa
/-- The row, under a short name, for the claim. -/
theorem attnScores_holds : Rows.AttnScoresSaid := attnScores.proved
end Go.Proofs.Yteflolamihhmdaa
